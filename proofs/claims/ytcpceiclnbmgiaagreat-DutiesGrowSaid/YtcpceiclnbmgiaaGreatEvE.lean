/- A tree evaluator over the model, proved against it (part E): where it answers, the call returns that answer. Conditions: none beyond its theorems' own. -/
import Derived.Test.YtcpceiclnbmgiaaGreatEvD
set_option linter.unusedSimpArgs false
set_option linter.unusedVariables false
namespace Go.Ev
open Go
section
variable{E:Env}{call:pw}{fl n:Nat}
end
end Go.Ev
namespace Go.Ev
open Go
def yk(c i:pw):Prop:= ∀f a sh r,c f a sh=some r→i f a sh=some r
section
variable{E:Env}
theorem A4{c i:pw}(h:yk c i){D:Nat}{st:St}{f:Nat}{args:List T}{r:T×St}(hr:iR E c D st f args=some r):iR E i D st f args=some r:=by
 unfold iR at hr ⊢
 cases I:E.fn f with
 |none=>grind
 |some af=>
  simp only[I]at hr ⊢
  cases J:(iL (fz af.eff iq) args).run st.get st.sh.length with
  |none=>grind
  |some q=>
   simp only[J]at hr ⊢
   cases H:af.eff with
   |true=>
    simp only[H,if_true,Option.map_eq_some_iff]at hr ⊢
    obtain⟨a,K,N⟩:=hr
    exact⟨a,h _ _ _ _ K,N⟩
   |false=>
    simp only[H]at hr ⊢
    cases hc:c f q.1 []with
    |none=>grind
    |some a=>
     simp only[hc]at hr
     simp only[h _ _ _ _ hc]
     exact hr
theorem qY{c I:pw}(h:yk c I){n:Nat}{o:dy}{st D:St}(hr:iN E c n o st=some D):iN E I n o st=some D:=by
 unfold iN at hr ⊢
 have K: ∀D,(match jd st.rho o.op with
  |some (some i)=>match iR E c (o.d.getD 0) st i.1 i.2 with
   |some r=>(mN st.fr n o.d r.1).map fun fr=>{r.2 with fr}
   |none=>none
  |some none=>none
  |none=>match(iX (o.d.getD 0) st.rho o.op).run st.get st.sh.length with
   |some (.val v ups)=>(mN st.fr n o.d v).map fun fr=>{st.ups ups with fr}
   |none=>none)=some D→(match jd st.rho o.op with
  |some (some i)=>match iR E I (o.d.getD 0) st i.1 i.2 with
   |some r=>(mN st.fr n o.d r.1).map fun fr=>{r.2 with fr}
   |none=>none
  |some none=>none
  |none=>match(iX (o.d.getD 0) st.rho o.op).run st.get st.sh.length with
   |some (.val v ups)=>(mN st.fr n o.d v).map fun fr=>{st.ups ups with fr}
   |none=>none)=some D:=by
  intro D hs
  cases hc:jd st.rho o.op with
  |none=>simp only[hc]at hs ⊢; exact hs
  |some x=>
   cases x with
   |none=>simp only[hc]at hs;cases hs
   |some i=>
    simp only[hc]at hs ⊢
    cases J:iR E c (o.d.getD 0) st i.1 i.2 with
    |none=>simp only[J]at hs;cases hs
    |some r=>
     simp only[J]at hs
     simp only[A4 h J]
     exact hs
 cases N:o.gd with
 |none=>grind
 |some p=>
  obtain⟨j,H⟩:=p
  simp only[N]at hr ⊢
  split at hr
  ·rename_i x hx
   by_cases O:x=H
   ·grind
   ·grind
  ·cases hr
  ·exact hr
theorem mA{c r:pw}(h:yk c r){n:Nat}: ∀(os:List dy) {st i:St},dE E c n os st=some i→dE E r n os st=some i
 | [],st,i,hr=>hr
 |o::os,st,i,hr=>by
  simp only[dE]at hr ⊢
  cases D:iN E c n o st with
  |none=>grind
  |some s=>
   simp only[D]at hr
   simp only[qY h D]
   exact mA h os hr
theorem A5{c i:pw}(h:yk c i){D:Nat}{st:St}{f:Nat}{args:List T}{r:FP}(hr:lD E c D st f args=some r):lD E i D st f args=some r:=by
 unfold lD at hr ⊢
 cases H:E.fn f with
 |none=>grind
 |some af=>
  simp only[H]at hr ⊢
  cases I:(iL (fz af.eff iq) args).run st.get st.sh.length with
  |none=>grind
  |some q=>
   simp only[I]at hr ⊢
   by_cases hi:(!inB st q.2)=true
   ·grind
   ·rw[if_neg hi]at hr ⊢
    cases J:af.eff with
    |true=>grind
    |false=>
     simp only[J]at hr ⊢
     cases hc:c f q.1 []with
     |none=>simp[hc]at hr
     |some a=>
      simp only[hc]at hr
      simp only[h _ _ _ _ hc]
      exact hr
theorem A6{c H:pw}(h:yk c H){o:dy}{st:St}{r:FP}(hr:jy E c o st=some r):jy E H o st=some r:=by
 unfold jy at hr ⊢
 have I: ∀r,(match jd st.rho o.op with
  |some (some D)=>lD E c (o.d.getD 0) st D.1 D.2
  |some none=>none
  |none=>
   let q:=iX (o.d.getD 0) st.rho o.op
   match q.run st.get st.sh.length with
   |some (.val _ i)=>if q.asks st.get st.sh.length||inB st i then some ⟨q.asks st.get st.sh.length,q.log st.get st.sh.length,jX i⟩else none
   |none=>none)=some r→(match jd st.rho o.op with
  |some (some D)=>lD E H (o.d.getD 0) st D.1 D.2
  |some none=>none
  |none=>
   let q:=iX (o.d.getD 0) st.rho o.op
   match q.run st.get st.sh.length with
   |some (.val _ i)=>if q.asks st.get st.sh.length||inB st i then some ⟨q.asks st.get st.sh.length,q.log st.get st.sh.length,jX i⟩else none
   |none=>none)=some r:=by
  intro r hs
  cases hc:jd st.rho o.op with
  |none=>simp only[hc]at hs ⊢; exact hs
  |some x=>
   cases x with
   |none=>simp only[hc]at hs;cases hs
   |some D=>simp only[hc]at hs ⊢; exact A5 h hs
 cases J:o.gd with
 |none=>grind
 |some p=>
  grind
theorem qZ{c r:pw}(h:yk c r){n:Nat}: ∀(os:List (List Nat×dy)) {jl:List FP} {st i:St},iw E c n os jl st=some i→iw E r n os jl st=some i
 | [],jl,st,i,hr=>hr
 |(u,o)::os,jl,st,i,hr=>by
  simp only[iw]at hr ⊢
  cases D:jy E c o st with
  |none=>grind
  |some fp=>
   simp only[D]at hr
   simp only[A6 h D]
   split at hr
   ·rename_i I
    rw[if_pos I]
    cases H:iN E c n o st with
    |none=>grind
    |some s=>
     simp only[H]at hr
     simp only[qY h H]
     exact qZ h os hr
   ·cases hr
theorem vg{f g:St→Option (Out×St)}(h: ∀st r,f st=some r→g st=some r): ∀{k k':Nat},k≤k'→ ∀{st:St} {r:Out×St},iter f k st=some r→iter g k' st=some r
 |0,_,_,st,r,hr=>by simp[iter]at hr
 |k+1,0,hk,_,_,_=>by omega
 |k+1,k'+1,hk,st,r,hr=>by
  simp only[iter]at hr ⊢
  cases i:f st with
  |none=>grind
  |some p=>
   rw[h _ _ i]
   rw[i]at hr
   obtain⟨o,s⟩:=p
   cases o with
   |nrm=>exact vg h (by omega) hr
   |ext id=>exact hr
   |ret=>exact hr
theorem j5{c K:pw}(h:yk c K){n:Nat}{fl I:Nat}(i:fl≤I): ∀(code:fx) {st:St} {r:Out×St},mq E c fl n code st=some r→mq E K I n code st=some r
 | .skip,st,r,hr=>hr
 | .region ops,st,r,hr=>by
   simp only[mq,Option.map_eq_some_iff]at hr ⊢
   obtain⟨a,D,H⟩:=hr
   exact⟨a,mA h ops D,H⟩
 | .draws ops,st,r,hr=>by
   simp only[mq,Option.map_eq_some_iff]at hr ⊢
   obtain⟨a,D,H⟩:=hr
   exact⟨a,qZ h ops D,H⟩
 | .seq a b,st,r,hr=>by
   simp only[mq]at hr ⊢
   cases J:mq E c fl n a st with
   |none=>grind
   |some p=>
    rw[j5 h i a J]
    rw[J]at hr
    obtain⟨o,s⟩:=p
    cases o with
    |nrm=>exact j5 h i b hr
    |ext id=>exact hr
    |ret=>exact hr
 | .fork os Es b,st,r,hr=>by
   simp only[mq]at hr ⊢
   cases D:dE E c n os st with
   |none=>grind
   |some V=>
    cases H:dE E c n Es st with
    |none=>grind
    |some W=>
     rw[mA h os D,mA h Es H]
     rw[D,H]at hr
     simp only[]at hr ⊢
     obtain⟨o,s⟩:=r
     obtain⟨X,Y,N,O,Z,rfl⟩:=wD hr
     rw[N,O]at hr
     rw[j5 h i b N,j5 h i b O]
     exact hr
 | .cond x a b,st,r,hr=>by
   simp only[mq]at hr ⊢
   split at hr
   ·exact j5 h i a hr
   ·exact j5 h i b hr
   ·cases hr
 | .block id a,st,r,hr=>by
   simp only[mq]at hr ⊢
   cases J:mq E c fl n a st with
   |none=>grind
   |some p=>
    rw[j5 h i a J]
    grind
 | .loop a,st,r,hr=>by
   simp only[mq]at hr ⊢
   exact vg (fun st r U=>j5 h i a U) i hr
 | .exit id,st,r,hr=>hr
 | .ret,st,r,hr=>hr
theorem js: ∀{m i:Nat},m≤i→yk (jP E m) (jP E i)
 |0,i,_=>fun f a sh r h=>by simp[jP]at h
 |m+1,0,h=>by omega
 |m+1,i+1,h=>fun f a sh r hr=>by
  simp only[jP]at hr ⊢
  cases D:E.fn f with
  |none=>grind
  |some af=>
   simp only[D]at hr ⊢
   split at hr
   ·cases hr
   ·rename_i H
    rw[if_neg H]
    cases hc:mq E (jP E m) m af.n af.code {fr:=pF a,lh:= .nil,sh}with
    |none=>grind
    |some p=>
     rw[j5 (js (Nat.le_of_succ_le_succ h)) (Nat.le_of_succ_le_succ h) af.code hc]
     grind
end
noncomputable def lim{α:Type}(F:Nat→Option α):Option α:=
 open Classical in if h: ∃m,(F m).isSome=true then F (Classical.choose h)else none
def aq4{α:Type}(F:Nat→Option α):Prop:= ∀m i r,m≤i→F m=some r→F i=some r
theorem N8{α:Type}{F:Nat→Option α}(D:aq4 F)(r:α):lim F=some r↔ ∃m,F m=some r:=by
 unfold lim
 constructor
 ·intro h
  split at h
  ·grind
  ·cases h
 ·rintro⟨m,H⟩
  have i: ∃m,(F m).isSome=true:=⟨m,by rw[H];rfl⟩
  rw[dif_pos i]
  have hs:=Classical.choose_spec i
  generalize Classical.choose i=k at hs
  cases hk:F k with
  |none=>grind
  |some a=>
   have I:=D k (max k m) a (Nat.le_max_left _ _) hk
   have J:=D m (max k m) r (Nat.le_max_right _ _) H
   grind
section
variable(E:Env)
noncomputable def be:pw:=fun f a sh=>lim fun m=>jP E m f a sh
noncomputable def DC(n:Nat)(code:fx)(st:St):Option (Out×St):=lim fun m=>mq E (jP E m) m n code st
end
section
variable{E:Env}
theorem DCall_iff{f:Nat}{a:List T}{sh:List b8}{r:T×List b8}:be E f a sh=some r↔ ∃m,jP E m f a sh=some r:=
 N8 (fun m i r h hr=>js h _ _ _ _ hr) r
theorem kb{n:Nat}{code:fx}{st:St}{r:Out×St}:DC E n code st=some r↔ ∃m,mq E (jP E m) m n code st=some r:=
 N8 (fun m i r h hr=>j5 (js h) h code hr) r
theorem td(m:Nat):yk (jP E m) (be E):=fun f a sh r h=>DCall_iff.2 ⟨m,h⟩
theorem L3{i:Nat}{st:St}{f:Nat}{args:List T}{r:T×St}(hr:iR E (be E) i st f args=some r): ∃m,iR E (jP E m) i st f args=some r:=by
 unfold iR at hr
 cases D:E.fn f with
 |none=>refine⟨0, ?_⟩;unfold iR;cases hx:E.ext f <;> simp only[D,hx]at hr ⊢ <;> exact hr
 |some af=>
  simp only[D]at hr
  grind [iR,Option.map_eq_some_iff,DCall_iff.1]
theorem L4{i:Nat}{st:St}{f:Nat}{args:List T}{r:FP}(hr:lD E (be E) i st f args=some r): ∃m,lD E (jP E m) i st f args=some r:=by
 unfold lD at hr
 cases D:E.fn f with
 |none=>refine⟨0, ?_⟩;unfold lD;cases hx:E.ext f <;> simp only[D,hx]at hr ⊢ <;> exact hr
 |some af=>
  simp only[D]at hr
  cases H:(iL (fz af.eff iq) args).run st.get st.sh.length with
  |none=>grind
  |some q=>
   simp only[H]at hr
   by_cases hi:(!inB st q.2)=true
   ·grind
   ·rw[if_neg hi]at hr
    cases I:af.eff with
    |true=>
     simp_all[lD]
    |false=>
     grind [lD,DCall_iff.1]
theorem Dp{n:Nat}{o:dy}{st D:St}(hr:iN E (be E) n o st=some D): ∃m,iN E (jP E m) n o st=some D:=by
 cases hc:jd st.rho o.op with
 |none=>
  simp_all[iN]
 |some x=>
  cases x with
  |none=>
   simp_all[iN]
  |some i=>
   cases H:iR E (be E) (o.d.getD 0) st i.1 i.2 with
   |none=>
    refine⟨0, ?_⟩
    have I:iR E (jP E 0) (o.d.getD 0) st i.1 i.2=none:=by
     cases I:iR E (jP E 0) (o.d.getD 0) st i.1 i.2 with
     |none=>rfl
     |some r=>rw[A4 (td 0) I]at H;cases H
    grind [iN]
   |some r=>
    grind [iN,L3]
theorem L5{o:dy}{st:St}{r:FP}(hr:jy E (be E) o st=some r): ∃m,jy E (jP E m) o st=some r:=by
 cases hc:jd st.rho o.op with
 |none=>
  simp_all[jy]
 |some x=>
  cases x with
  |none=>
   simp_all[jy]
  |some i=>
   cases D:lD E (be E) (o.d.getD 0) st i.1 i.2 with
   |none=>
    refine⟨0, ?_⟩
    have H:lD E (jP E 0) (o.d.getD 0) st i.1 i.2=none:=by
     cases H:lD E (jP E 0) (o.d.getD 0) st i.1 i.2 with
     |none=>rfl
     |some r=>rw[A5 (td 0) H]at D;cases D
    grind [jy]
   |some r=>
    grind [jy,L4]
theorem vh{n:Nat}: ∀(os:List dy) {st i:St},dE E (be E) n os st=some i→ ∃m,dE E (jP E m) n os st=some i
 | [],st,i,hr=>⟨0,hr⟩
 |o::os,st,i,hr=>by
  simp only[dE]at hr
  cases H:iN E (be E) n o st with
  |none=>grind
  |some s=>
   simp only[H]at hr
   obtain⟨r,I⟩:=Dp H
   obtain⟨D,J⟩:=vh os hr
   refine⟨max r D, ?_⟩
   simp only[dE,qY (js (Nat.le_max_left r D)) I]
   exact mA (js (Nat.le_max_right r D)) os J
theorem Dq{n:Nat}: ∀(os:List (List Nat×dy)) {jl:List FP} {st H:St},iw E (be E) n os jl st=some H→ ∃m,iw E (jP E m) n os jl st=some H
 | [],jl,st,H,hr=>⟨0,hr⟩
 |(u,o)::os,jl,st,H,hr=>by
  simp only[iw]at hr
  cases I:jy E (be E) o st with
  |none=>grind
  |some fp=>
   simp only[I]at hr
   split at hr
   ·rename_i K
    cases J:iN E (be E) n o st with
    |none=>grind
    |some s=>
     simp only[J]at hr
     obtain⟨i,N⟩:=Dp J
     obtain⟨r,O⟩:=Dq os hr
     obtain⟨D,U⟩:=L5 I
     refine⟨max D (max i r), ?_⟩
     have V:i≤max D (max i r):=by omega
     have W:r≤max D (max i r):=by omega
     have X:D≤max D (max i r):=by omega
     simp only[iw,A6 (js X) U,qY (js V) N]
     rw[if_pos K]
     exact qZ (js W) os O
   ·cases hr
theorem te{α:Type}{x y:Option α}(h: ∀r,x=some r↔y=some r):x=y:=Option.ext h
theorem aad{n:Nat}{st:St}:DC E n .skip st=some (.nrm,st):=kb.2 ⟨0,rfl⟩
theorem aae{n id:Nat}{st:St}:DC E n (.exit id) st=some (.ext id,st):=kb.2 ⟨0,rfl⟩
theorem ahg{n:Nat}{st:St}:DC E n .ret st=some (.ret,st):=kb.2 ⟨0,rfl⟩
theorem FM{n:Nat}{ops:List dy}{st:St}:DC E n (.region ops) st=(dE E (be E) n ops st).map fun i=>(.nrm,i):=by
 refine te fun r=> ?_
 rw[kb,Option.map_eq_some_iff]
 constructor
 ·rintro⟨m,h⟩
  simp only[mq,Option.map_eq_some_iff]at h
  obtain⟨a,D,H⟩:=h
  exact⟨a,mA (td m) ops D,H⟩
 grind [mq,Option.map_eq_some_iff,vh]
theorem JL{n:Nat}{ops:List (List Nat×dy)}{st:St}:DC E n (.draws ops) st=(iw E (be E) n ops [] st).map fun i=>(.nrm,i):=by
 refine te fun r=> ?_
 rw[kb,Option.map_eq_some_iff]
 constructor
 ·rintro⟨m,h⟩
  simp only[mq,Option.map_eq_some_iff]at h
  obtain⟨a,D,H⟩:=h
  exact⟨a,qZ (td m) ops D,H⟩
 grind [mq,Option.map_eq_some_iff,Dq]
def andThen(x:Option (Out×St))(f:St→Option (Out×St)):Option (Out×St):=
 match x with
 |some (.nrm,i)=>f i
 |r=>r
theorem nw{st:St}{f:St→Option (Out×St)}:andThen (some (.nrm,st)) f=f st:=rfl
theorem JM{id:Nat}{st:St}{f:St→Option (Out×St)}:andThen (some (.ext id,st)) f=some (.ext id,st):=rfl
theorem JN{st:St}{f:St→Option (Out×St)}:andThen (some (.ret,st)) f=some (.ret,st):=rfl
theorem G1{f:St→Option (Out×St)}:andThen none f=none:=rfl
theorem Ac{n:Nat}{a b:fx}{st:St}:DC E n (.seq a b) st=andThen (DC E n a st) (DC E n b):=by
 refine te fun r=> ?_
 rw[kb]
 constructor
 ·rintro⟨m,h⟩
  simp only[mq]at h
  cases i:mq E (jP E m) m n a st with
  |none=>grind
  |some p=>
   rw[i]at h
   rw[kb.2 ⟨m,i⟩]
   obtain⟨o,s⟩:=p
   cases o with
   |nrm=>exact kb.2 ⟨m,h⟩
   |ext id=>exact h
   |ret=>exact h
 ·intro h
  cases i:DC E n a st with
  |none=>rw[i]at h;cases h
  |some p=>
   rw[i]at h
   obtain⟨D,H⟩:=kb.1 i
   obtain⟨o,s⟩:=p
   cases o with
   |nrm=>
    obtain⟨I,N⟩:=kb.1 h
    refine⟨max D I, ?_⟩
    have J:=Nat.le_max_left D I
    have K:=Nat.le_max_right D I
    simp only[mq,j5 (js J) J a H]
    exact j5 (js K) K b N
   |ext id=>refine⟨D, ?_⟩;simp only[mq,H];exact h
   |ret=>refine⟨D, ?_⟩;simp only[mq,H];exact h
theorem aaf{n:Nat}{c:im}{a b:fx}{st:St}:DC E n (.cond c a b) st=match st.rho c with| .b true=>DC E n a st| .b false=>DC E n b st|_=>none:=by
 refine te fun r=> ?_
 grind [kb,mq,kb.2,kb.1]
def A9(id:Nat)(x:Option (Out×St)):Option (Out×St):=
 match x with
 |some (.ext Qr,i)=>if Qr=id then some (.nrm,i)else some (.ext Qr,i)
 |r=>r
theorem QG{id:Nat}{st:St}:A9 id (some (.nrm,st))=some (.nrm,st):=rfl
theorem QH{id:Nat}{st:St}:A9 id (some (.ret,st))=some (.ret,st):=rfl
theorem QI{id Qr:Nat}{st:St}:A9 id (some (.ext Qr,st))=if Qr=id then some (.nrm,st)else some (.ext Qr,st):=rfl
theorem L6{id:Nat}:A9 id none=none:=rfl
theorem UP{n id:Nat}{a:fx}{st:St}:DC E n (.block id a) st=A9 id (DC E n a st):=by
 refine te fun r=> ?_
 rw[kb]
 constructor
 ·rintro⟨m,h⟩
  simp only[mq]at h
  cases i:mq E (jP E m) m n a st with
  |none=>grind
  |some p=>
   rw[i]at h
   rw[kb.2 ⟨m,i⟩]
   exact h
 ·intro h
  cases i:DC E n a st with
  |none=>rw[i]at h;cases h
  |some p=>
   rw[i]at h
   obtain⟨D,H⟩:=kb.1 i
   refine⟨D, ?_⟩
   simp only[mq,H]
   exact h
theorem BM{n:Nat}{a:fx}{st:St}:DC E n (.loop a) st=andThen (DC E n a st) (DC E n (.loop a)):=by
 refine te fun r=> ?_
 rw[kb]
 constructor
 ·rintro⟨m,h⟩
  simp only[mq]at h
  cases m with
  |zero=>simp[iter]at h
  |succ m=>
   rw[iter]at h
   cases D:mq E (jP E (m+1)) (m+1) n a st with
   |none=>grind
   |some p=>
    rw[D]at h
    rw[kb.2 ⟨m+1,D⟩]
    obtain⟨o,s⟩:=p
    cases o with
    |nrm=>
     refine kb.2 ⟨m+1, ?_⟩
     simp only[mq]
     exact vg (fun _ _ h=>h) (Nat.le_succ m) h
    |ext id=>exact h
    |ret=>exact h
 ·intro h
  cases D:DC E n a st with
  |none=>rw[D]at h;cases h
  |some p=>
   rw[D]at h
   obtain⟨i,I⟩:=kb.1 D
   obtain⟨o,s⟩:=p
   cases o with
   |nrm=>
    obtain⟨H,J⟩:=kb.1 h
    refine⟨max i H+1, ?_⟩
    have K:i≤max i H+1:=by omega
    have N:H≤max i H+1:=by omega
    have O:H≤max i H:=by omega
    simp only[mq]at J
    simp only[mq]
    rw[iter,j5 (js K) K a I]
    exact vg (fun st r U=>j5 (js N) N a U) O J
   |ext id=>
    refine⟨i+1, ?_⟩
    simp only[mq]
    rw[iter,j5 (js (Nat.le_succ i)) (Nat.le_succ i) a I]
    exact h
   |ret=>
    refine⟨i+1, ?_⟩
    simp only[mq]
    rw[iter,j5 (js (Nat.le_succ i)) (Nat.le_succ i) a I]
    exact h
def UQ(af:gP)(x:Option (Out×St)):Option (T×List b8):=
 match x with
 |some (.ext _,_)=>none
 |some (_,st)=>match nh st af.res with
  |some i=>sP af.own af.eff i st
  |none=>none
 |none=>none
theorem JO{f:Nat}{af:gP}{args:List T}{sh:List b8}(i:E.fn f=some af)(D:args.length≤af.n):
  be E f args sh=UQ af (DC E af.n af.code {fr:=pF args,lh:= .nil,sh}):=by
 refine te fun r=> ?_
 rw[DCall_iff]
 constructor
 ·rintro⟨m,h⟩
  cases m with
  |zero=>simp[jP]at h
  |succ m=>
   simp only[jP,i,if_neg (Nat.not_lt.2 D)]at h
   cases hc:mq E (jP E m) m af.n af.code {fr:=pF args,lh:= .nil,sh}with
   |none=>grind
   |some p=>rw[hc]at h;rw[kb.2 ⟨m,hc⟩];exact h
 ·intro h
  cases hc:DC E af.n af.code {fr:=pF args,lh:= .nil,sh}with
  |none=>rw[hc]at h;cases h
  |some p=>
   rw[hc]at h
   obtain⟨m,H⟩:=kb.1 hc
   refine⟨m+1, ?_⟩
   simp only[jP,i,if_neg (Nat.not_lt.2 D),H]
   exact h
end
end Go.Ev
namespace Go.Ev
open Go
theorem nr{α:Sort _}{a b:α}(h:a=b):a=b:=h
def rd(fr:Fr):im→T
 | .t k=>an fr k
 | .c v=>v
theorem axy(fr:Fr)(k:Nat):rd fr (.t k)=an fr k:=nr rfl
theorem axz(fr:Fr)(v:T):rd fr (.c v)=v:=nr rfl
theorem ko(fr:Fr)(lh:gW b8)(sh:List b8):(St.mk fr lh sh).rho=rd fr:=by funext x;cases x <;> rfl
theorem UR(fr:Fr)(d:Nat)(v:T):an (jV fr d v) d=v:=by rw[qa,if_pos rfl]
theorem US(fr:Fr){d m:Nat}(v:T)(h:m≠d):an (jV fr d v) m=an fr m:=by rw[qa,if_neg h]
def b7(lh:gW b8)(k:Nat):b8:=gW.get lG lh k
def nj(lh:gW b8)(k:Nat)(e:b8):gW b8:=gW.set lG lh k e
theorem sg(lh:gW b8)(k:Nat)(e:b8):b7 (nj lh k e) k=e:=by grind [b7,nj,gW.get_set]
theorem jh(lh:gW b8){k m:Nat}(e:b8)(h:m≠k):b7 (nj lh k e) m=b7 lh m:=by grind [b7,nj,gW.get_set]
theorem UT(k:Nat):b7 .nil k=lG:=by unfold b7;exact gW.get_nil _ _
theorem N9(fr:Fr)(lh:gW b8)(sh:List b8)(k:Nat):(St.mk fr lh sh).get .L k=b7 lh k:=rfl
theorem BO(st:St):st.ups []=st:=rfl
theorem aeT(fr:Fr)(lh:gW b8)(sh:List b8)(k:Nat)(e:b8)(us:List Up):(St.mk fr lh sh).ups ((.L,k,e)::us)=(St.mk fr (nj lh k e) sh).ups us:=rfl
def pQ:Option CN→Option (T×List Up)
 |some (.val v i)=>some (v,i)
 |none=>none
def one(fr:Fr)(lh:gW b8)(sh:List b8)(d:Nat)(op:l9):Option (T×List Up):=
 pQ ((iX d (rd fr) op).run (St.mk fr lh sh).get sh.length)
def vH(fr:Fr):Option Nat→T→Fr
 |some d,v=>jV fr d v
 |none,_=>fr
def Eu(n:Nat):Option Nat→Prop
 |some d=>d<n
 |none=>True
section
variable{E:Env}{call:pw}{n:Nat}{fr:Fr}{lh:gW b8}{sh:List b8}{os:List dy}
theorem aq5{st:St}:dE E call n [] st=some st:=rfl
theorem pg{d:Option Nat}{op:l9}(hc:jd (rd fr) op=none)(i:Eu n d):
  dE E call n (⟨d,op,none⟩::os) ⟨fr,lh,sh⟩=(one fr lh sh (d.getD 0) op).bind fun r=>dE E call n os {(St.mk fr lh sh).ups r.2 with fr:=vH fr d r.1}:=by
 simp only[dE,iN,ko,hc]
 unfold one
 cases h:(iX (d.getD 0) (rd fr) op).run (St.mk fr lh sh).get sh.length with
 |none=>rfl
 |some r=>
  obtain⟨v,ups⟩:=r
  simp only[Option.bind_some,pQ]
  cases d with
  |none=>rfl
  |some d=>simp only[mN,if_pos (show d<n from i),vH,Option.map_some]
theorem kR{d:Option Nat}{op:l9}(hc:jd (rd fr) op=none)(i:Eu n d){v:Option T}(r:one fr lh sh (d.getD 0) op=v.map fun v=>(v,[])):
  dE E call n (⟨d,op,none⟩::os) ⟨fr,lh,sh⟩=v.bind fun v=>dE E call n os ⟨vH fr d v,lh,sh⟩:=by
 rw[pg hc i,r]
 cases v <;> rfl
theorem oW{o:Option T}{h:Sp→Nat→b8}{i:Nat}:pQ ((val o).run h i)=o.map fun v=>(v,([]:List Up)):=by
 cases o <;> rfl
variable{d:Nat}
theorem axA{x:im}(i:d<n):dE E call n (⟨some d,.mv x,none⟩::os) ⟨fr,lh,sh⟩=dE E call n os ⟨jV fr d (rd fr x),lh,sh⟩:=
 kR (d:=some d) (v:=some (rd fr x)) (by rfl) i rfl
def Oa(c a b:T):Option T:=match c with| .b x=>some (if x=true then a else b)|_=>none
theorem aag(x:Bool)(a b:T):Oa (.b x) a b=some (if x=true then a else b):=rfl
theorem ahh{c a b:im}(i:d<n):dE E call n (⟨some d,.pick c a b,none⟩::os) ⟨fr,lh,sh⟩=(Oa (rd fr c) (rd fr a) (rd fr b)).bind fun v=>dE E call n os ⟨jV fr d v,lh,sh⟩:=by
 refine kR (d:=some d) (by rfl) i ?_
 unfold one Oa
 simp only[iX]
 cases h:rd fr c <;> try rfl
 rename_i x
 cases x <;> rfl
theorem aq6{op:BinOp}{x y:im}(i:d<n):dE E call n (⟨some d,.bin op x y,none⟩::os) ⟨fr,lh,sh⟩=(Ev.bin op (rd fr x) (rd fr y)).bind fun v=>dE E call n os ⟨jV fr d v,lh,sh⟩:=
 kR (d:=some d) (by rfl) i oW
theorem axB{neg:Bool}{k:EK}{x y:im}(i:d<n):dE E call n (⟨some d,.eq neg k x y,none⟩::os) ⟨fr,lh,sh⟩=((vD k (rd fr x) (rd fr y)).map fun r=>T.b (r != neg)).bind fun v=>dE E call n os ⟨jV fr d v,lh,sh⟩:=
 kR (d:=some d) (by rfl) i oW
theorem axC{op:UnOp}{x:im}(i:d<n):dE E call n (⟨some d,.un op x,none⟩::os) ⟨fr,lh,sh⟩=(Ev.un op (rd fr x)).bind fun v=>dE E call n os ⟨jV fr d v,lh,sh⟩:=
 kR (d:=some d) (by rfl) i oW
def aah(k:IntKind):T→Option T
 | .i _ n=>some (.i k (wr k n))
 |_=>none
theorem aq7{k:IntKind}{x:im}(i:d<n):dE E call n (⟨some d,.cvi k x,none⟩::os) ⟨fr,lh,sh⟩=(aah k (rd fr x)).bind fun v=>dE E call n os ⟨jV fr d v,lh,sh⟩:=by
 refine kR (d:=some d) (by rfl) i ?_
 unfold one aah
 simp only[iX]
 cases h:rd fr x <;> rfl
def aai:T→Option T
 | .sl [.i .u8 (.ofNat k)] 1 _=>if k<256 then some (.s [k])else none
 |_=>none
theorem aq8{x:im}(i:d<n):dE E call n (⟨some d,.b2s x,none⟩::os) ⟨fr,lh,sh⟩=(aai (rd fr x)).bind fun v=>dE E call n os ⟨jV fr d v,lh,sh⟩:=by
 refine kR (d:=some d) (by rfl) i ?_
 unfold one aai
 simp only[iX]
 generalize rd fr x=y
 split
 ·rename_i k ex
  by_cases hk:k<256
  ·rw[if_pos hk];simp only[hk,if_true];rfl
  ·rw[if_neg hk];simp only[hk,if_false];rfl
 ·rename_i h
  split
  ·rename_i k ex;exact absurd rfl (h k ex)
  ·rfl
theorem ahi{f:Nat}{a c:List im}(i:d<n):dE E call n (⟨some d,.mkfn f a c,none⟩::os) ⟨fr,lh,sh⟩=dE E call n os ⟨jV fr d (.fn f (a.map (rd fr)) (c.map (rd fr))),lh,sh⟩:=
 kR (d:=some d) (v:=some _) (by rfl) i rfl
def G2(fr:Fr)(z:List T)(ps:List (Nat×Nat×im)):Option T:=
 if(ps.all fun p=>(cellsOf (rd fr p.2.2)).length=p.2.1&&noTup (rd fr p.2.2))=true then(pO z (ps.map fun p=>(p.1,cellsOf (rd fr p.2.2)))).map .agg else none
theorem aaj{z:List T}{ps:List (Nat×Nat×im)}(i:d<n):dE E call n (⟨some d,.build z ps,none⟩::os) ⟨fr,lh,sh⟩=(G2 fr z ps).bind fun v=>dE E call n os ⟨jV fr d v,lh,sh⟩:=by
 refine kR (d:=some d) (by rfl) i ?_
 unfold one G2
 simp only[iX]
 split
 ·exact oW
 ·rfl
def Ds(fr:Fr)(x:T)(l h:Option im):Option T:=
 match x with
 | .s i=>match kl (rd fr) 0 l,kl (rd fr) i.length h with
   |some l,some h=>if l≤h∧h≤i.length then some (.s ((i.drop l).take (h-l)))else none
   |_,_=>none
 |_=>none
theorem aq9{x:im}{l h:Option im}(D:d<n):dE E call n (⟨some d,.slS x l h,none⟩::os) ⟨fr,lh,sh⟩=(Ds fr (rd fr x) l h).bind fun v=>dE E call n os ⟨jV fr d v,lh,sh⟩:=by
 refine kR (d:=some d) (by rfl) D ?_
 unfold one Ds
 simp only[iX]
 cases hx:rd fr x <;> try rfl
 rename_i i
 simp only[]
 cases H:kl (rd fr) 0 l <;> cases I:kl (rd fr) i.length h <;> try rfl
 rename_i a b
 simp only[Bool.and_eq_true,decide_eq_true_eq]
 by_cases r:a≤b∧b≤i.length
 ·simp only[if_pos r];rfl
 ·simp only[if_neg r];rfl
def faV(x:T)(off:Nat):Option T:=
 match x with
 | .vp cs=>if off≤cs.length then some (.vp (cs.drop off))else none
 | .ptr sp k g o=>some (.ptr sp k g (o+off))
 |_=>none
theorem axD{x:im}{off:Nat}(i:d<n):dE E call n (⟨some d,.fa x off,none⟩::os) ⟨fr,lh,sh⟩=(faV (rd fr x) off).bind fun v=>dE E call n os ⟨jV fr d v,lh,sh⟩:=by
 refine kR (d:=some d) (by rfl) i ?_
 unfold one faV
 simp only[iX]
 cases hx:rd fr x <;> try rfl
 rename_i cs
 simp only[]
 split <;> rfl
def lH(x i:T)(sz:Nat):Option T:=
 match asNat i,x with
 |some j,.sl cs len _=>if j<len∧(j+1)*sz≤cs.length then some (.vp (cs.drop (j*sz)))else none
 |some j,.isl sp k g off len r=>if j<len∧r=sz then some (.ptr sp k g (off+j*sz))else none
 |_,_=>none
theorem axE{x i:im}{sz:Nat}(r:d<n):dE E call n (⟨some d,.ia x i sz,none⟩::os) ⟨fr,lh,sh⟩=(lH (rd fr x) (rd fr i) sz).bind fun v=>dE E call n os ⟨jV fr d v,lh,sh⟩:=by
 refine kR (d:=some d) (by rfl) r ?_
 unfold one lH
 simp only[iX]
 cases D:asNat (rd fr i)with
 |none=>rfl
 |some j=>
  cases hx:rd fr x <;> try rfl
  ·simp only[Bool.and_eq_true,decide_eq_true_eq];split <;> rfl
  ·simp only[Bool.and_eq_true,decide_eq_true_eq];split <;> rfl
def kS(x i:T)(len sz:Nat):Option T:=
 match asNat i,x with
 |some j,.vp cs=>if j<len∧(j+1)*sz≤cs.length then some (.vp (cs.drop (j*sz)))else none
 |some j,.ptr sp k g off=>if j<len then some (.ptr sp k g (off+j*sz))else none
 |_,_=>none
theorem arb{x i:im}{len sz:Nat}(r:d<n):dE E call n (⟨some d,.iaA x i len sz,none⟩::os) ⟨fr,lh,sh⟩=(kS (rd fr x) (rd fr i) len sz).bind fun v=>dE E call n os ⟨jV fr d v,lh,sh⟩:=by
 refine kR (d:=some d) (by rfl) r ?_
 unfold one kS
 simp only[iX]
 cases D:asNat (rd fr i)with
 |none=>rfl
 |some j=>
  cases hx:rd fr x <;> try rfl
  ·simp only[Bool.and_eq_true,decide_eq_true_eq];split <;> rfl
  ·simp only[];split <;> rfl
def L7(x r:T):Option T:=
 match asNat r,x with
 |some j,.s D=>D[j]?.map fun c=> .i .u8 c
 |_,_=>none
theorem arc{x i:im}(r:d<n):dE E call n (⟨some d,.ixS x i,none⟩::os) ⟨fr,lh,sh⟩=(L7 (rd fr x) (rd fr i)).bind fun v=>dE E call n os ⟨jV fr d v,lh,sh⟩:=by
 refine kR (d:=some d) (by rfl) r ?_
 unfold one L7
 simp only[iX]
 cases H:asNat (rd fr i)with
 |none=>rfl
 |some j=>
  cases hx:rd fr x <;> try rfl
  rename_i D
  simp only[]
  cases I:D[j]? <;> rfl
def aak(x i:T)(len sz:Nat)(ag:Bool):Option T:=
 match asNat i,x with
 |some j,.agg cs=>if j<len then part cs (j*sz) sz ag else none
 |_,_=>none
theorem ard{x i:im}{len sz:Nat}{ag:Bool}(r:d<n):dE E call n (⟨some d,.ixA x i len sz ag,none⟩::os) ⟨fr,lh,sh⟩=(aak (rd fr x) (rd fr i) len sz ag).bind fun v=>dE E call n os ⟨jV fr d v,lh,sh⟩:=by
 refine kR (d:=some d) (by rfl) r ?_
 unfold one aak
 simp only[iX]
 cases D:asNat (rd fr i)with
 |none=>rfl
 |some j=>
  cases hx:rd fr x <;> try rfl
  simp only[]
  split
  ·exact oW
  ·rfl
def aal(x:T)(j:Nat):Option T:=match x with| .tup vs=>vs[j]? |_=>none
theorem are{x:im}{j:Nat}(i:d<n):dE E call n (⟨some d,.ext x j,none⟩::os) ⟨fr,lh,sh⟩=(aal (rd fr x) j).bind fun v=>dE E call n os ⟨jV fr d v,lh,sh⟩:=by
 refine kR (d:=some d) (by rfl) i ?_
 unfold one aal
 simp only[iX]
 cases hx:rd fr x <;> try rfl
 exact oW
def Oc(x:T):Option T:=match x with| .s bs=>some (.i .i64 bs.length)|_=>none
theorem ahj{x:im}(i:d<n):dE E call n (⟨some d,.lenS x,none⟩::os) ⟨fr,lh,sh⟩=(Oc (rd fr x)).bind fun v=>dE E call n os ⟨jV fr d v,lh,sh⟩:=by
 refine kR (d:=some d) (by rfl) i ?_
 unfold one Oc
 simp only[iX]
 cases hx:rd fr x <;> rfl
theorem ahk{x:im}(r:d<n):dE E call n (⟨some d,.lenV x,none⟩::os) ⟨fr,lh,sh⟩=((rz (rd fr x)).map fun m=>T.i .i64 m).bind fun v=>dE E call n os ⟨jV fr d v,lh,sh⟩:=
 kR (d:=some d) (by rfl) r oW
def mmV(i:Bool)(l:List T):Option T:=match l with|x::rest=>ng i x rest| []=>none
theorem axF{i:Bool}{args:List im}(D:d<n):dE E call n (⟨some d,.mm i args,none⟩::os) ⟨fr,lh,sh⟩=(mmV i (args.map (rd fr))).bind fun v=>dE E call n os ⟨jV fr d v,lh,sh⟩:=by
 refine kR (d:=some d) (by rfl) D ?_
 unfold one mmV
 simp only[iX]
 cases hx:args.map (rd fr)with
 |nil=>rfl
 |cons x r=>exact oW
def QJ(x:T):Option T:=match x with| .vp cs=>some (.vp cs)| .ptr sp k g off=>some (.ptr sp k g off)| .fn f a c=>some (.fn f a c)|_=>none
theorem aam{x:im}:one fr lh sh d (.nck x)=(QJ (rd fr x)).map fun v=>(v,[]):=by
 unfold one QJ
 simp only[iX]
 cases hx:rd fr x <;> rfl
theorem arf{x:im}(i:d<n):dE E call n (⟨some d,.nck x,none⟩::os) ⟨fr,lh,sh⟩=(QJ (rd fr x)).bind fun v=>dE E call n os ⟨jV fr d v,lh,sh⟩:=
 kR (d:=some d) (by rfl) i aam
def ldE(e:b8)(g off m:Nat)(ag:Bool):Option T:=
 match e with
 |⟨i,.cells cs _ _⟩=>if i=g then part cs off m ag else none
 |_=>none
theorem QK{g i off m wm:Nat}{ag bx:Bool}{cs:List T}:ldE ⟨i,.cells cs wm bx⟩ g off m ag=if i=g then part cs off m ag else none:=rfl
def Y7(lh:gW b8)(sh:List b8)(x:T)(m:Nat)(ag:Bool):Option T:=
 match x with
 | .vp cs=>part cs 0 m ag
 | .ptr .L k g off=>ldE (b7 lh k) g off m ag
 | .ptr .S k g off=>ldE (gY sh k) g off m ag
 |_=>none
theorem UU{α:Type}{o:Option α}{h:Sp→Nat→b8}{i:Nat}:(Q.of o).run h i=o:=by cases o <;> rfl
theorem ldQ{h:Sp→Nat→b8}{r g off m:Nat}{ag:Bool}(e:b8):Q.run h r (if e.g=g then(match e.ob with| .cells cs _ _=>Q.of (part cs off m ag)|_=> .fail)else .fail)=ldE e g off m ag:=by
 obtain⟨D,ob⟩:=e
 unfold ldE
 by_cases i:D=g
 ·cases ob <;> simp only[i,if_true] <;> first|rfl|exact UU
 ·cases ob <;> simp only[i,if_false] <;> rfl
theorem Od{x:T}{m:Nat}{ag:Bool}:(GC x m ag).run (St.mk fr lh sh).get sh.length=Y7 lh sh x m ag:=by
 unfold GC Y7
 cases x <;> try rfl
 ·exact UU
 ·rename_i sp k g off
  cases sp
  ·exact ldQ (b7 lh k)
  ·exact ldQ (gY sh k)
theorem iS{α β:Type}{h:Sp→Nat→b8}{i:Nat}{f:α→Q β}: ∀(q:Q α),(q.bind f).run h i=(q.run h i).bind fun a=>(f a).run h i
 | .ret a=>rfl
 | .fail=>rfl
 | .rd sp k g=>iS (g (h sp k))
 | .new g=>iS (g i)
theorem axG{x:im}{m:Nat}{ag:Bool}(i:d<n):dE E call n (⟨some d,.ld x m ag,none⟩::os) ⟨fr,lh,sh⟩=(Y7 lh sh (rd fr x) m ag).bind fun v=>dE E call n os ⟨jV fr d v,lh,sh⟩:=by
 refine kR (d:=some d) (by rfl) i ?_
 unfold one
 simp only[iX,iS,Od]
 cases Y7 lh sh (rd fr x) m ag <;> rfl
theorem aan{z:List T}(i:d<n):dE E call n (⟨some d,.alloc z false,none⟩::os) ⟨fr,lh,sh⟩=dE E call n os ⟨jV fr d (.ptr .L d ((b7 lh d).g+1) 0),nj lh d ⟨(b7 lh d).g+1,.cells z 0 true⟩,sh⟩:=by
 rw[pg (by rfl) (show Eu n (some d)from i)];rfl
theorem arh{x:im}(i:d<n)(r:noTup (rd fr x)=true):dE E call n (⟨some d,.box x false,none⟩::os) ⟨fr,lh,sh⟩=dE E call n os ⟨jV fr d (.ptr .L d ((b7 lh d).g+1) 0),nj lh d ⟨(b7 lh d).g+1,.cells (cellsOf (rd fr x)) 0 true⟩,sh⟩:=by
 rw[pg (by rfl) (show Eu n (some d)from i)]
 unfold one
 simp only[iX,r]
 rfl
theorem aao(i:d<n):dE E call n (⟨some d,.mkmap false,none⟩::os) ⟨fr,lh,sh⟩=dE E call n os ⟨jV fr d (.mp .L d ((b7 lh d).g+1)),nj lh d ⟨(b7 lh d).g+1,.map [] [] false⟩,sh⟩:=by
 rw[pg (by rfl) (show Eu n (some d)from i)];rfl
def L8(x:T)(bytes:Nat):Option Nat:=match asNat x with|some m=>if m*bytes≤roomy∧m≤roomy then some m else none|none=>none
theorem ahm{z:List T}{bytes:Nat}{x:im}(i:d<n):dE E call n (⟨some d,.mksl z bytes x false,none⟩::os) ⟨fr,lh,sh⟩=
  (L8 (rd fr x) bytes).bind fun m=>dE E call n os ⟨jV fr d (.isl .L d ((b7 lh d).g+1) 0 m z.length),nj lh d ⟨(b7 lh d).g+1,.cells (repl z m) 0 (Uc z)⟩,sh⟩:=by
 rw[pg (by rfl) (show Eu n (some d)from i)]
 unfold one L8
 simp only[iX]
 cases asNat (rd fr x)with
 |none=>rfl
 |some m=>
  simp only[Bool.and_eq_true,decide_eq_true_eq]
  split <;> rfl
end
end Go.Ev
namespace Go.Ev
open Go
def froz1:T→Bool
 | .b _| .i .. | .s _| .nilsl| .sl .. | .nilptr| .vp _| .nilmp| .vm .. | .nilfn=>true
 |_=>false
def froz:T→Bool
 | .agg cs=>cs.all froz1
 | .tup cs=>cs.all froz1
 | .fn _ a c=>a.all froz1&&c.all froz1
 |t=>froz1 t
theorem ph{keep:Bool}{n:Nat}{t:T}(h:froz1 t=true):fz keep (n+1) t= .ret (t,[]):=by
 cases t <;> first|rfl|(simp[froz1]at h)
theorem nk{keep:Bool}{n:Nat}: ∀(ts:List T),ts.all froz1=true→iL (fz keep (n+1)) ts= .ret (ts,[])
 | [],_=>rfl
 |t::ts,h=>by
  simp_all[List.all_cons,Bool.and_eq_true,iL,ph,nk,Q.bind,List.append_nil]
theorem G3{keep:Bool}{n:Nat}{cs:List T}:fz keep (n+1) (.agg cs)=(iL (fz keep n) cs).bind fun q=> .ret (.agg q.1,q.2):=rfl
theorem L9{keep:Bool}{n:Nat}{cs:List T}:fz keep (n+1) (.tup cs)=(iL (fz keep n) cs).bind fun q=> .ret (.tup q.1,q.2):=rfl
theorem UW{keep:Bool}{n f:Nat}{a c:List T}:fz keep (n+1) (.fn f a c)=(iL (fz keep n) a).bind fun p=>(iL (fz keep n) c).bind fun q=> .ret (.fn f p.1 q.1,p.2++q.2):=rfl
theorem oX{keep:Bool}{n:Nat}{t:T}(h:froz t=true):fz keep (n+2) t= .ret (t,[]):=by
 cases t with
 |agg cs=>simp only[froz]at h;rw[G3,nk cs h];rfl
 |tup cs=>simp only[froz]at h;rw[L9,nk cs h];rfl
 |fn f a c=>simp only[froz,Bool.and_eq_true]at h;rw[UW,nk a h.1,nk c h.2];rfl
 |_=>exact ph h
def fzV(lh:gW b8)(sh:List b8)(keep:Bool)(v:T):Option (T×List Up):=(fz keep iq v).run (St.mk .nil lh sh).get sh.length
def BJ(lh:gW b8)(sh:List b8)(keep:Bool)(i:List T):Option (List T×List Up):=(iL (fz keep iq) i).run (St.mk .nil lh sh).get sh.length
section
variable{lh:gW b8}{sh:List b8}{keep:Bool}
theorem si{v:T}(h:froz v=true):fzV lh sh keep v=some (v,[]):=by
 unfold fzV iq;rw[oX h];rfl
theorem BP:BJ lh sh keep []=some ([],[]):=rfl
theorem qt{v:T}{i:List T}:BJ lh sh keep (v::i)=(fzV lh sh keep v).bind fun p=>(BJ lh sh keep i).bind fun q=>some (p.1::q.1,p.2++q.2):=by
 unfold BJ fzV
 rw[iL,iS]
 congr 1
 funext p
 rw[iS]
 rfl
theorem yl{i:List T}(h:i.all froz=true):BJ lh sh keep i=some (i,[]):=by
 induction i with
 |nil=>rfl
 |cons v i ih=>
  simp_all[List.all_cons,Bool.and_eq_true,qt,si]
def QL(m:Nat)(lh:gW b8)(sh:List b8)(k:Nat)(e:b8)(g off len sz:Nat):Option (T×List Up):=
 match e with
 |⟨i,.cells cs _ false⟩=>if i=g∧off+len*sz≤cs.length then some (.sl ((cs.drop off).take (len*sz)) len false,[(.L,k,⟨g,.cells cs cs.length false⟩)])else none
 |⟨i,.cells cs _ true⟩=>if i=g∧off+len*sz≤cs.length then((iL (fz false m) ((cs.drop off).take (len*sz))).run (St.mk .nil lh sh).get sh.length).map fun q=>(.sl q.1 len false,q.2++ [(.L,k,⟨g,.cells cs cs.length true⟩)])else none
 |_=>none
theorem ari{m k g off len sz:Nat}(e:b8):Q.run (St.mk .nil lh sh).get sh.length (if e.g=g then(match e.ob with
        | .cells cs _ false=>if off+len*sz≤cs.length then .ret (T.sl ((cs.drop off).take (len*sz)) len false,[(Sp.L,k,(⟨g,.cells cs cs.length false⟩:b8))])else .fail
        | .cells cs _ true=>if off+len*sz≤cs.length then(iL (fz false m) ((cs.drop off).take (len*sz))).bind fun q=> .ret (T.sl q.1 len false,q.2++ [(Sp.L,k,(⟨g,.cells cs cs.length true⟩:b8))])else .fail
        |_=> .fail)else .fail)=QL m lh sh k e g off len sz:=by
 obtain⟨D,ob⟩:=e
 unfold QL
 by_cases i:D=g
 ·cases ob with
  |cells cs wm bx=>
   cases bx
   ·grind [Q.run]
   ·by_cases r:off+len*sz≤cs.length
    ·simp only[i,r,if_true,and_self,iS]
     cases (iL (fz false m) ((cs.drop off).take (len*sz))).run (St.mk .nil lh sh).get sh.length <;> rfl
    ·simp[i,r,Q.run]
  |_=>simp[i,Q.run]
 grind [Q.run]
theorem G5{k g off len sz:Nat}:fzV lh sh keep (.isl .L k g off len sz)=QL 7 lh sh k (b7 lh k) g off len sz:=by
 cases keep <;> exact ari (b7 lh k)
def mpV(k:Nat)(e:b8)(g:Nat):Option (T×List Up):=
 match e with
 |⟨r,.map ks i _⟩=>if r=g then some (.vm ks i,[(.L,k,⟨g,.map ks i true⟩)])else none
 |_=>none
theorem mpQ{h:Sp→Nat→b8}{r k g:Nat}(e:b8):Q.run h r (if e.g=g then(match e.ob with
        | .map ks i _=> .ret (T.vm ks i,[(Sp.L,k,(⟨g,.map ks i true⟩:b8))])
        |_=> .fail)else .fail)=mpV k e g:=by
 obtain⟨D,ob⟩:=e
 unfold mpV
 grind [Q.run]
theorem ahn{k g:Nat}:fzV lh sh keep (.mp .L k g)=mpV k (b7 lh k) g:=by
 cases keep <;> exact mpQ (b7 lh k)
theorem QM{k g off:Nat}:fzV lh sh true (.ptr .S k g off)=some (.ptr .S k g off,[]):=rfl
theorem aap{cs:List T}:fzV lh sh keep (.agg cs)=((iL (fz keep 7) cs).run (St.mk .nil lh sh).get sh.length).map fun q=>(.agg q.1,q.2):=by
 unfold fzV iq
 rw[G3,iS]
 cases (iL (fz keep 7) cs).run (St.mk .nil lh sh).get sh.length <;> rfl
theorem aaq{cs:List T}:fzV lh sh keep (.tup cs)=((iL (fz keep 7) cs).run (St.mk .nil lh sh).get sh.length).map fun q=>(.tup q.1,q.2):=by
 unfold fzV iq
 rw[L9,iS]
 cases (iL (fz keep 7) cs).run (St.mk .nil lh sh).get sh.length <;> rfl
end
section
variable{E:Env}{call:pw}{n:Nat}{fr:Fr}{lh:gW b8}{sh:List b8}{os:List dy}{d:Nat}
theorem qu:(St.mk fr lh sh).get=(St.mk .nil lh sh).get:=by funext sp k;cases sp <;> rfl
theorem qd: ∀(us:List Up) (lh:gW b8) (sh:List b8),(St.mk fr lh sh).ups us={(St.mk .nil lh sh).ups us with fr:=fr}
 | [],lh,sh=>rfl
 |(.L,k,e)::us,lh,sh=>qd us (nj lh k e) sh
 |(.S,k,e)::us,lh,sh=>qd us lh (iu sh k e)
def stV(lh:gW b8)(sh:List b8)(x v:T)(m:Nat):Option (gW b8×List b8):=
 match(ry x v m).run (St.mk .nil lh sh).get sh.length with
 |some (.val _ us)=>some (((St.mk .nil lh sh).ups us).lh,((St.mk .nil lh sh).ups us).sh)
 |none=>none
theorem axH{x v:im}{m:Nat}:dE E call n (⟨none,.st x v m,none⟩::os) ⟨fr,lh,sh⟩=(stV lh sh (rd fr x) (rd fr v) m).bind fun r=>dE E call n os ⟨fr,r.1,r.2⟩:=by
 rw[pg (by rfl) (show Eu n none from trivial)]
 grind [one,stV,iX,qu,vH,pQ,qd]
def EV(lh:gW b8)(sh:List b8)(k:Nat)(e:b8)(g off:Nat)(v:T)(m:Nat):Option (gW b8×List b8):=
 match e with
 |⟨i,.cells cs wm true⟩=>if i=g∧(cellsOf v).length=m∧noTup v=true∧wm≤off∧off+m≤cs.length then some (nj lh k ⟨g,.cells (splice cs off (cellsOf v)) wm true⟩,sh)else none
 |⟨i,.cells cs wm false⟩=>if i=g∧(cellsOf v).length=m∧noTup v=true∧wm≤off∧off+m≤cs.length then
    (fzV lh sh false v).bind fun p=>if oB p.2 .L k=true∨noTup p.1=false∨(cellsOf p.1).length≠m then none else some (((St.mk .nil lh sh).ups (p.2++ [(.L,k,⟨g,.cells (splice cs off (cellsOf p.1)) wm false⟩)])).lh,((St.mk .nil lh sh).ups (p.2++ [(.L,k,⟨g,.cells (splice cs off (cellsOf p.1)) wm false⟩)])).sh)
  else none
 |_=>none
def mY(lh:gW b8)(sh:List b8):Option CN→Option (gW b8×List b8)
 |some (.val _ us)=>some (((St.mk .nil lh sh).ups us).lh,((St.mk .nil lh sh).ups us).sh)
 |none=>none
def aar(k g off m:Nat)(v:T)(e:b8):Q CN:=if e.g=g then match e.ob with
     | .cells cs wm bx=>if wm≤off&&off+m≤cs.length then
         (if bx&&Sp.L== .L then .ret (.val iG [(Sp.L,k,⟨g,.cells (splice cs off (cellsOf v)) wm bx⟩)])
         else(fz (bx&&Sp.L== .S) iq v).bind fun p=>if oB p.2 .L k|| !noTup p.1||(cellsOf p.1).length≠m then .fail else .ret (.val iG (p.2++ [(Sp.L,k,⟨g,.cells (splice cs off (cellsOf p.1)) wm bx⟩)])))
       else .fail
     |_=> .fail
    else .fail
theorem stQ{k g off m:Nat}{v:T}(e:b8)(D:(cellsOf v).length=m)(H:noTup v=true):mY lh sh (Q.run (St.mk .nil lh sh).get sh.length (aar k g off m v e))=EV lh sh k e g off v m:=by
 obtain⟨I,ob⟩:=e
 unfold EV aar
 by_cases J:I=g
 ·subst J
  cases ob with
  |none=>simp[Q.run,mY]
  |map ks K z=>simp[Q.run,mY]
  |cells cs wm bx=>
   by_cases i:wm≤off∧off+m≤cs.length
   ·cases bx with
    |true=>grind [Q.run,aeT,BO,mY]
    |false=>
     have r:(decide (wm≤off)&&decide (off+m≤cs.length))=true:=by simp[i.1,i.2]
     simp only[if_true,r,Bool.false_and,Bool.false_eq_true,if_false,iS]
     rw[if_pos (show True∧(cellsOf v).length=m∧noTup v=true∧wm≤off∧off+m≤cs.length from⟨trivial,D,H,i⟩)]
     show mY lh sh (Option.bind (fzV lh sh false v) _)=_
     cases N:fzV lh sh false v with
     |none=>rfl
     |some p=>
      simp only[Option.bind_some]
      by_cases O:(oB p.2 .L k=true∨noTup p.1=false∨(cellsOf p.1).length≠m)
      ·grind [Q.run,mY]
      simp_all[Bool.false_eq_true,Q.run,mY,Classical.byContradiction]
   grind [Bool.false_eq_true,Q.run,mY]
 grind [Q.run,mY]
theorem ark{k g off m:Nat}{v:T}:stV lh sh (.ptr .L k g off) v m=EV lh sh k (b7 lh k) g off v m:=by
 by_cases i:(cellsOf v).length=m
 ·cases r:noTup v with
  |false=>
   unfold stV ry
   have:(decide ((cellsOf v).length≠m)|| !noTup v)=true:=by simp[r]
   simp only[this,if_true,Q.run]
   unfold EV
   grind
  |true=>
   unfold stV ry
   have:(decide ((cellsOf v).length≠m)|| !noTup v)=false:=by simp[i,r]
   simp only[this,Bool.false_eq_true,if_false]
   exact stQ (b7 lh k) i r
 ·unfold stV ry
  have:(decide ((cellsOf v).length≠m)|| !noTup v)=true:=by simp[i]
  simp only[this,if_true,Q.run]
  unfold EV
  grind
theorem aas{k g i off m wm:Nat}{cs:List T}{v:T}:EV lh sh k ⟨i,.cells cs wm true⟩ g off v m=if i=g∧(cellsOf v).length=m∧noTup v=true∧wm≤off∧off+m≤cs.length then some (nj lh k ⟨g,.cells (splice cs off (cellsOf v)) wm true⟩,sh)else none:=rfl
theorem aat{k g i off m wm:Nat}{cs:List T}{v:T}(r:froz v=true):EV lh sh k ⟨i,.cells cs wm false⟩ g off v m=if i=g∧(cellsOf v).length=m∧noTup v=true∧wm≤off∧off+m≤cs.length then some (nj lh k ⟨g,.cells (splice cs off (cellsOf v)) wm false⟩,sh)else none:=by
 unfold EV
 simp only[si r,Option.bind_some,oB,List.any_nil,Bool.false_eq_true,false_or]
 by_cases h:i=g∧(cellsOf v).length=m∧noTup v=true∧wm≤off∧off+m≤cs.length
 ·rw[if_pos h,if_pos h,if_neg (by rintro(hc|hc) <;> simp_all)]
  rfl
 ·grind
def slC(lh:gW b8)(sh:List b8)(sz:Nat)(x:T):Option (Nat×List T):=(jm sz x).run (St.mk .nil lh sh).get sh.length
theorem G6{sz len:Nat}{cs:List T}{ex:Bool}:slC lh sh sz (.sl cs len ex)=if cs.length=len*sz then some (len,cs)else none:=by
 unfold slC jm;simp only[];split <;> rfl
def QN(lh:gW b8)(k:Nat)(e:b8)(g off len sz i bytes:Nat)(p:Nat×List T):Option (T×gW b8):=
 match e with
 |⟨r,.cells cs wm false⟩=>if i=sz∧off=0∧(len+p.1)*bytes≤roomy∧r=g∧len*sz=cs.length then some (.isl .L k (g+1) 0 (len+p.1) sz,nj lh k ⟨g+1,.cells (cs++p.2) wm false⟩)else none
 |_=>none
def Ma(lh:gW b8)(d sz bytes:Nat)(s:T)(p:Nat×List T):Option (T×gW b8):=
 if p.1=0 then(match s with| .nilsl| .sl .. | .isl .. =>some (s,lh)|_=>none)else
 match s with
 | .nilsl=>if p.1*bytes≤roomy then some (.isl .L d ((b7 lh d).g+1) 0 p.1 sz,nj lh d ⟨(b7 lh d).g+1,.cells p.2 0 false⟩)else none
 | .sl cs len true=>if cs.length=len*sz∧(len+p.1)*bytes≤roomy then some (.isl .L d ((b7 lh d).g+1) 0 (len+p.1) sz,nj lh d ⟨(b7 lh d).g+1,.cells (cs++p.2) 0 false⟩)else none
 | .isl .L k g off len i=>QN lh k (b7 lh k) g off len sz i bytes p
 |_=>none
def aeU(k g off len sz i bytes:Nat)(p:Nat×List T)(e:b8):Q CN:=
     if e.g=g then match e.ob with
      | .cells cs wm false=>if len*sz=cs.length then .ret (.val (.isl .L k (g+1) 0 (len+p.1) sz) [(.L,k,⟨g+1,.cells (cs++p.2) wm false⟩)])else .fail
      |_=> .fail
     else .fail
theorem axI{k g off len sz i bytes:Nat}{p:Nat×List T}(e:b8)(D:i=sz∧off=0∧(len+p.1)*bytes≤roomy):
  ((pQ (Q.run (St.mk .nil lh sh).get sh.length (aeU k g off len sz i bytes p e))).bind fun r=>dE E call n os {(St.mk fr lh sh).ups r.2 with fr:=jV fr d r.1})=
    (QN lh k e g off len sz i bytes p).bind fun q=>dE E call n os ⟨jV fr d q.1,q.2,sh⟩:=by
 obtain⟨H,ob⟩:=e
 unfold aeU QN
 by_cases I:H=g
 ·cases ob with
  |cells cs wm bx=>
   cases bx
   ·by_cases J:len*sz=cs.length
    ·simp only[I,J,if_true,Q.run,pQ,D,and_self,Option.bind_some]
     rfl
    ·grind [Q.run,pQ]
   ·grind [Q.run,pQ]
  |_=>grind [Q.run,pQ]
 grind [Q.run,pQ]
theorem arl{sz bytes:Nat}{s x:im}(H:d<n)(hs: ∀k g off len sz,rd fr s≠ .isl .S k g off len sz):dE E call n (⟨some d,.app sz bytes s x false false,none⟩::os) ⟨fr,lh,sh⟩=
  (slC lh sh sz (rd fr x)).bind fun p=>(Ma lh d sz bytes (rd fr s) p).bind fun q=>dE E call n os ⟨jV fr d q.1,q.2,sh⟩:=by
 rw[pg (by rfl) (show Eu n (some d)from H)]
 unfold one slC
 simp only[iX,oh,iS,qu]
 cases hx:(jm sz (rd fr x)).run (St.mk .nil lh sh).get sh.length with
 |none=>rfl
 |some p=>
  simp only[Option.bind_some]
  unfold Ma
  by_cases D:p.1=0
  ·simp only[if_pos D]
   cases r:rd fr s <;> rfl
  ·simp only[if_neg D]
   cases r:rd fr s <;> try rfl
   ·simp only[]
    split <;> rfl
   ·rename_i cs len ex
    cases ex
    ·rfl
    ·simp only[Bool.and_eq_true,decide_eq_true_eq]
     split <;> rfl
   ·rename_i sp k g off len I
    cases sp
    ·simp only[Bool.and_eq_true,decide_eq_true_eq]
     by_cases i:(I=sz∧off=0)∧(len+p.1)*bytes≤roomy
     ·simp only[if_pos i]
      exact axI (b7 lh k) ⟨i.1.1,i.1.2,i.2⟩
     ·simp only[if_neg i,Q.run,pQ]
      unfold QN
      grind
    ·grind
def Ad(sz:Nat)(x:T)(l h:Nat):Option T:=
 match x with
 | .nilsl=>if l=0∧h=0 then some .nilsl else none
 | .sl cs len ex=>if l≤h∧h≤len∧cs.length=len*sz then some (.sl ((cs.drop (l*sz)).take ((h-l)*sz)) (h-l) (ex&&decide (h=len)))else none
 | .isl sp k g off len i=>if l≤h∧h≤len∧i=sz then some (if l=h then(if sp= .S∧h=0∧off=0 then .isl sp k g 0 0 sz else .sl [] 0 false)else .isl sp k g (off+l*sz) (h-l) sz)else none
 |_=>none
def aau(fr:Fr)(sz:Nat)(x:T)(l h:Option im):Option T:=
 (rz x).bind fun m=>(kl (rd fr) 0 l).bind fun l=>(kl (rd fr) m h).bind fun h=>Ad sz x l h
theorem QO{sz l h i:Nat}{x:T}{r:Sp→Nat→b8}:(AO sz x l h).run r i=Ad sz x l h:=by
 unfold AO Ad
 cases x <;> try rfl
 ·simp only[Bool.and_eq_true,decide_eq_true_eq];split <;> rfl
 ·simp only[Bool.and_eq_true,decide_eq_true_eq,and_assoc];split <;> rfl
 ·simp only[Bool.and_eq_true,decide_eq_true_eq,and_assoc];split <;> rfl
theorem arn{sz:Nat}{x:im}{l h:Option im}(i:d<n):dE E call n (⟨some d,.slV sz x l h none,none⟩::os) ⟨fr,lh,sh⟩=(aau fr sz (rd fr x) l h).bind fun v=>dE E call n os ⟨jV fr d v,lh,sh⟩:=by
 refine kR (d:=some d) (by rfl) i ?_
 unfold one aau
 simp only[iX]
 cases rz (rd fr x)with
 |none=>rfl
 |some m=>
  simp only[Option.bind_some]
  cases kl (rd fr) 0 l with
  |none=>rfl
  |some l=>
   cases kl (rd fr) m h with
   |none=>rfl
   |some h=>
    simp only[iS,QO,Option.bind_some]
    cases Ad sz (rd fr x) l h <;> rfl
def lkE(e:b8)(g:Nat)(ek:EK)(k z:T)(i:Bool):Option T:=
 match e with
 |⟨r,.map ks D _⟩=>if r=g then na ek ks D k z i else none
 |_=>none
def lkV(lh:gW b8)(sh:List b8)(ek:EK)(m k z:T)(i:Bool):Option T:=
 match m with
 | .nilmp=>if isKey ek k=true then some (if i=true then .tup [z,.b false]else z)else none
 | .vm ks r=>na ek ks r k z i
 | .mp .L kk g=>lkE (b7 lh kk) g ek k z i
 | .mp .S kk g=>lkE (gY sh kk) g ek k z i
 |_=>none
theorem lkQ{h:Sp→Nat→b8}{D g:Nat}{ek:EK}{k z:T}{i:Bool}(e:b8):pQ (Q.run h D (if e.g=g then(match e.ob with| .map ks vs _=>val (na ek ks vs k z i)|_=> .fail)else .fail))=(lkE e g ek k z i).map fun v=>(v,[]):=by
 obtain⟨H,ob⟩:=e
 unfold lkE
 by_cases r:H=g
 ·cases ob <;> simp only[r,if_true] <;> first|rfl|exact oW
 ·cases ob <;> simp only[r,if_false] <;> rfl
theorem axJ{ek:EK}{m k:im}{z:T}{i:Bool}(r:d<n):dE E call n (⟨some d,.lk ek m k z i,none⟩::os) ⟨fr,lh,sh⟩=(lkV lh sh ek (rd fr m) (rd fr k) z i).bind fun v=>dE E call n os ⟨jV fr d v,lh,sh⟩:=by
 refine kR (d:=some d) (by rfl) r ?_
 unfold one lkV
 simp only[iX]
 cases D:rd fr m <;> try rfl
 ·simp only[];split <;> rfl
 ·exact oW
 ·rename_i sp kk g
  cases sp
  ·exact lkQ (b7 lh kk)
  ·exact lkQ (gY sh kk)
def muE(lh:gW b8)(kk:Nat)(e:b8)(g:Nat)(ek:EK)(k v:T):Option (gW b8):=
 match e with
 |⟨i,.map ks r false⟩=>if i=g∧isKey ek k=true then(qj ek k v ks r).map fun q=>nj lh kk ⟨g,.map q.1 q.2 false⟩else none
 |_=>none
def aav(kk g:Nat)(ek:EK)(k v:T)(e:b8):Q CN:=if e.g=g&&isKey ek k then match e.ob with
      | .map ks i false=>(fz false iq v).bind fun p=>match qj ek k p.1 ks i with
        |some q=>if oB p.2 .L kk then .fail else .ret (.val iG (p.2++ [(.L,kk,⟨g,.map q.1 q.2 false⟩)]))
        |none=> .fail
      |_=> .fail
     else .fail
theorem muQ{kk g:Nat}{ek:EK}{k v:T}(e:b8)(H:froz v=true):((pQ (Q.run (St.mk fr lh sh).get sh.length (aav kk g ek k v e))).bind fun r=>dE E call n os {(St.mk fr lh sh).ups r.2 with fr:=fr})=
  (muE lh kk e g ek k v).bind fun I=>dE E call n os ⟨fr,I,sh⟩:=by
 obtain⟨D,ob⟩:=e
 unfold aav muE
 by_cases i:D=g∧isKey ek k=true
 ·have:(decide (D=g)&&isKey ek k)=true:=by simp[i.1,i.2]
  simp only[this,if_true]
  cases ob with
  |none=>rfl
  |cells cs wm bx=>rfl
  |map ks J z=>
   cases z with
   |true=>rfl
   |false=>
    simp only[if_pos i]
    unfold iq
    rw[oX H]
    simp only[Q.bind]
    cases qj ek k v ks J with
    |none=>rfl
    |some q=>simp only[oB,List.any_nil,Bool.false_eq_true,if_false,Q.run,List.nil_append];rfl
 grind [Bool.false_eq_true,Q.run,pQ]
theorem aro{ek:EK}{m k v:im}{kk g:Nat}(i:rd fr m= .mp .L kk g)(r:froz (rd fr v)=true):dE E call n (⟨none,.mu ek m k v,none⟩::os) ⟨fr,lh,sh⟩=(muE lh kk (b7 lh kk) g ek (rd fr k) (rd fr v)).bind fun D=>dE E call n os ⟨fr,D,sh⟩:=by
 rw[pg (by rfl) (show Eu n none from trivial)]
 unfold one
 simp only[iX,i]
 exact muQ (b7 lh kk) r
def muV(lh:gW b8)(ek:EK)(m k v:T):Option (gW b8):=
 match m with
 | .mp .L kk g=>muE lh kk (b7 lh kk) g ek k v
 |_=>none
theorem axK{ek:EK}{m k v:im}(D: ∀kk g,rd fr m≠ .mp .S kk g)(i:froz (rd fr v)=true):dE E call n (⟨none,.mu ek m k v,none⟩::os) ⟨fr,lh,sh⟩=(muV lh ek (rd fr m) (rd fr k) (rd fr v)).bind fun r=>dE E call n os ⟨fr,r,sh⟩:=by
 cases h:rd fr m with
 |mp sp kk g=>
  cases sp with
  |L=>rw[aro h i];rfl
  |S=>grind
 |_=>
  rw[pg (by rfl) (show Eu n none from trivial)]
  unfold one
  simp only[iX,h]
  rfl
def QP(z:List T)(len:Nat)(D:List Nat)(r:List T):Option T:=
 if(r.all fun v=>(cellsOf v).length=z.length&&noTup v)=true then(pO (repl z len) ((D.map fun i=>i*z.length).zip (r.map cellsOf))).map fun cs=> .sl cs len true else none
theorem arp{z:List T}{len:Nat}{ps:List (Nat×im)}(r:d<n):dE E call n (⟨some d,.bsl z len ps,none⟩::os) ⟨fr,lh,sh⟩=
  (BJ lh sh false (ps.map fun p=>rd fr p.2)).bind fun q=>(QP z len (ps.map (·.1)) q.1).bind fun v=>dE E call n os {(St.mk fr lh sh).ups q.2 with fr:=jV fr d v}:=by
 rw[pg (by rfl) (show Eu n (some d)from r)]
 unfold one BJ QP
 simp only[iX,iS,qu]
 cases (iL (fz false iq) (ps.map fun p=>rd fr p.2)).run (St.mk .nil lh sh).get sh.length with
 |none=>rfl
 |some q=>
  simp only[Option.bind_some]
  have e:(ps.map (·.1)).map (fun i=>i*z.length)=ps.map fun p=>p.1*z.length:=by rw[List.map_map];rfl
  rw[e]
  split
  ·cases pO (repl z len) ((ps.map fun p=>p.1*z.length).zip (q.1.map cellsOf)) <;> rfl
  ·rfl
theorem UX{d:Option Nat}{op:l9}{f:Nat}{args:List T}(hc:jd (rd fr) op=some (some (f,args)))(i:Eu n d):
  dE E call n (⟨d,op,none⟩::os) ⟨fr,lh,sh⟩=(iR E call (d.getD 0) ⟨fr,lh,sh⟩ f args).bind fun r=>dE E call n os ⟨vH fr d r.1,r.2.lh,r.2.sh⟩:=by
 simp only[dE,iN,ko,hc]
 cases iR E call (d.getD 0) ⟨fr,lh,sh⟩ f args with
 |none=>rfl
 |some r=>
  simp only[Option.bind_some]
  cases d with
  |none=>rfl
  |some d=>simp only[mN,if_pos (show d<n from i),vH,Option.map_some]
theorem aho{f:Nat}{as:List im}(i:d<n):dE E call n (⟨some d,.callf f as,none⟩::os) ⟨fr,lh,sh⟩=(iR E call d ⟨fr,lh,sh⟩ f (as.map (rd fr))).bind fun r=>dE E call n os ⟨jV fr d r.1,r.2.lh,r.2.sh⟩:=
 UX (d:=some d) rfl i
def BQ(E:Env)(call:pw)(d:Nat)(st:St)(f:T)(args:List T):Option (T×St):=
 match f with
 | .fn f a c=>iR E call d st f (a++args++c)
 |_=>none
theorem aaw{f:im}{as:List im}(i:d<n):dE E call n (⟨some d,.callv f as,none⟩::os) ⟨fr,lh,sh⟩=(BQ E call d ⟨fr,lh,sh⟩ (rd fr f) (as.map (rd fr))).bind fun r=>dE E call n os ⟨jV fr d r.1,r.2.lh,r.2.sh⟩:=by
 unfold BQ
 cases D:rd fr f with
 |fn H a c=>exact UX (d:=some d) (by simp only[jd,D]) i
 |_=>simp_all[dE,iN,ko,jd]
theorem I9{i:Nat}{af:gP}{f:Nat}{args:List T}(D:E.fn f=some af)(H:af.eff=false)(I:af.own=none):iR E call i ⟨fr,lh,sh⟩ f args=
  (BJ lh sh false args).bind fun q=>(call f q.1 []).bind fun r=>some (r.1,if scalar r.1=true then⟨fr,lh,sh⟩else(St.mk fr lh sh).ups q.2):=by
 grind [iR,BJ,qu,Bool.false_eq_true]
theorem I8{i:Nat}{af:gP}{f:Nat}{args:List T}(D:E.fn f=some af)(H:af.eff=false)(I:af.own=none)(J:args.all froz=true):iR E call i ⟨fr,lh,sh⟩ f args=
  (call f args []).bind fun r=>some (r.1,⟨fr,lh,sh⟩):=by
 grind [I9,yl,BO]
theorem UY{i:Nat}{af:gP}{f j:Nat}{args:List T}(D:E.fn f=some af)(H:af.eff=false)(I:af.own=some j):iR E call i ⟨fr,lh,sh⟩ f args=
  (BJ lh sh false args).bind fun q=>(call f q.1 []).bind fun r=>wq i j r.1 ⟨fr,lh,sh⟩ q.2:=by
 grind [iR,BJ,qu,Bool.false_eq_true]
theorem TL{i:Nat}{af:gP}{f:Nat}{args:List T}(D:E.fn f=some af)(H:af.eff=true):iR E call i ⟨fr,lh,sh⟩ f args=
  (BJ lh sh true args).bind fun q=>(call f q.1 ((St.mk fr lh sh).ups q.2).sh).bind fun r=>some (r.1,{(St.mk fr lh sh).ups q.2 with sh:=r.2}):=by
 unfold iR BJ
 simp only[D,H,qu]
 cases (iL (fz true iq) args).run (St.mk .nil lh sh).get sh.length with
 |none=>rfl
 |some q=>
  simp only[if_true,Option.bind_some]
  cases call f q.1 ((St.mk fr lh sh).ups q.2).sh <;> rfl
theorem UZ{i:Nat}{g:List T→Option T}{f:Nat}{args:List T}(D:E.fn f=none)(H:E.ext f=some g):iR E call i ⟨fr,lh,sh⟩ f args=
  (BJ lh sh false args).bind fun q=>(g q.1).bind fun r=>some (r,⟨fr,lh,sh⟩):=by
 unfold iR BJ
 simp only[D,H,qu]
 cases (iL (fz false iq) args).run (St.mk .nil lh sh).get sh.length with
 |none=>rfl
 |some q=>
  simp only[Option.bind_some]
  cases g q.1 <;> rfl
theorem U0{d:Option Nat}{op:l9}{j:Nat}{w:Bool}(h:an fr j= .b w):dE E call n (⟨d,op,some (j,w)⟩::os) ⟨fr,lh,sh⟩=dE E call n (⟨d,op,none⟩::os) ⟨fr,lh,sh⟩:=by
 grind [dE,iN]
theorem Mb{d:Option Nat}{op:l9}{j:Nat}{w:Bool}(i:Eu n d)(h:an fr j= .b (!w)):dE E call n (⟨d,op,some (j,w)⟩::os) ⟨fr,lh,sh⟩=dE E call n os ⟨vH fr d iG,lh,sh⟩:=by
 simp only[dE,iN,h]
 rw[if_neg (by cases w <;> simp)]
 cases d with
 |none=>rfl
 |some d=>simp only[mN,if_pos (show d<n from i),vH,Option.map_some]
theorem Oe{d:Option Nat}{op:l9}{j:Nat}{w:Bool}(i:Eu n d)(h:an fr j=iG):dE E call n (⟨d,op,some (j,w)⟩::os) ⟨fr,lh,sh⟩=dE E call n os ⟨vH fr d iG,lh,sh⟩:=by
 simp only[dE,iN,h,iG]
 cases d with
 |none=>rfl
 |some d=>simp only[mN,if_pos (show d<n from i),vH,Option.map_some]
theorem arq{jl:List FP}{st:St}:iw E call n [] jl st=some st:=rfl
end
section
variable{E:Env}{n:Nat}{fr:Fr}{lh:gW b8}{sh:List b8}
def aeV(t:T)(x y:Option (Out×St)):Option (Out×St):=match t with| .b c=>if c=true then x else y|_=>none
theorem U1{c:im}{a b:fx}:DC E n (.cond c a b) ⟨fr,lh,sh⟩=aeV (rd fr c) (DC E n a ⟨fr,lh,sh⟩) (DC E n b ⟨fr,lh,sh⟩):=by
 rw[aaf,ko]
 unfold aeV
 grind
theorem andThen_ite{c:Prop}[Decidable c]{x y:Option (Out×St)}{f:St→Option (Out×St)}:andThen (if c then x else y) f=if c then andThen x f else andThen y f:=by split <;> rfl
theorem QQ{c:Prop}[Decidable c]{id:Nat}{x y:Option (Out×St)}:A9 id (if c then x else y)=if c then A9 id x else A9 id y:=by split <;> rfl
theorem aax{α β:Type}{c:Prop}[Decidable c]{x y:Option α}{f:α→β}:(if c then x else y).map f=if c then x.map f else y.map f:=by split <;> rfl
theorem U2{α β:Type}{c:Prop}[Decidable c]{x y:Option α}{f:α→Option β}:(if c then x else y).bind f=if c then x.bind f else y.bind f:=by split <;> rfl
def Ae(fr:Fr)(lh:gW b8)(sh:List b8):List pU→Option (List T)
 | []=>some []
 | .tmp t::rs=>(Ae fr lh sh rs).map fun i=>an fr t::i
 | .cell t m ag::rs=>(Y7 lh sh (an fr t) m ag).bind fun v=>(Ae fr lh sh rs).map fun i=>v::i
theorem sj: ∀rs,nh ⟨fr,lh,sh⟩ rs=Ae fr lh sh rs
 | []=>rfl
 | .tmp t::rs=>by
   rw[nh,Ae,sj rs]
   simp only[Jh]
   cases Ae fr lh sh rs <;> rfl
 | .cell t m ag::rs=>by
   rw[nh,Ae,sj rs]
   simp only[Jh,Od]
   cases Y7 lh sh (an fr t) m ag <;> cases Ae fr lh sh rs <;> rfl
def QR(lh:gW b8)(sh:List b8)(i:Bool)(vs:List T):Option (T×List b8):=
 (fzV lh sh i (match vs with| [v]=>v|vs=> .tup vs)).map fun p=>(p.1,((St.mk .nil lh sh).ups p.2).sh)
theorem Af{i:Bool}{r:List T}:answer i r ⟨fr,lh,sh⟩=QR lh sh i r:=by
 unfold answer QR fzV
 grind [qu,qd]
end
theorem Ag{fr i:Fr}{n:Nat}{d:Option Nat}{v:T}(h:mN fr n d v=some i){s:Nat}(hs:some s≠d):an i s=an fr s:=by
 cases d with
 |none=>grind [mN]
 |some d=>
  grind [mN,US]
theorem Ba{E:Env}{call:pw}{n:Nat}{o:dy}{st D:St}(h:iN E call n o st=some D){s:Nat}(hs:some s≠o.d):an D.fr s=an st.fr s:=by
 have J: ∀D,(match jd st.rho o.op with
  |some (some I)=>match iR E call (o.d.getD 0) st I.1 I.2 with
   |some r=>(mN st.fr n o.d r.1).map fun fr=>{r.2 with fr}
   |none=>none
  |some none=>none
  |none=>match(iX (o.d.getD 0) st.rho o.op).run st.get st.sh.length with
   |some (.val v ups)=>(mN st.fr n o.d v).map fun fr=>{st.ups ups with fr}
   |none=>none)=some D→an D.fr s=an st.fr s:=by
  intro D i
  split at i
  ·split at i
   ·simp only[Option.map_eq_some_iff]at i
    obtain⟨fr,H,rfl⟩:=i
    exact Ag H hs
   ·cases i
  ·cases i
  ·split at i
   ·simp only[Option.map_eq_some_iff]at i
    obtain⟨fr,H,rfl⟩:=i
    exact Ag H hs
   ·cases i
 grind [iN,Option.map_eq_some_iff,Ag]
theorem tf{E:Env}{call:pw}{n:Nat}: ∀(os:List dy) {st i:St},dE E call n os st=some i→ ∀s,s∉zR os→an i.fr s=an st.fr s
 | [],st,i,h,s,_=>by cases h;rfl
 |o::os,st,i,h,s,hs=>by
  simp only[dE]at h
  cases D:iN E call n o st with
  |none=>grind
  |some K=>
   simp only[D]at h
   have H:s∉zR os:=fun r=>hs (by
    unfold zR at r ⊢
    rw[List.filterMap_cons]
    split
    ·exact r
    ·exact List.mem_cons_of_mem _ r)
   have I:some s≠o.d:=fun J=>hs (by
    unfold zR
    rw[List.filterMap_cons]
    rw[←J]
    exact List.mem_cons_self)
   rw[tf os h s H,Ba D I]
theorem Bb{E:Env}{call:pw}{n:Nat}: ∀(os:List (List Nat×dy)) {jl:List FP} {st i:St},iw E call n os jl st=some i→ ∀s,s∉zR (os.map (·.2))→an i.fr s=an st.fr s
 | [],jl,st,i,h,s,_=>by cases h;rfl
 |(u,o)::os,jl,st,i,h,s,hs=>by
  simp only[iw]at h
  split at h
  ·cases h
  ·split at h
   ·cases D:iN E call n o st with
    |none=>grind
    |some K=>
     simp only[D]at h
     have H:s∉zR (os.map (·.2)):=fun r=>hs (by
      unfold zR at r ⊢
      rw[List.map_cons,List.filterMap_cons]
      split
      ·exact r
      ·exact List.mem_cons_of_mem _ r)
     have I:some s≠o.d:=fun J=>hs (by
      unfold zR
      rw[List.map_cons,List.filterMap_cons]
      rw[←J]
      exact List.mem_cons_self)
     rw[Bb os h s H,Ba D I]
   ·cases h
theorem FN{f:St→Option (Out×St)}{s:Nat}(i: ∀st r,f st=some r→an r.2.fr s=an st.fr s): ∀(k:Nat) {st:St} {r:Out×St},iter f k st=some r→an r.2.fr s=an st.fr s
 |0,st,r,h=>by simp[iter]at h
 |k+1,st,r,h=>by
  simp only[iter]at h
  cases D:f st with
  |none=>grind
  |some p=>
   rw[D]at h
   obtain⟨o,I⟩:=p
   have H:=i _ _ D
   cases o with
   |nrm=>rw[FN i k h];exact H
   |ext id=>grind
   |ret=>grind
theorem aay{ks:List Nat}{t u:St}{k:Nat}(h:k∉ks):an (rU ks t u).fr k=an t.fr k:=by
 show an (xI ks t.fr) k=_
 rw[sd,if_neg h]
theorem pj{E:Env}{call:pw}{fl n:Nat}: ∀(code:fx) {st:St} {r:Out×St},mq E call fl n code st=some r→ ∀s,s∉jU code→an r.2.fr s=an st.fr s
 | .skip,st,r,h,s,_=>by cases h;rfl
 | .region ops,st,r,h,s,hs=>by
   simp only[mq,Option.map_eq_some_iff]at h
   obtain⟨a,i,rfl⟩:=h
   exact tf ops i s hs
 | .draws ops,st,r,h,s,hs=>by
   simp only[mq,Option.map_eq_some_iff]at h
   obtain⟨a,i,rfl⟩:=h
   exact Bb ops i s hs
 | .seq a b,st,r,h,s,hs=>by
   simp only[jU,List.mem_append,not_or]at hs
   simp only[mq]at h
   cases D:mq E call fl n a st with
   |none=>grind
   |some p=>
    rw[D]at h
    obtain⟨o,I⟩:=p
    have i:=pj a D s hs.1
    cases o with
    |nrm=>rw[pj b h s hs.2];exact i
    |ext id=>grind
    |ret=>grind
 | .fork os Es b,st,r,h,s,hs=>by
   simp only[mq]at h
   cases i:dE E call n os st with
   |none=>grind
   |some I=>
    cases J:dE E call n Es st with
    |none=>grind
    |some O=>
     rw[i,J]at h
     simp only[]at h
     obtain⟨o,U⟩:=r
     obtain⟨V,W,K,X,Y,rfl⟩:=wD h
     have H:s∉zR os++jU b:=hs
     rw[aay H]
     simp only[List.mem_append,not_or]at H
     rw[pj b K s H.2]
     grind [tf]
 | .cond x a b,st,r,h,s,hs=>by
   simp only[jU,List.mem_append,not_or]at hs
   simp only[mq]at h
   split at h
   ·exact pj a h s hs.1
   ·exact pj b h s hs.2
   ·cases h
 | .block id a,st,r,h,s,hs=>by
   simp only[mq]at h
   cases D:mq E call fl n a st with
   |none=>grind
   |some p=>
    rw[D]at h
    obtain⟨o,I⟩:=p
    have i:=pj a D s hs
    grind
 | .loop a,st,r,h,s,hs=>by
   simp only[mq]at h
   exact FN (fun st r N=>pj a N s hs) fl h
 | .exit id,st,r,h,s,_=>by cases h;rfl
 | .ret,st,r,h,s,_=>by cases h;rfl
theorem lB{E:Env}{n:Nat}{code:fx}{st i:St}{o:Out}(h:DC E n code st=some (o,i))(s:Nat)(hs:(jU code).contains s=false):an i.fr s=an st.fr s:=by
 obtain⟨m,r⟩:=kb.1 h
 exact pj code r s (by intro hc;simp[hc]at hs)
end Go.Ev
namespace Go.Ev
open Go
def Q.calm:Q CN→Prop
 | .ret (.val _ i)=>i= []
 | .fail=>True
 | .rd _ _ f=> ∀e,(f e).calm
 | .new _=>False
theorem Q.calm_run{h:Sp→Nat→b8}{r:Nat}: ∀(q:Q CN),q.calm→ ∀{v:T} {i:List Up},q.run h r=some (.val v i)→i= []∧q.asks h r=false
 | .ret (.val _ _),hc,v,i,hr=>by simp[Q.run]at hr;obtain⟨rfl,rfl⟩:=hr;exact⟨hc,rfl⟩
 | .fail,hc,v,i,hr=>by simp[Q.run]at hr
 | .rd sp k f,hc,v,i,hr=>Q.calm_run (f (h sp k)) (hc _) hr
 | .new f,hc,v,i,hr=>hc.elim
theorem mZ{o:Option T}:(val o).calm:=by cases o <;> simp[val,Q.calm]
def lv:l9→Bool
 | .mv _| .pick .. | .bin .. | .eq .. | .un .. | .cvi .. | .b2s _| .mkfn .. | .build .. | .slS .. | .fa .. | .fld .. | .ia .. | .iaA .. | .ixS .. | .ixA .. | .ext .. | .lenS _| .lenV _| .lenC _| .mm .. | .nck _| .ld .. | .lk .. | .lenM _=>true
 | .slV _ _ _ _ none=>true
 |_=>false
theorem G8{d:Nat}{ρ:im→T}{op:l9}(h:lv op=true):(iX d ρ op).calm∧jd ρ op=none:=by
 refine⟨?_,by cases op <;> first|rfl|(simp[lv]at h)⟩
 cases op with
 |mv x=>exact rfl
 |pick c a b=>grind [iX,Q.calm]
 |bin op x y=>exact mZ
 |eq neg k x y=>exact mZ
 |un op x=>exact mZ
 |cvi k x=>grind [iX,Q.calm]
 |b2s x=>simp only[iX];repeat' split
         all_goals trivial
 |mkfn f a c=>exact rfl
 |build z ps=>
  simp only[iX]
  by_cases H:(ps.all fun p=>decide ((cellsOf (ρ p.2.2)).length=p.2.1)&&noTup (ρ p.2.2))=true
  ·grind [mZ]
  ·rw[if_neg H];trivial
 |slS x l h=>
  grind [iX,Q.calm]
 |fa x off=>
  grind [iX,Q.calm]
 |fld x off m ag=>
  simp only[iX]
  split
  ·exact mZ
  ·trivial
 |ia x r sz=>
  grind [iX,Q.calm]
 |iaA x r len sz=>
  grind [iX,Q.calm]
 |ixS x r=>
  grind [iX,Q.calm]
 |ixA x r len sz ag=>
  simp only[iX]
  split
  ·split
   ·exact mZ
   ·trivial
  ·trivial
 |ext x j=>
  simp only[iX]
  split
  ·exact mZ
  ·trivial
 |lenS x=>grind [iX,Q.calm]
 |lenV x=>exact mZ
 |lenC m=>exact rfl
 |mm b as=>
  simp only[iX]
  split
  ·exact mZ
  ·trivial
 |nck x=>grind [iX,Q.calm]
 |ld x m ag=>
  simp only[iX,GC]
  split
  ·rename_i cs _
   cases part cs 0 m ag <;> simp[Q.of,Q.bind,Q.calm]
  ·rename_i g off _
   intro e
   obtain⟨D,ob⟩:=e
   by_cases i:D=g
   ·cases ob with
    |cells cs wm bx=>
     simp only[i,if_true]
     generalize part cs _ m ag=o
     cases o <;> simp[Q.of,Q.bind,Q.calm]
    |_=>simp only[i,if_true];trivial
   ·simp only[i,if_false];trivial
  ·trivial
 |lk ek m k z J=>
  grind [iX,Q.calm,mZ]
 |lenM x=>
  simp only[iX]
  split
  ·exact rfl
  ·exact rfl
  ·rename_i g _
   intro e
   obtain⟨D,ob⟩:=e
   by_cases i:D=g
   ·cases ob with
    |map ks K z=>simp only[i,if_true];exact rfl
    |_=>simp only[i,if_true];trivial
   ·simp only[i,if_false];trivial
  ·trivial
 |slV sz x l h I=>
  cases I with
  |some m=>simp[lv]at h
  |none=>
   simp only[iX]
   split
   ·trivial
   ·split
    ·rename_i N O _ _ _
     unfold AO
     grind [Q.bind,Q.calm]
    ·grind
    ·trivial
 |_=>simp[lv]at h
def Calm(fp:FP):Prop:=fp.all=false∧fp.w= []
theorem Mc{x y:FP}(hx:Calm x)(i:Calm y):apart x y=true:=by
 obtain⟨a,r,w⟩:=x
 obtain⟨D,H,w'⟩:=y
 obtain⟨rfl,rfl⟩:=hx
 obtain⟨rfl,rfl⟩:=i
 simp[apart,lW]
section
variable{E:Env}{call:pw}{n:Nat}
theorem aaz{o:dy}{st D:St}(hc:lv o.op=true)(hr:iN E call n o st=some D): ∃fp,jy E call o st=some fp∧Calm fp:=by
 obtain⟨I,J⟩:=G8 (d:=o.d.getD 0) (ρ:=st.rho) hc
 have K: ∀D,(match(iX (o.d.getD 0) st.rho o.op).run st.get st.sh.length with
   |some (.val v ups)=>(mN st.fr n o.d v).map fun fr=>{st.ups ups with fr}
   |none=>none)=some D→ ∃fp,(match(iX (o.d.getD 0) st.rho o.op).run st.get st.sh.length with
   |some (.val _ ups)=>if((iX (o.d.getD 0) st.rho o.op).asks st.get st.sh.length||inB st ups)=true then some (⟨(iX (o.d.getD 0) st.rho o.op).asks st.get st.sh.length,(iX (o.d.getD 0) st.rho o.op).log st.get st.sh.length,jX ups⟩:FP)else none
   |none=>none)=some fp∧Calm fp:=by
  intro D h
  cases H:(iX (o.d.getD 0) st.rho o.op).run st.get st.sh.length with
  |none=>rw[H]at h;cases h
  |some r=>
   obtain⟨v,ups⟩:=r
   obtain⟨rfl,N⟩:=Q.calm_run _ I H
   refine⟨⟨false,(iX (o.d.getD 0) st.rho o.op).log st.get st.sh.length,[]⟩, ?_,rfl,rfl⟩
   simp only[N,inB,List.all_nil,Bool.or_true,if_true,jX,List.map_nil]
 unfold iN at hr
 unfold jy
 simp only[J]at hr ⊢
 cases O:o.gd with
 |none=>grind
 |some p=>
  obtain⟨j,i⟩:=p
  simp only[O]at hr ⊢
  split at hr
  ·rename_i x hx
   simp only[hx]
   by_cases U:x=i
   ·grind
   ·rw[if_neg U];exact⟨nz,rfl,rfl,rfl⟩
  ·cases hr
  ·split
   ·grind
   ·exact⟨nz,rfl,rfl,rfl⟩
theorem FO: ∀(ds:List (List Nat×dy)) (jl:List FP) (st:St),(ds.all fun p=>lv p.2.op&&p.1.all fun i=>decide (i<jl.length+ds.length))=true→(∀fp∈jl,Calm fp)→
  (∀(k:Nat) (u:List Nat) (o:dy),ds[k]? =some (u,o)→ ∀i∈u,i<jl.length+k)→
  iw E call n ds jl st=dE E call n (ds.map (·.2)) st
 | [],jl,st,_,_,_=>rfl
 |(u,o)::ds,jl,st,h,N,hi=>by
  simp only[List.all_cons,Bool.and_eq_true]at h
  simp only[iw,List.map_cons,dE]
  cases D:iN E call n o st with
  |none=>
   grind
  |some s=>
   obtain⟨fp,H,O⟩:=aaz h.1.1 D
   simp only[H]
   have I:(u.all fun i=>apart (ig ⟨true,[],[]⟩ jl i) fp)=true:=by
    rw[List.all_eq_true]
    intro i r
    have:=hi 0 u o rfl i r
    have U:ig ⟨true,[],[]⟩ jl i∈jl:=by
     have: ∀(l:List FP) (j:Nat),j<l.length→ig ⟨true,[],[]⟩ l j∈l:=by
      intro l
      induction l with
      |nil=>grind
      |cons x xs ih=>
       intro j J
       cases j with
       |zero=>exact List.mem_cons_self
       |succ j=>exact List.mem_cons_of_mem _ (ih j (by simpa using J))
     grind
    grind [Mc]
   simp only[I,if_true]
   refine FO ds (jl++ [fp]) s ?_ ?_ ?_
   ·grind
   ·grind
   ·intro k K o' hk i r
    have:=hi (k+1) K o' hk i r
    grind
def FQ:Nat→List (List Nat×dy)→Bool
 |_,[]=>true
 |k,(u,o)::ds=>lv o.op&&(u.all fun i=>decide (i<k))&&FQ (k+1) ds
theorem FR: ∀(ds:List (List Nat×dy)) (m:Nat),FQ m ds=true→(∀(k:Nat) (u:List Nat) (o:dy),ds[k]? =some (u,o)→lv o.op=true∧ ∀i∈u,i<m+k)
 | [],m,_,k,u,o,hk=>by simp at hk
 |(r,D)::ds,m,h,k,u,o,hk=>by
  simp only[FQ,Bool.and_eq_true]at h
  cases k with
  |zero=>
   grind
  |succ k=>
   obtain⟨H,I⟩:=FR ds (m+1) h.2 k u o (by simpa using hk)
   grind
theorem aaA{E:Env}{n:Nat}{ds:List (List Nat×dy)}{st:St}(h:FQ 0 ds=true):DC E n (.draws ds) st=(dE E (be E) n (ds.map (·.2)) st).map fun D=>(.nrm,D):=by
 rw[JL]
 congr 1
 have r:=FR ds 0 h
 refine FO ds [] st ?_ (by simp) (fun k u o hk i hi=>by have:=(r k u o hk).2 i hi;simpa using this)
 rw[List.all_eq_true]
 intro p H
 obtain⟨k,hk,I⟩:=List.getElem_of_mem H
 obtain⟨u,o⟩:=p
 obtain⟨J,K⟩:=r k u o (by rw[List.getElem?_eq_getElem hk,I])
 grind
end
end Go.Ev
namespace Go.Ev
open Go
def kv(F:St→Option St)(fr:Fr)(lh:gW b8)(sh:List b8)(d:Nat)(v:Option T):Option St:=v.bind fun v=>F ⟨jV fr d v,lh,sh⟩
def kn(F:St→Option St)(st:St)(v:Option T):Option St:=v.bind fun _=>F st
def ks(F:St→Option St)(fr:Fr)(r:Option (gW b8×List b8)):Option St:=r.bind fun r=>F ⟨fr,r.1,r.2⟩
def ka(F:St→Option St)(fr:Fr)(sh:List b8)(d:Nat)(r:Option (T×gW b8)):Option St:=r.bind fun q=>F ⟨jV fr d q.1,q.2,sh⟩
def kc(F:St→Option St)(fr:Fr)(d:Option Nat)(r:Option (T×St)):Option St:=r.bind fun r=>F ⟨vH fr d r.1,r.2.lh,r.2.sh⟩
section
variable{F:St→Option St}{fr:Fr}{lh:gW b8}{sh:List b8}{d:Nat}{v:T}
theorem aaB:kv F fr lh sh d (some v)=F ⟨jV fr d v,lh,sh⟩:=rfl
theorem aaC:kv F fr lh sh d none=none:=rfl
theorem ahp{c:Prop}[Decidable c]{x y:Option T}:kv F fr lh sh d (if c then x else y)=if c then kv F fr lh sh d x else kv F fr lh sh d y:=by split <;> rfl
theorem aaD{r:gW b8×List b8}:ks F fr (some r)=F ⟨fr,r.1,r.2⟩:=rfl
theorem aaE:ks F fr none=none:=rfl
theorem ahq{c:Prop}[Decidable c]{x y:Option (gW b8×List b8)}:ks F fr (if c then x else y)=if c then ks F fr x else ks F fr y:=by split <;> rfl
theorem aaF{q:T×gW b8}:ka F fr sh d (some q)=F ⟨jV fr d q.1,q.2,sh⟩:=rfl
theorem aaG{i:Option Nat}{r:T×St}:kc F fr i (some r)=F ⟨vH fr i r.1,r.2.lh,r.2.sh⟩:=rfl
theorem ahr{c:Prop}[Decidable c]{i:Option Nat}{x y:Option (T×St)}:kc F fr i (if c then x else y)=if c then kc F fr i x else kc F fr i y:=by split <;> rfl
end
def isB:T→Bool
 | .b _=>true
 |_=>false
def isT:T→Bool
 | .b x=>x
 |_=>false
theorem art{x:Bool}:isB (.b x)=true:=nr rfl
theorem aru{x:Bool}:isT (.b x)=x:=nr rfl
theorem aaH{t:T}(h:isB t=true):t= .b (isT t):=by cases t <;> first|rfl|(simp[isB]at h)
section
variable{E:Env}{call:pw}{n:Nat}{fr:Fr}{lh:gW b8}{sh:List b8}{os:List dy}{d:Nat}
theorem ahs{c a b:im}(i:d<n):dE E call n (⟨some d,.pick c a b,none⟩::os) ⟨fr,lh,sh⟩=kv (dE E call n os) fr lh sh d (Oa (rd fr c) (rd fr a) (rd fr b)):=ahh i
theorem arv{op:BinOp}{x y:im}(i:d<n):dE E call n (⟨some d,.bin op x y,none⟩::os) ⟨fr,lh,sh⟩=kv (dE E call n os) fr lh sh d (Ev.bin op (rd fr x) (rd fr y)):=aq6 i
theorem axN{neg:Bool}{k:EK}{x y:im}(i:d<n):dE E call n (⟨some d,.eq neg k x y,none⟩::os) ⟨fr,lh,sh⟩=kv (dE E call n os) fr lh sh d ((vD k (rd fr x) (rd fr y)).map fun r=>T.b (r != neg)):=axB i
theorem axO{op:UnOp}{x:im}(i:d<n):dE E call n (⟨some d,.un op x,none⟩::os) ⟨fr,lh,sh⟩=kv (dE E call n os) fr lh sh d (Ev.un op (rd fr x)):=axC i
theorem arw{k:IntKind}{x:im}(i:d<n):dE E call n (⟨some d,.cvi k x,none⟩::os) ⟨fr,lh,sh⟩=kv (dE E call n os) fr lh sh d (aah k (rd fr x)):=aq7 i
theorem Bc{x:im}(i:d<n):dE E call n (⟨some d,.b2s x,none⟩::os) ⟨fr,lh,sh⟩=kv (dE E call n os) fr lh sh d (aai (rd fr x)):=aq8 i
theorem aaI{z:List T}{ps:List (Nat×Nat×im)}(i:d<n):dE E call n (⟨some d,.build z ps,none⟩::os) ⟨fr,lh,sh⟩=kv (dE E call n os) fr lh sh d (G2 fr z ps):=aaj i
theorem arx{x:im}{l h:Option im}(i:d<n):dE E call n (⟨some d,.slS x l h,none⟩::os) ⟨fr,lh,sh⟩=kv (dE E call n os) fr lh sh d (Ds fr (rd fr x) l h):=aq9 i
theorem axP{x:im}{off:Nat}(i:d<n):dE E call n (⟨some d,.fa x off,none⟩::os) ⟨fr,lh,sh⟩=kv (dE E call n os) fr lh sh d (faV (rd fr x) off):=axD i
theorem axQ{x i:im}{sz:Nat}(r:d<n):dE E call n (⟨some d,.ia x i sz,none⟩::os) ⟨fr,lh,sh⟩=kv (dE E call n os) fr lh sh d (lH (rd fr x) (rd fr i) sz):=axE r
theorem ary{x i:im}{len sz:Nat}(r:d<n):dE E call n (⟨some d,.iaA x i len sz,none⟩::os) ⟨fr,lh,sh⟩=kv (dE E call n os) fr lh sh d (kS (rd fr x) (rd fr i) len sz):=arb r
theorem arz{x i:im}(r:d<n):dE E call n (⟨some d,.ixS x i,none⟩::os) ⟨fr,lh,sh⟩=kv (dE E call n os) fr lh sh d (L7 (rd fr x) (rd fr i)):=arc r
theorem arA{x i:im}{len sz:Nat}{ag:Bool}(r:d<n):dE E call n (⟨some d,.ixA x i len sz ag,none⟩::os) ⟨fr,lh,sh⟩=kv (dE E call n os) fr lh sh d (aak (rd fr x) (rd fr i) len sz ag):=ard r
theorem arC{x:im}{j:Nat}(i:d<n):dE E call n (⟨some d,.ext x j,none⟩::os) ⟨fr,lh,sh⟩=kv (dE E call n os) fr lh sh d (aal (rd fr x) j):=are i
theorem aht{x:im}(i:d<n):dE E call n (⟨some d,.lenS x,none⟩::os) ⟨fr,lh,sh⟩=kv (dE E call n os) fr lh sh d (Oc (rd fr x)):=ahj i
def lenI(x:T):Option T:=match rz x with|some m=>some (.i .i64 ((m:Nat):Int))|none=>none
theorem aaJ{x:T}{m:Nat}(h:rz x=some m):lenI x=some (.i .i64 (m:Int)):=by unfold lenI;rw[h]
theorem ahu{x:im}(i:d<n):dE E call n (⟨some d,.lenV x,none⟩::os) ⟨fr,lh,sh⟩=kv (dE E call n os) fr lh sh d (lenI (rd fr x)):=by
 grind [kv,lenI,ahk]
theorem axR{i:Bool}{args:List im}(r:d<n):dE E call n (⟨some d,.mm i args,none⟩::os) ⟨fr,lh,sh⟩=kv (dE E call n os) fr lh sh d (mmV i (args.map (rd fr))):=axF r
theorem arD{x:im}(i:d<n):dE E call n (⟨some d,.nck x,none⟩::os) ⟨fr,lh,sh⟩=kv (dE E call n os) fr lh sh d (QJ (rd fr x)):=arf i
theorem axS{x:im}{m:Nat}{ag:Bool}(i:d<n):dE E call n (⟨some d,.ld x m ag,none⟩::os) ⟨fr,lh,sh⟩=kv (dE E call n os) fr lh sh d (Y7 lh sh (rd fr x) m ag):=axG i
theorem aeW{sz:Nat}{x:im}{l h:Option im}(i:d<n):dE E call n (⟨some d,.slV sz x l h none,none⟩::os) ⟨fr,lh,sh⟩=kv (dE E call n os) fr lh sh d (aau fr sz (rd fr x) l h):=arn i
theorem axT{ek:EK}{m k:im}{z:T}{i:Bool}(r:d<n):dE E call n (⟨some d,.lk ek m k z i,none⟩::os) ⟨fr,lh,sh⟩=kv (dE E call n os) fr lh sh d (lkV lh sh ek (rd fr m) (rd fr k) z i):=axJ r
theorem arE{k:IntKind}{n:Int}:Uc [.i k n]=false:=nr rfl
theorem arF{x:Bool}:Uc [.b x]=false:=nr rfl
theorem aaK:Uc [.nilsl]=true:=nr rfl
theorem U3{a b:T}{l:List T}:Uc (a::b::l)=false:=by cases a <;> rfl
def U4(lh:gW b8)(d:Nat)(z:List T)(x:T)(bytes:Nat):Option (T×gW b8):=
 (L8 x bytes).map fun m=>(.isl .L d ((b7 lh d).g+1) 0 m z.length,nj lh d ⟨(b7 lh d).g+1,.cells (repl z m) 0 (Uc z)⟩)
theorem ahv{z:List T}{bytes:Nat}{x:im}(i:d<n):dE E call n (⟨some d,.mksl z bytes x false,none⟩::os) ⟨fr,lh,sh⟩=ka (dE E call n os) fr sh d (U4 lh d z (rd fr x) bytes):=by
 rw[ahm i];unfold U4 ka;cases L8 (rd fr x) bytes <;> rfl
theorem axU{x v:im}{m:Nat}:dE E call n (⟨none,.st x v m,none⟩::os) ⟨fr,lh,sh⟩=ks (dE E call n os) fr (stV lh sh (rd fr x) (rd fr v) m):=axH
def appW(lh:gW b8)(sh:List b8)(d sz bytes:Nat)(s x:T):Option (T×gW b8):=(slC lh sh sz x).bind (Ma lh d sz bytes s)
def notS:T→Bool
 | .isl .S .. =>false
 | .mp .S .. =>false
 |_=>true
theorem arG{sz bytes:Nat}{s x:im}(i:d<n)(hs:notS (rd fr s)=true):dE E call n (⟨some d,.app sz bytes s x false false,none⟩::os) ⟨fr,lh,sh⟩=ka (dE E call n os) fr sh d (appW lh sh d sz bytes (rd fr s) (rd fr x)):=by
 rw[arl i (fun k g off len sz r=>by rw[r]at hs;simp[notS]at hs)]
 grind [appW,ka]
theorem axV{ek:EK}{m k v:im}(i:notS (rd fr m)=true)(r:froz (rd fr v)=true):dE E call n (⟨none,.mu ek m k v,none⟩::os) ⟨fr,lh,sh⟩=ks (dE E call n os) fr ((muV lh ek (rd fr m) (rd fr k) (rd fr v)).map fun D=>(D,sh)):=by
 rw[axK (fun kk g H=>by rw[H]at i;simp[notS]at i) r]
 unfold ks
 cases muV lh ek (rd fr m) (rd fr k) (rd fr v) <;> rfl
def U5(lh:gW b8)(sh:List b8)(z:List T)(len:Nat)(i:List Nat)(r:List T):Option (T×St):=
 (BJ lh sh false r).bind fun q=>(QP z len i q.1).map fun v=>(v,(St.mk .nil lh sh).ups q.2)
theorem arH{z:List T}{len:Nat}{ps:List (Nat×im)}(i:d<n):dE E call n (⟨some d,.bsl z len ps,none⟩::os) ⟨fr,lh,sh⟩=kc (dE E call n os) fr (some d) (U5 lh sh z len (ps.map (·.1)) (ps.map fun p=>rd fr p.2)):=by
 rw[arp i]
 unfold kc U5
 cases BJ lh sh false (ps.map fun p=>rd fr p.2)with
 |none=>rfl
 |some q=>
  simp only[Option.bind_some]
  cases QP z len (ps.map (·.1)) q.1 with
  |none=>rfl
  |some v=>grind [vH,qd]
theorem QS{z:List T}{len:Nat}{r:List Nat}{i:List T}(h:i.all froz=true):U5 lh sh z len r i=(QP z len r i).map fun v=>(v,⟨.nil,lh,sh⟩):=by
 unfold U5
 rw[yl h];rfl
theorem ahw{f:Nat}{as:List im}(i:d<n):dE E call n (⟨some d,.callf f as,none⟩::os) ⟨fr,lh,sh⟩=kc (dE E call n os) fr (some d) (iR E call d ⟨fr,lh,sh⟩ f (as.map (rd fr))):=aho i
theorem aaL{f:im}{as:List im}(i:d<n):dE E call n (⟨some d,.callv f as,none⟩::os) ⟨fr,lh,sh⟩=kc (dE E call n os) fr (some d) (BQ E call d ⟨fr,lh,sh⟩ (rd fr f) (as.map (rd fr))):=aaw i
theorem aaM{i:Option Nat}{op:l9}{j:Nat}(h:an fr j= .b true):dE E call n (⟨i,op,some (j,true)⟩::os) ⟨fr,lh,sh⟩=dE E call n (⟨i,op,none⟩::os) ⟨fr,lh,sh⟩:=U0 h
theorem aaN{i:Option Nat}{op:l9}{j:Nat}(h:an fr j= .b false):dE E call n (⟨i,op,some (j,false)⟩::os) ⟨fr,lh,sh⟩=dE E call n (⟨i,op,none⟩::os) ⟨fr,lh,sh⟩:=U0 h
theorem aaO{op:l9}{j:Nat}(i:d<n)(h:an fr j= .b false):dE E call n (⟨some d,op,some (j,true)⟩::os) ⟨fr,lh,sh⟩=dE E call n os ⟨jV fr d iG,lh,sh⟩:=Mb (d:=some d) i h
theorem aaP{op:l9}{j:Nat}(i:d<n)(h:an fr j= .b true):dE E call n (⟨some d,op,some (j,false)⟩::os) ⟨fr,lh,sh⟩=dE E call n os ⟨jV fr d iG,lh,sh⟩:=Mb (d:=some d) i h
theorem U6{op:l9}{j:Nat}{w:Bool}(i:d<n)(h:an fr j=iG):dE E call n (⟨some d,op,some (j,w)⟩::os) ⟨fr,lh,sh⟩=dE E call n os ⟨jV fr d iG,lh,sh⟩:=Oe (d:=some d) i h
end
section
variable{E:Env}{n:Nat}{fr:Fr}{lh:gW b8}{sh:List b8}
theorem ahx{c:im}{a b:fx}(h:isB (rd fr c)=true):DC E n (.cond c a b) ⟨fr,lh,sh⟩=if isT (rd fr c)=true then DC E n a ⟨fr,lh,sh⟩else DC E n b ⟨fr,lh,sh⟩:=by
 rw[U1,aaH h];rfl
def Ah(i:List pU)(r:Bool)(x:Option (Out×St)):Option (T×List b8):=
 match x with
 |some (.ext _,_)=>none
 |some (_,st)=>(nh st i).bind fun D=>answer r D st
 |none=>none
theorem gQ{f:Nat}{af:gP}{args:List T}{sh:List b8}(i:E.fn f=some af)(r:(af.n<args.length)=False)(D:af.own=none:=by rfl):
  be E f args sh=Ah af.res af.eff (DC E af.n af.code {fr:=pF args,lh:= .nil,sh}):=by
 rw[JO i (Nat.le_of_not_lt (of_eq_false r))]
 generalize DC E af.n af.code {fr:=pF args,lh:= .nil,sh}=x
 unfold UQ Ah
 rw[D]
 cases x with
 |none=>rfl
 |some p=>
  obtain⟨o,st⟩:=p
  cases o with
  |ext id=>rfl
  |nrm=>simp only[];cases nh st af.res <;> rfl
  |ret=>simp only[];cases nh st af.res <;> rfl
def aaQ(i:List pU)(j:Nat)(x:Option (Out×St)):Option (T×List b8):=
 match x with
 |some (.ext _,_)=>none
 |some (_,st)=>(nh st i).bind fun r=>qT j r st
 |none=>none
theorem ahy{f:Nat}{af:gP}{args:List T}{sh:List b8}{j:Nat}(i:E.fn f=some af)(r:(af.n<args.length)=False)(D:af.own=some j:=by rfl)(H:af.eff=false:=by rfl):
  be E f args sh=aaQ af.res j (DC E af.n af.code {fr:=pF args,lh:= .nil,sh}):=by
 rw[JO i (Nat.le_of_not_lt (of_eq_false r))]
 generalize DC E af.n af.code {fr:=pF args,lh:= .nil,sh}=x
 unfold UQ aaQ
 grind [sP,Bool.false_eq_true]
def QT(lh:gW b8)(sh:List b8)(j:Nat)(i:List T):Option (T×List b8):=qT j i ⟨.nil,lh,sh⟩
theorem Md{j:Nat}{i:List T}:qT j i ⟨fr,lh,sh⟩=QT lh sh j i:=by
 unfold QT qT
 simp only[Af,qu]
 split
 ·rfl
 ·split
  ·rename_i p _
   rw[qd p.2 lh sh]
   rfl
  ·rfl
 ·rfl
theorem U7{i:List pU}{j:Nat}:aaQ i j (some (.ret,⟨fr,lh,sh⟩))=(Ae fr lh sh i).bind (QT lh sh j):=by
 simp_all[aaQ,sj,Md]
theorem U8{i:List pU}{r:Bool}:Ah i r (some (.ret,⟨fr,lh,sh⟩))=(Ae fr lh sh i).bind (QR lh sh r):=by
 simp_all[Ah,sj,Af]
theorem U9{i:List pU}{r:Bool}:Ah i r (some (.nrm,⟨fr,lh,sh⟩))=(Ae fr lh sh i).bind (QR lh sh r):=by
 simp_all[Ah,sj,Af]
theorem Va{c:Prop}[Decidable c]{i:List pU}{r:Bool}{x y:Option (Out×St)}:Ah i r (if c then x else y)=if c then Ah i r x else Ah i r y:=by split <;> rfl
end
section
variable{k:IntKind}{a b:Int}{x y:Bool}{s t:List Nat}
theorem aaR:Ev.bin .add (.i k a) (.i k b)=some (.i k (wr k (a+b))):=by simp[Ev.bin,rT]
theorem aaS:Ev.bin .sub (.i k a) (.i k b)=some (.i k (wr k (a-b))):=by simp[Ev.bin,rT]
theorem aaT:Ev.bin .mul (.i k a) (.i k b)=some (.i k (wr k (a*b))):=by simp[Ev.bin,rT]
theorem aaU:Ev.bin .quo (.i k a) (.i k b)=if b=0 then none else some (.i k (wr k (a.tdiv b))):=by simp[Ev.bin,rT]
theorem aaV:Ev.bin .rem (.i k a) (.i k b)=if b=0 then none else some (.i k (a.tmod b)):=by simp[Ev.bin,rT]
theorem Og:Ev.bin .eql (.i k a) (.i k b)=some (.b (decide (a=b))):=by simp[Ev.bin,rT];exact Bool.beq_eq_decide_eq a b
theorem Oh:Ev.bin .neq (.i k a) (.i k b)=some (.b (!decide (a=b))):=by simp[Ev.bin,rT];rw[bne,Bool.beq_eq_decide_eq]
theorem Oi:Ev.bin .lss (.i k a) (.i k b)=some (.b (decide (a<b))):=by simp[Ev.bin,rT]
theorem Oj:Ev.bin .leq (.i k a) (.i k b)=some (.b (decide (a≤b))):=by simp[Ev.bin,rT]
theorem Ok:Ev.bin .gtr (.i k a) (.i k b)=some (.b (decide (b<a))):=by simp[Ev.bin,rT]
theorem Ol:Ev.bin .geq (.i k a) (.i k b)=some (.b (decide (b≤a))):=by simp[Ev.bin,rT]
theorem JP:Ev.bin .eql (.s s) (.s t)=some (.b (decide (s=t))):=by simp[Ev.bin,LG];exact Bool.beq_eq_decide_eq s t
theorem JQ:Ev.bin .neq (.s s) (.s t)=some (.b (!decide (s=t))):=by simp[Ev.bin,LG];rw[bne,Bool.beq_eq_decide_eq]
theorem Vb:Ev.bin .lss (.s s) (.s t)=some (.b (vQ s t)):=by simp[Ev.bin,LG]
theorem Vc:Ev.bin .add (.s s) (.s t)=if s.length+t.length≤1099511627776 then some (.s (s++t))else none:=by simp[Ev.bin,LG]
theorem ahz:Ev.un .not (.b x)=some (.b (!x)):=rfl
theorem ahA:Ev.un .neg (.i k a)=some (.i k (wr k (0-a))):=rfl
theorem ahB{cs:List T}{off m:Nat}:Ev.part cs off m false=cs[off]? :=rfl
theorem ahC{cs:List T}{off m:Nat}:Ev.part cs off m true=if off+m≤cs.length then some (.agg ((cs.drop off).take m))else none:=rfl
theorem jj{n:Int}(h: -9223372036854775808≤n∧n≤9223372036854775807):wr .i64 n=n:=by grind [wr,lo,hi]
theorem nQ{cs:List T}{len sz:Nat}{ex:Bool}{kk:IntKind}{j:Int}:lH (.sl cs len ex) (.i kk j) sz=if 0≤j∧j.toNat<len∧(j.toNat+1)*sz≤cs.length then some (.vp (cs.drop (j.toNat*sz)))else none:=by
 unfold lH asNat
 grind
theorem aaW{sp:Sp}{i g off len sz r:Nat}{kk:IntKind}{j:Int}:lH (.isl sp i g off len r) (.i kk j) sz=if 0≤j∧j.toNat<len∧r=sz then some (.ptr sp i g (off+j.toNat*sz))else none:=by
 unfold lH asNat
 grind
theorem Me{r:List Nat}{kk:IntKind}{j:Int}:L7 (.s r) (.i kk j)=if 0≤j then r[j.toNat]?.map fun c=>T.i .u8 c else none:=by
 unfold L7 asNat
 grind
theorem G9{kk:IntKind}{j:Int}:asNat (.i kk j)=if 0≤j then some j.toNat else none:=rfl
end
end Go.Ev
