/- A tree evaluator over the model, proved against it (part E): where it answers, the call returns that answer. Conditions: none beyond its theorems' own. -/
import Derived.Test.YtjniffjppoklpaaGreatEvD
set_option linter.unusedSimpArgs false
set_option linter.unusedVariables false
namespace Go.Ev
open Go
section
variable{E:Env}{call:qT}{fl n:Nat}
end
end Go.Ev
namespace Go.Ev
open Go
def An(c D:qT):Prop:= ∀f a sh r,c f a sh=some r→D f a sh=some r
section
variable{E:Env}
theorem CJ{c H:qT}(h:An c H){I:Nat}{st:St}{f:Nat}{args:List T}{r:T×St}(D:jy E c I st f args=some r):jy E H I st f args=some r:=by
 unfold jy at D ⊢
 cases N:E.fn f with
 |none=>grind
 |some af=>
  simp only[N]at D ⊢
  cases O:(jm (fz af.eff iT) args).run st.get st.sh.length with
  |none=>grind
  |some q=>
   simp only[O]at D ⊢
   cases J:af.eff with
   |true=>
    simp only[J,if_true,Option.map_eq_some_iff]at D ⊢
    obtain⟨a,U,V⟩:=D
    exact⟨a,h _ _ _ _ U,V⟩
   |false=>
    simp only[J]at D ⊢
    cases K:c f q.1 []with
    |none=>grind
    |some a=>
     simp only[K]at D
     simp only[h _ _ _ _ K]
     exact D
theorem sY{c K:qT}(h:An c K){n:Nat}{o:iz}{st H:St}(I:js E c n o st=some H):js E K n o st=some H:=by
 unfold js at I ⊢
 have U: ∀H,(match jL st.rho o.op with
  |some (some D)=>match jy E c (o.d.getD 0) st D.1 D.2 with
   |some r=>(oD st.fr n o.d r.1).map fun fr=>{r.2 with fr}
   |none=>none
  |some none=>none
  |none=>match(jK (o.d.getD 0) st.rho o.op).run st.get st.sh.length with
   |some (.val v ups)=>(oD st.fr n o.d v).map fun fr=>{st.ups ups with fr}
   |none=>none)=some H→(match jL st.rho o.op with
  |some (some D)=>match jy E K (o.d.getD 0) st D.1 D.2 with
   |some r=>(oD st.fr n o.d r.1).map fun fr=>{r.2 with fr}
   |none=>none
  |some none=>none
  |none=>match(jK (o.d.getD 0) st.rho o.op).run st.get st.sh.length with
   |some (.val v ups)=>(oD st.fr n o.d v).map fun fr=>{st.ups ups with fr}
   |none=>none)=some H:=by
  intro H hs
  cases N:jL st.rho o.op with
  |none=>simp only[N]at hs ⊢; exact hs
  |some x=>
   cases x with
   |none=>simp only[N]at hs;cases hs
   |some D=>
    simp only[N]at hs ⊢
    cases O:jy E c (o.d.getD 0) st D.1 D.2 with
    |none=>simp only[O]at hs;cases hs
    |some r=>
     simp only[O]at hs
     simp only[CJ h O]
     exact hs
 cases V:o.gd with
 |none=>grind
 |some p=>
  obtain⟨j,J⟩:=p
  simp only[V]at I ⊢
  split at I
  ·rename_i x W
   by_cases X:x=J
   ·grind
   ·grind
  ·cases I
  ·exact I
theorem nW{c H:qT}(h:An c H){n:Nat}: ∀(os:List iz) {st D:St},iB E c n os st=some D→iB E H n os st=some D
 | [],st,D,r=>r
 |o::os,st,D,r=>by
  simp only[iB]at r ⊢
  cases I:js E c n o st with
  |none=>grind
  |some s=>
   simp only[I]at r
   simp only[sY h I]
   exact nW h os r
theorem CM{c I:qT}(h:An c I){J:Nat}{st:St}{f:Nat}{args:List T}{r:FP}(D:mz E c J st f args=some r):mz E I J st f args=some r:=by
 unfold mz at D ⊢
 cases K:E.fn f with
 |none=>grind
 |some af=>
  simp only[K]at D ⊢
  cases N:(jm (fz af.eff iT) args).run st.get st.sh.length with
  |none=>grind
  |some q=>
   simp only[N]at D ⊢
   by_cases hi:(!nl st q.2)=true
   ·grind
   ·rw[if_neg hi]at D ⊢
    cases O:af.eff with
    |true=>grind
    |false=>
     simp only[O]at D ⊢
     cases H:c f q.1 []with
     |none=>simp[H]at D
     |some a=>
      simp only[H]at D
      simp only[h _ _ _ _ H]
      exact D
theorem CN{c I:qT}(h:An c I){o:iz}{st:St}{r:FP}(K:jS E c o st=some r):jS E I o st=some r:=by
 unfold jS at K ⊢
 have N: ∀r,(match jL st.rho o.op with
  |some (some H)=>mz E c (o.d.getD 0) st H.1 H.2
  |some none=>none
  |none=>
   let q:=jK (o.d.getD 0) st.rho o.op
   match q.run st.get st.sh.length with
   |some (.val _ D)=>if q.asks st.get st.sh.length||nl st D then some ⟨q.asks st.get st.sh.length,q.log st.get st.sh.length,kR D⟩else none
   |none=>none)=some r→(match jL st.rho o.op with
  |some (some H)=>mz E I (o.d.getD 0) st H.1 H.2
  |some none=>none
  |none=>
   let q:=jK (o.d.getD 0) st.rho o.op
   match q.run st.get st.sh.length with
   |some (.val _ D)=>if q.asks st.get st.sh.length||nl st D then some ⟨q.asks st.get st.sh.length,q.log st.get st.sh.length,kR D⟩else none
   |none=>none)=some r:=by
  intro r hs
  cases J:jL st.rho o.op with
  |none=>simp only[J]at hs ⊢; exact hs
  |some x=>
   cases x with
   |none=>simp only[J]at hs;cases hs
   |some H=>simp only[J]at hs ⊢; exact CM h hs
 cases O:o.gd with
 |none=>grind
 |some p=>
  grind
theorem sZ{c I:qT}(h:An c I){n:Nat}: ∀(os:List (List Nat×iz)) {D:List FP} {st H:St},jc E c n os D st=some H→jc E I n os D st=some H
 | [],D,st,H,r=>r
 |(u,o)::os,D,st,H,r=>by
  simp only[jc]at r ⊢
  cases J:jS E c o st with
  |none=>grind
  |some fp=>
   simp only[J]at r
   simp only[CN h J]
   split at r
   ·rename_i N
    rw[if_pos N]
    cases K:js E c n o st with
    |none=>grind
    |some s=>
     simp only[K]at r
     simp only[sY h K]
     exact sZ h os r
   ·cases r
theorem xC{f g:St→Option (Out×St)}(h: ∀st r,f st=some r→g st=some r): ∀{k k':Nat},k≤k'→ ∀{st:St} {r:Out×St},iter f k st=some r→iter g k' st=some r
 |0,_,_,st,r,D=>by simp[iter]at D
 |k+1,0,I,_,_,_=>by omega
 |k+1,k'+1,I,st,r,D=>by
  simp only[iter]at D ⊢
  cases H:f st with
  |none=>grind
  |some p=>
   rw[h _ _ H]
   rw[H]at D
   obtain⟨o,s⟩:=p
   cases o with
   |nrm=>exact xC h (by omega) D
   |ext id=>exact D
   |ret=>exact D
theorem kW{c O:qT}(h:An c O){n:Nat}{fl K:Nat}(H:fl≤K): ∀(code:iA) {st:St} {r:Out×St},nS E c fl n code st=some r→nS E O K n code st=some r
 | .skip,st,r,D=>D
 | .region ops,st,r,D=>by
   simp only[nS,Option.map_eq_some_iff]at D ⊢
   obtain⟨a,I,J⟩:=D
   exact⟨a,nW h ops I,J⟩
 | .draws ops,st,r,D=>by
   simp only[nS,Option.map_eq_some_iff]at D ⊢
   obtain⟨a,I,J⟩:=D
   exact⟨a,sZ h ops I,J⟩
 | .seq a b,st,r,D=>by
   simp only[nS]at D ⊢
   cases N:nS E c fl n a st with
   |none=>grind
   |some p=>
    rw[kW h H a N]
    rw[N]at D
    obtain⟨o,s⟩:=p
    cases o with
    |nrm=>exact kW h H b D
    |ext id=>exact D
    |ret=>exact D
 | .fork os Gy b,st,r,D=>by
   simp only[nS]at D ⊢
   cases I:iB E c n os st with
   |none=>grind
   |some X=>
    cases J:iB E c n Gy st with
    |none=>grind
    |some Y=>
     rw[nW h os I,nW h Gy J]
     rw[I,J]at D
     simp only[]at D ⊢
     obtain⟨o,s⟩:=r
     obtain⟨Z,t2,U,V,sX,rfl⟩:=yN D
     rw[U,V]at D
     rw[kW h H b U,kW h H b V]
     exact D
 | .cond x a b,st,r,D=>by
   simp only[nS]at D ⊢
   split at D
   ·exact kW h H a D
   ·exact kW h H b D
   ·cases D
 | .block id a,st,r,D=>by
   simp only[nS]at D ⊢
   cases N:nS E c fl n a st with
   |none=>grind
   |some p=>
    rw[kW h H a N]
    grind
 | .loop a,st,r,D=>by
   simp only[nS]at D ⊢
   exact xC (fun st r W=>kW h H a W) H D
 | .exit id,st,r,D=>D
 | .ret,st,r,D=>D
theorem jV: ∀{m D:Nat},m≤D→An (kM E m) (kM E D)
 |0,D,_=>fun f a sh r h=>by simp[kM]at h
 |m+1,0,h=>by omega
 |m+1,D+1,h=>fun f a sh r H=>by
  simp only[kM]at H ⊢
  cases I:E.fn f with
  |none=>grind
  |some af=>
   simp only[I]at H ⊢
   split at H
   ·cases H
   ·rename_i J
    rw[if_neg J]
    cases K:nS E (kM E m) m af.n af.code {fr:=qx a,lh:= .nil,sh}with
    |none=>grind
    |some p=>
     rw[kW (jV (Nat.le_of_succ_le_succ h)) (Nat.le_of_succ_le_succ h) af.code K]
     grind
end
noncomputable def lim{α:Type}(F:Nat→Option α):Option α:=
 open Classical in if h: ∃m,(F m).isSome=true then F (Classical.choose h)else none
def auh{α:Type}(F:Nat→Option α):Prop:= ∀m D r,m≤D→F m=some r→F D=some r
theorem QN{α:Type}{F:Nat→Option α}(H:auh F)(r:α):lim F=some r↔ ∃m,F m=some r:=by
 unfold lim
 constructor
 ·intro h
  split at h
  ·grind
  ·cases h
 ·rintro⟨m,I⟩
  have D: ∃m,(F m).isSome=true:=⟨m,by rw[I];rfl⟩
  rw[dif_pos D]
  have hs:=Classical.choose_spec D
  generalize Classical.choose D=k at hs
  cases J:F k with
  |none=>grind
  |some a=>
   have K:=H k (max k m) a (Nat.le_max_left _ _) J
   have N:=H m (max k m) r (Nat.le_max_right _ _) I
   grind
section
variable(E:Env)
noncomputable def be:qT:=fun f a sh=>lim fun m=>kM E m f a sh
noncomputable def DC(n:Nat)(code:iA)(st:St):Option (Out×St):=lim fun m=>nS E (kM E m) m n code st
end
section
variable{E:Env}
theorem DCall_iff{f:Nat}{a:List T}{sh:List iy}{r:T×List iy}:be E f a sh=some r↔ ∃m,kM E m f a sh=some r:=
 QN (fun m H r h D=>jV h _ _ _ _ D) r
theorem k5{n:Nat}{code:iA}{st:St}{r:Out×St}:DC E n code st=some r↔ ∃m,nS E (kM E m) m n code st=some r:=
 QN (fun m H r h D=>kW (jV h) h code D) r
theorem ve(m:Nat):An (kM E m) (be E):=fun f a sh r h=>DCall_iff.2 ⟨m,h⟩
theorem OK{H:Nat}{st:St}{f:Nat}{args:List T}{r:T×St}(D:jy E (be E) H st f args=some r): ∃m,jy E (kM E m) H st f args=some r:=by
 unfold jy at D
 cases I:E.fn f with
 |none=>refine⟨0, ?_⟩;unfold jy;cases J:E.ext f <;> simp only[I,J]at D ⊢ <;> exact D
 |some af=>
  simp only[I]at D
  grind [jy,Option.map_eq_some_iff,DCall_iff.1]
theorem OL{H:Nat}{st:St}{f:Nat}{args:List T}{r:FP}(D:mz E (be E) H st f args=some r): ∃m,mz E (kM E m) H st f args=some r:=by
 unfold mz at D
 cases I:E.fn f with
 |none=>refine⟨0, ?_⟩;unfold mz;cases J:E.ext f <;> simp only[I,J]at D ⊢ <;> exact D
 |some af=>
  simp only[I]at D
  cases K:(jm (fz af.eff iT) args).run st.get st.sh.length with
  |none=>grind
  |some q=>
   simp only[K]at D
   by_cases hi:(!nl st q.2)=true
   ·grind
   ·rw[if_neg hi]at D
    cases N:af.eff with
    |true=>
     simp_all[mz]
    |false=>
     grind [mz,DCall_iff.1]
theorem Fj{n:Nat}{o:iz}{st H:St}(K:js E (be E) n o st=some H): ∃m,js E (kM E m) n o st=some H:=by
 cases N:jL st.rho o.op with
 |none=>
  simp_all[js]
 |some x=>
  cases x with
  |none=>
   simp_all[js]
  |some D=>
   cases I:jy E (be E) (o.d.getD 0) st D.1 D.2 with
   |none=>
    refine⟨0, ?_⟩
    have J:jy E (kM E 0) (o.d.getD 0) st D.1 D.2=none:=by
     cases J:jy E (kM E 0) (o.d.getD 0) st D.1 D.2 with
     |none=>rfl
     |some r=>rw[CJ (ve 0) J]at I;cases I
    grind [js]
   |some r=>
    grind [js,OK]
theorem OM{o:iz}{st:St}{r:FP}(J:jS E (be E) o st=some r): ∃m,jS E (kM E m) o st=some r:=by
 cases K:jL st.rho o.op with
 |none=>
  simp_all[jS]
 |some x=>
  cases x with
  |none=>
   simp_all[jS]
  |some D=>
   cases H:mz E (be E) (o.d.getD 0) st D.1 D.2 with
   |none=>
    refine⟨0, ?_⟩
    have I:mz E (kM E 0) (o.d.getD 0) st D.1 D.2=none:=by
     cases I:mz E (kM E 0) (o.d.getD 0) st D.1 D.2 with
     |none=>rfl
     |some r=>rw[CM (ve 0) I]at H;cases H
    grind [jS]
   |some r=>
    grind [jS,OL]
theorem xD{n:Nat}: ∀(os:List iz) {st D:St},iB E (be E) n os st=some D→ ∃m,iB E (kM E m) n os st=some D
 | [],st,D,r=>⟨0,r⟩
 |o::os,st,D,r=>by
  simp only[iB]at r
  cases J:js E (be E) n o st with
  |none=>grind
  |some s=>
   simp only[J]at r
   obtain⟨H,K⟩:=Fj J
   obtain⟨I,N⟩:=xD os r
   refine⟨max H I, ?_⟩
   simp only[iB,sY (jV (Nat.le_max_left H I)) K]
   exact nW (jV (Nat.le_max_right H I)) os N
theorem Fk{n:Nat}: ∀(os:List (List Nat×iz)) {J:List FP} {st K:St},jc E (be E) n os J st=some K→ ∃m,jc E (kM E m) n os J st=some K
 | [],J,st,K,r=>⟨0,r⟩
 |(u,o)::os,J,st,K,r=>by
  simp only[jc]at r
  cases N:jS E (be E) o st with
  |none=>grind
  |some fp=>
   simp only[N]at r
   split at r
   ·rename_i U
    cases O:js E (be E) n o st with
    |none=>grind
    |some s=>
     simp only[O]at r
     obtain⟨D,V⟩:=Fj O
     obtain⟨H,W⟩:=Fk os r
     obtain⟨I,X⟩:=OM N
     refine⟨max I (max D H), ?_⟩
     have Y:D≤max I (max D H):=by omega
     have Z:H≤max I (max D H):=by omega
     have l3:I≤max I (max D H):=by omega
     simp only[jc,CN (jV l3) X,sY (jV Y) V]
     rw[if_pos U]
     exact sZ (jV Z) os W
   ·cases r
theorem vf{α:Type}{x y:Option α}(h: ∀r,x=some r↔y=some r):x=y:=Option.ext h
theorem adi{n:Nat}{st:St}:DC E n .skip st=some (.nrm,st):=k5.2 ⟨0,rfl⟩
theorem adj{n id:Nat}{st:St}:DC E n (.exit id) st=some (.ext id,st):=k5.2 ⟨0,rfl⟩
theorem akQ{n:Nat}{st:St}:DC E n .ret st=some (.ret,st):=k5.2 ⟨0,rfl⟩
theorem HE{n:Nat}{ops:List iz}{st:St}:DC E n (.region ops) st=(iB E (be E) n ops st).map fun D=>(.nrm,D):=by
 refine vf fun r=> ?_
 rw[k5,Option.map_eq_some_iff]
 constructor
 ·rintro⟨m,h⟩
  simp only[nS,Option.map_eq_some_iff]at h
  obtain⟨a,H,I⟩:=h
  exact⟨a,nW (ve m) ops H,I⟩
 grind [nS,Option.map_eq_some_iff,xD]
theorem L8{n:Nat}{ops:List (List Nat×iz)}{st:St}:DC E n (.draws ops) st=(jc E (be E) n ops [] st).map fun D=>(.nrm,D):=by
 refine vf fun r=> ?_
 rw[k5,Option.map_eq_some_iff]
 constructor
 ·rintro⟨m,h⟩
  simp only[nS,Option.map_eq_some_iff]at h
  obtain⟨a,H,I⟩:=h
  exact⟨a,sZ (ve m) ops H,I⟩
 grind [nS,Option.map_eq_some_iff,Fk]
def andThen(x:Option (Out×St))(f:St→Option (Out×St)):Option (Out×St):=
 match x with
 |some (.nrm,D)=>f D
 |r=>r
theorem np{st:St}{f:St→Option (Out×St)}:andThen (some (.nrm,st)) f=f st:=rfl
theorem L9{id:Nat}{st:St}{f:St→Option (Out×St)}:andThen (some (.ext id,st)) f=some (.ext id,st):=rfl
theorem Ma{st:St}{f:St→Option (Out×St)}:andThen (some (.ret,st)) f=some (.ret,st):=rfl
theorem wN{n:Nat}{a b:iA}{st:St}:DC E n (.seq a b) st=andThen (DC E n a st) (DC E n b):=by
 refine vf fun r=> ?_
 rw[k5]
 constructor
 ·rintro⟨m,h⟩
  simp only[nS]at h
  cases D:nS E (kM E m) m n a st with
  |none=>grind
  |some p=>
   rw[D]at h
   rw[k5.2 ⟨m,D⟩]
   obtain⟨o,s⟩:=p
   cases o with
   |nrm=>exact k5.2 ⟨m,h⟩
   |ext id=>exact h
   |ret=>exact h
 ·intro h
  cases D:DC E n a st with
  |none=>rw[D]at h;cases h
  |some p=>
   rw[D]at h
   obtain⟨H,I⟩:=k5.1 D
   obtain⟨o,s⟩:=p
   cases o with
   |nrm=>
    obtain⟨J,O⟩:=k5.1 h
    refine⟨max H J, ?_⟩
    have K:=Nat.le_max_left H J
    have N:=Nat.le_max_right H J
    simp only[nS,kW (jV K) K a I]
    exact kW (jV N) N b O
   |ext id=>refine⟨H, ?_⟩;simp only[nS,I];exact h
   |ret=>refine⟨H, ?_⟩;simp only[nS,I];exact h
theorem adk{n:Nat}{c:iS}{a b:iA}{st:St}:DC E n (.cond c a b) st=match st.rho c with| .b true=>DC E n a st| .b false=>DC E n b st|_=>none:=by
 refine vf fun r=> ?_
 grind [k5,nS,k5.2,k5.1]
def Fo(id:Nat)(x:Option (Out×St)):Option (Out×St):=
 match x with
 |some (.ext SZ,D)=>if SZ=id then some (.nrm,D)else some (.ext SZ,D)
 |r=>r
theorem Tg{id:Nat}{st:St}:Fo id (some (.nrm,st))=some (.nrm,st):=rfl
theorem Th{id:Nat}{st:St}:Fo id (some (.ret,st))=some (.ret,st):=rfl
theorem Ti{id SZ:Nat}{st:St}:Fo id (some (.ext SZ,st))=if SZ=id then some (.nrm,st)else some (.ext SZ,st):=rfl
theorem X5{n id:Nat}{a:iA}{st:St}:DC E n (.block id a) st=Fo id (DC E n a st):=by
 refine vf fun r=> ?_
 rw[k5]
 constructor
 ·rintro⟨m,h⟩
  simp only[nS]at h
  cases D:nS E (kM E m) m n a st with
  |none=>grind
  |some p=>
   rw[D]at h
   rw[k5.2 ⟨m,D⟩]
   exact h
 ·intro h
  cases D:DC E n a st with
  |none=>rw[D]at h;cases h
  |some p=>
   rw[D]at h
   obtain⟨H,I⟩:=k5.1 D
   refine⟨H, ?_⟩
   simp only[nS,I]
   exact h
theorem xE{n:Nat}{a:iA}{st:St}:DC E n (.loop a) st=andThen (DC E n a st) (DC E n (.loop a)):=by
 refine vf fun r=> ?_
 rw[k5]
 constructor
 ·rintro⟨m,h⟩
  simp only[nS]at h
  cases m with
  |zero=>simp[iter]at h
  |succ m=>
   rw[iter]at h
   cases H:nS E (kM E (m+1)) (m+1) n a st with
   |none=>grind
   |some p=>
    rw[H]at h
    rw[k5.2 ⟨m+1,H⟩]
    obtain⟨o,s⟩:=p
    cases o with
    |nrm=>
     refine k5.2 ⟨m+1, ?_⟩
     simp only[nS]
     exact xC (fun _ _ h=>h) (Nat.le_succ m) h
    |ext id=>exact h
    |ret=>exact h
 ·intro h
  cases H:DC E n a st with
  |none=>rw[H]at h;cases h
  |some p=>
   rw[H]at h
   obtain⟨D,J⟩:=k5.1 H
   obtain⟨o,s⟩:=p
   cases o with
   |nrm=>
    obtain⟨I,K⟩:=k5.1 h
    refine⟨max D I+1, ?_⟩
    have N:D≤max D I+1:=by omega
    have O:I≤max D I+1:=by omega
    have U:I≤max D I:=by omega
    simp only[nS]at K
    simp only[nS]
    rw[iter,kW (jV N) N a J]
    exact xC (fun st r V=>kW (jV O) O a V) U K
   |ext id=>
    refine⟨D+1, ?_⟩
    simp only[nS]
    rw[iter,kW (jV (Nat.le_succ D)) (Nat.le_succ D) a J]
    exact h
   |ret=>
    refine⟨D+1, ?_⟩
    simp only[nS]
    rw[iter,kW (jV (Nat.le_succ D)) (Nat.le_succ D) a J]
    exact h
def X6(af:iC)(x:Option (Out×St)):Option (T×List iy):=
 match x with
 |some (.ext _,_)=>none
 |some (_,st)=>match oV st af.res with
  |some r=>uS af.own af.eff r st
  |none=>none
 |none=>none
theorem Mb{f:Nat}{af:iC}{args:List T}{sh:List iy}(H:E.fn f=some af)(I:args.length≤af.n):
  be E f args sh=X6 af (DC E af.n af.code {fr:=qx args,lh:= .nil,sh}):=by
 refine vf fun r=> ?_
 rw[DCall_iff]
 constructor
 ·rintro⟨m,h⟩
  cases m with
  |zero=>simp[kM]at h
  |succ m=>
   simp only[kM,H,if_neg (Nat.not_lt.2 I)]at h
   cases D:nS E (kM E m) m af.n af.code {fr:=qx args,lh:= .nil,sh}with
   |none=>grind
   |some p=>rw[D]at h;rw[k5.2 ⟨m,D⟩];exact h
 ·intro h
  cases D:DC E af.n af.code {fr:=qx args,lh:= .nil,sh}with
  |none=>rw[D]at h;cases h
  |some p=>
   rw[D]at h
   obtain⟨m,J⟩:=k5.1 D
   refine⟨m+1, ?_⟩
   simp only[kM,H,if_neg (Nat.not_lt.2 I),J]
   exact h
end
end Go.Ev
namespace Go.Ev
open Go
theorem nr{α:Sort _}{a b:α}(h:a=b):a=b:=h
def rd(fr:Fr):iS→T
 | .t k=>an fr k
 | .c v=>v
theorem aBn(fr:Fr)(k:Nat):rd fr (.t k)=an fr k:=nr rfl
theorem aBo(fr:Fr)(v:T):rd fr (.c v)=v:=nr rfl
theorem lU(fr:Fr)(lh:iL iy)(sh:List iy):(St.mk fr lh sh).rho=rd fr:=by funext x;cases x <;> rfl
theorem X7(fr:Fr)(d:Nat)(v:T):an (kJ fr d v) d=v:=by rw[rC,if_pos rfl]
theorem X8(fr:Fr){d m:Nat}(v:T)(h:m≠d):an (kJ fr d v) m=an fr m:=by rw[rC,if_neg h]
def a6(lh:iL iy)(k:Nat):iy:=iL.get mN lh k
def oK(lh:iL iy)(k:Nat)(e:iy):iL iy:=iL.set mN lh k e
theorem BR(lh:iL iy)(k:Nat)(e:iy):a6 (oK lh k e) k=e:=by grind [a6,oK,iL.get_set]
theorem jF(lh:iL iy){k m:Nat}(e:iy)(h:m≠k):a6 (oK lh k e) m=a6 lh m:=by grind [a6,oK,iL.get_set]
theorem X9(k:Nat):a6 .nil k=mN:=by unfold a6;exact iL.get_nil _ _
theorem QO(fr:Fr)(lh:iL iy)(sh:List iy)(k:Nat):(St.mk fr lh sh).get .L k=a6 lh k:=rfl
theorem Dr(st:St):st.ups []=st:=rfl
theorem aix(fr:Fr)(lh:iL iy)(sh:List iy)(k:Nat)(e:iy)(us:List Up):(St.mk fr lh sh).ups ((.L,k,e)::us)=(St.mk fr (oK lh k e) sh).ups us:=rfl
def ri:Option EF→Option (T×List Up)
 |some (.val v r)=>some (v,r)
 |none=>none
def one(fr:Fr)(lh:iL iy)(sh:List iy)(d:Nat)(op:nO):Option (T×List Up):=
 ri ((jK d (rd fr) op).run (St.mk fr lh sh).get sh.length)
def xZ(fr:Fr):Option Nat→T→Fr
 |some d,v=>kJ fr d v
 |none,_=>fr
def Gz(n:Nat):Option Nat→Prop
 |some d=>d<n
 |none=>True
section
variable{E:Env}{call:qT}{n:Nat}{fr:Fr}{lh:iL iy}{sh:List iy}{os:List iz}
theorem aui{st:St}:iB E call n [] st=some st:=rfl
theorem qC{d:Option Nat}{op:nO}(D:jL (rd fr) op=none)(H:Gz n d):
  iB E call n (⟨d,op,none⟩::os) ⟨fr,lh,sh⟩=(one fr lh sh (d.getD 0) op).bind fun r=>iB E call n os {(St.mk fr lh sh).ups r.2 with fr:=xZ fr d r.1}:=by
 simp only[iB,js,lU,D]
 unfold one
 cases h:(jK (d.getD 0) (rd fr) op).run (St.mk fr lh sh).get sh.length with
 |none=>rfl
 |some r=>
  obtain⟨v,ups⟩:=r
  simp only[Option.bind_some,ri]
  cases d with
  |none=>rfl
  |some d=>simp only[oD,if_pos (show d<n from H),xZ,Option.map_some]
theorem mc{d:Option Nat}{op:nO}(r:jL (rd fr) op=none)(D:Gz n d){v:Option T}(H:one fr lh sh (d.getD 0) op=v.map fun v=>(v,[])):
  iB E call n (⟨d,op,none⟩::os) ⟨fr,lh,sh⟩=v.bind fun v=>iB E call n os ⟨xZ fr d v,lh,sh⟩:=by
 rw[qC r D,H]
 cases v <;> rfl
theorem pz{o:Option T}{h:Sp→Nat→iy}{nx:Nat}:ri ((val o).run h nx)=o.map fun v=>(v,([]:List Up)):=by
 cases o <;> rfl
variable{d:Nat}
theorem aBp{x:iS}(r:d<n):iB E call n (⟨some d,.mv x,none⟩::os) ⟨fr,lh,sh⟩=iB E call n os ⟨kJ fr d (rd fr x),lh,sh⟩:=
 mc (d:=some d) (v:=some (rd fr x)) (by rfl) r rfl
def QP(c a b:T):Option T:=match c with| .b x=>some (if x=true then a else b)|_=>none
theorem adl(x:Bool)(a b:T):QP (.b x) a b=some (if x=true then a else b):=rfl
theorem akR{c a b:iS}(r:d<n):iB E call n (⟨some d,.pick c a b,none⟩::os) ⟨fr,lh,sh⟩=(QP (rd fr c) (rd fr a) (rd fr b)).bind fun v=>iB E call n os ⟨kJ fr d v,lh,sh⟩:=by
 refine mc (d:=some d) (by rfl) r ?_
 unfold one QP
 simp only[jK]
 cases h:rd fr c <;> try rfl
 rename_i x
 cases x <;> rfl
theorem auj{op:BinOp}{x y:iS}(r:d<n):iB E call n (⟨some d,.bin op x y,none⟩::os) ⟨fr,lh,sh⟩=(Ev.bin op (rd fr x) (rd fr y)).bind fun v=>iB E call n os ⟨kJ fr d v,lh,sh⟩:=
 mc (d:=some d) (by rfl) r pz
theorem aBq{neg:Bool}{k:EK}{x y:iS}(D:d<n):iB E call n (⟨some d,.eq neg k x y,none⟩::os) ⟨fr,lh,sh⟩=((xW k (rd fr x) (rd fr y)).map fun r=>T.b (r != neg)).bind fun v=>iB E call n os ⟨kJ fr d v,lh,sh⟩:=
 mc (d:=some d) (by rfl) D pz
theorem aBr{op:UnOp}{x:iS}(r:d<n):iB E call n (⟨some d,.un op x,none⟩::os) ⟨fr,lh,sh⟩=(Ev.un op (rd fr x)).bind fun v=>iB E call n os ⟨kJ fr d v,lh,sh⟩:=
 mc (d:=some d) (by rfl) r pz
def adm(k:IntKind):T→Option T
 | .i _ n=>some (.i k (wr k n))
 |_=>none
theorem auk{k:IntKind}{x:iS}(r:d<n):iB E call n (⟨some d,.cvi k x,none⟩::os) ⟨fr,lh,sh⟩=(adm k (rd fr x)).bind fun v=>iB E call n os ⟨kJ fr d v,lh,sh⟩:=by
 refine mc (d:=some d) (by rfl) r ?_
 unfold one adm
 simp only[jK]
 cases h:rd fr x <;> rfl
theorem akS{f:Nat}{a c:List iS}(r:d<n):iB E call n (⟨some d,.mkfn f a c,none⟩::os) ⟨fr,lh,sh⟩=iB E call n os ⟨kJ fr d (.fn f (a.map (rd fr)) (c.map (rd fr))),lh,sh⟩:=
 mc (d:=some d) (v:=some _) (by rfl) r rfl
def I6(fr:Fr)(z:List T)(r:List (Nat×Nat×iS)):Option T:=
 if(r.all fun p=>(cellsOf (rd fr p.2.2)).length=p.2.1&&noTup (rd fr p.2.2))=true then(qZ z (r.map fun p=>(p.1,cellsOf (rd fr p.2.2)))).map .agg else none
theorem adn{z:List T}{r:List (Nat×Nat×iS)}(D:d<n):iB E call n (⟨some d,.build z r,none⟩::os) ⟨fr,lh,sh⟩=(I6 fr z r).bind fun v=>iB E call n os ⟨kJ fr d v,lh,sh⟩:=by
 refine mc (d:=some d) (by rfl) D ?_
 unfold one I6
 simp only[jK]
 split
 ·exact pz
 ·rfl
def vg(fr:Fr)(x:T)(l h:Option iS):Option T:=
 match x with
 | .s r=>match lr (rd fr) 0 l,lr (rd fr) r.length h with
   |some l,some h=>if l≤h∧h≤r.length then some (.s ((r.drop l).take (h-l)))else none
   |_,_=>none
 |_=>none
theorem aul{x:iS}{l h:Option iS}(H:d<n):iB E call n (⟨some d,.slS x l h,none⟩::os) ⟨fr,lh,sh⟩=(vg fr (rd fr x) l h).bind fun v=>iB E call n os ⟨kJ fr d v,lh,sh⟩:=by
 refine mc (d:=some d) (by rfl) H ?_
 unfold one vg
 simp only[jK]
 cases I:rd fr x <;> try rfl
 rename_i r
 simp only[]
 cases J:lr (rd fr) 0 l <;> cases K:lr (rd fr) r.length h <;> try rfl
 rename_i a b
 simp only[Bool.and_eq_true,decide_eq_true_eq]
 by_cases D:a≤b∧b≤r.length
 ·simp only[if_pos D];rfl
 ·simp only[if_neg D];rfl
def faV(x:T)(off:Nat):Option T:=
 match x with
 | .vp cs=>if off≤cs.length then some (.vp (cs.drop off))else none
 | .ptr sp k g o=>some (.ptr sp k g (o+off))
 |_=>none
theorem aBs{x:iS}{off:Nat}(r:d<n):iB E call n (⟨some d,.fa x off,none⟩::os) ⟨fr,lh,sh⟩=(faV (rd fr x) off).bind fun v=>iB E call n os ⟨kJ fr d v,lh,sh⟩:=by
 refine mc (d:=some d) (by rfl) r ?_
 unfold one faV
 simp only[jK]
 cases D:rd fr x <;> try rfl
 rename_i cs
 simp only[]
 split <;> rfl
def ado(x:T)(off n:Nat)(r:Bool):Option T:=match x with| .agg cs=>part cs off n r|_=>none
theorem aun{x:iS}{off m:Nat}{r:Bool}(D:d<n):iB E call n (⟨some d,.fld x off m r,none⟩::os) ⟨fr,lh,sh⟩=(ado (rd fr x) off m r).bind fun v=>iB E call n os ⟨kJ fr d v,lh,sh⟩:=by
 refine mc (d:=some d) (by rfl) D ?_
 unfold one ado
 simp only[jK]
 cases H:rd fr x <;> try rfl
 exact pz
def ng(x r:T)(sz:Nat):Option T:=
 match asNat r,x with
 |some j,.sl cs len _=>if j<len∧(j+1)*sz≤cs.length then some (.vp (cs.drop (j*sz)))else none
 |some j,.isl sp k g off len D=>if j<len∧D=sz then some (.ptr sp k g (off+j*sz))else none
 |_,_=>none
theorem aBt{x r:iS}{sz:Nat}(D:d<n):iB E call n (⟨some d,.ia x r sz,none⟩::os) ⟨fr,lh,sh⟩=(ng (rd fr x) (rd fr r) sz).bind fun v=>iB E call n os ⟨kJ fr d v,lh,sh⟩:=by
 refine mc (d:=some d) (by rfl) D ?_
 unfold one ng
 simp only[jK]
 cases H:asNat (rd fr r)with
 |none=>rfl
 |some j=>
  cases I:rd fr x <;> try rfl
  ·simp only[Bool.and_eq_true,decide_eq_true_eq];split <;> rfl
  ·simp only[Bool.and_eq_true,decide_eq_true_eq];split <;> rfl
def lZ(x r:T)(len sz:Nat):Option T:=
 match asNat r,x with
 |some j,.vp cs=>if j<len∧(j+1)*sz≤cs.length then some (.vp (cs.drop (j*sz)))else none
 |some j,.ptr sp k g off=>if j<len then some (.ptr sp k g (off+j*sz))else none
 |_,_=>none
theorem auo{x r:iS}{len sz:Nat}(D:d<n):iB E call n (⟨some d,.iaA x r len sz,none⟩::os) ⟨fr,lh,sh⟩=(lZ (rd fr x) (rd fr r) len sz).bind fun v=>iB E call n os ⟨kJ fr d v,lh,sh⟩:=by
 refine mc (d:=some d) (by rfl) D ?_
 unfold one lZ
 simp only[jK]
 cases H:asNat (rd fr r)with
 |none=>rfl
 |some j=>
  cases I:rd fr x <;> try rfl
  ·simp only[Bool.and_eq_true,decide_eq_true_eq];split <;> rfl
  ·simp only[];split <;> rfl
def GP(x r:T):Option T:=
 match asNat r,x with
 |some j,.s D=>D[j]?.map fun c=> .i .u8 c
 |_,_=>none
theorem aup{x r:iS}(D:d<n):iB E call n (⟨some d,.ixS x r,none⟩::os) ⟨fr,lh,sh⟩=(GP (rd fr x) (rd fr r)).bind fun v=>iB E call n os ⟨kJ fr d v,lh,sh⟩:=by
 refine mc (d:=some d) (by rfl) D ?_
 unfold one GP
 simp only[jK]
 cases I:asNat (rd fr r)with
 |none=>rfl
 |some j=>
  cases J:rd fr x <;> try rfl
  rename_i H
  simp only[]
  cases K:H[j]? <;> rfl
def adp(x r:T)(len sz:Nat)(D:Bool):Option T:=
 match asNat r,x with
 |some j,.agg cs=>if j<len then part cs (j*sz) sz D else none
 |_,_=>none
theorem auq{x r:iS}{len sz:Nat}{D:Bool}(H:d<n):iB E call n (⟨some d,.ixA x r len sz D,none⟩::os) ⟨fr,lh,sh⟩=(adp (rd fr x) (rd fr r) len sz D).bind fun v=>iB E call n os ⟨kJ fr d v,lh,sh⟩:=by
 refine mc (d:=some d) (by rfl) H ?_
 unfold one adp
 simp only[jK]
 cases I:asNat (rd fr r)with
 |none=>rfl
 |some j=>
  cases J:rd fr x <;> try rfl
  simp only[]
  split
  ·exact pz
  ·rfl
def adq(x:T)(j:Nat):Option T:=match x with| .tup vs=>vs[j]? |_=>none
theorem aur{x:iS}{j:Nat}(r:d<n):iB E call n (⟨some d,.ext x j,none⟩::os) ⟨fr,lh,sh⟩=(adq (rd fr x) j).bind fun v=>iB E call n os ⟨kJ fr d v,lh,sh⟩:=by
 refine mc (d:=some d) (by rfl) r ?_
 unfold one adq
 simp only[jK]
 cases D:rd fr x <;> try rfl
 exact pz
def QQ(x:T):Option T:=match x with| .s bs=>some (.i .i64 bs.length)|_=>none
theorem akT{x:iS}(r:d<n):iB E call n (⟨some d,.lenS x,none⟩::os) ⟨fr,lh,sh⟩=(QQ (rd fr x)).bind fun v=>iB E call n os ⟨kJ fr d v,lh,sh⟩:=by
 refine mc (d:=some d) (by rfl) r ?_
 unfold one QQ
 simp only[jK]
 cases D:rd fr x <;> rfl
theorem akU{x:iS}(r:d<n):iB E call n (⟨some d,.lenV x,none⟩::os) ⟨fr,lh,sh⟩=((wb (rd fr x)).map fun m=>T.i .i64 m).bind fun v=>iB E call n os ⟨kJ fr d v,lh,sh⟩:=
 mc (d:=some d) (by rfl) r pz
def mmV(r:Bool)(l:List T):Option T:=match l with|x::rest=>oC r x rest| []=>none
theorem aBu{r:Bool}{args:List iS}(H:d<n):iB E call n (⟨some d,.mm r args,none⟩::os) ⟨fr,lh,sh⟩=(mmV r (args.map (rd fr))).bind fun v=>iB E call n os ⟨kJ fr d v,lh,sh⟩:=by
 refine mc (d:=some d) (by rfl) H ?_
 unfold one mmV
 simp only[jK]
 cases I:args.map (rd fr)with
 |nil=>rfl
 |cons x D=>exact pz
def Tj(x:T):Option T:=match x with| .vp cs=>some (.vp cs)| .ptr sp k g off=>some (.ptr sp k g off)| .fn f a c=>some (.fn f a c)|_=>none
theorem adr{x:iS}:one fr lh sh d (.nck x)=(Tj (rd fr x)).map fun v=>(v,[]):=by
 unfold one Tj
 simp only[jK]
 cases r:rd fr x <;> rfl
theorem aut{x:iS}(r:d<n):iB E call n (⟨some d,.nck x,none⟩::os) ⟨fr,lh,sh⟩=(Tj (rd fr x)).bind fun v=>iB E call n os ⟨kJ fr d v,lh,sh⟩:=
 mc (d:=some d) (by rfl) r adr
def ldE(e:iy)(g off m:Nat)(r:Bool):Option T:=
 match e with
 |⟨D,.cells cs _ _⟩=>if D=g then part cs off m r else none
 |_=>none
theorem Tk{g r off m wm:Nat}{D bx:Bool}{cs:List T}:ldE ⟨r,.cells cs wm bx⟩ g off m D=if r=g then part cs off m D else none:=rfl
def ldV(lh:iL iy)(sh:List iy)(x:T)(m:Nat)(r:Bool):Option T:=
 match x with
 | .vp cs=>part cs 0 m r
 | .ptr .L k g off=>ldE (a6 lh k) g off m r
 | .ptr .S k g off=>ldE (iM sh k) g off m r
 |_=>none
theorem Ya{α:Type}{o:Option α}{h:Sp→Nat→iy}{nx:Nat}:(Q.of o).run h nx=o:=by cases o <;> rfl
theorem ldQ{h:Sp→Nat→iy}{nx g off m:Nat}{r:Bool}(e:iy):Q.run h nx (if e.g=g then(match e.ob with| .cells cs _ _=>Q.of (part cs off m r)|_=> .fail)else .fail)=ldE e g off m r:=by
 obtain⟨H,ob⟩:=e
 unfold ldE
 by_cases D:H=g
 ·cases ob <;> simp only[D,if_true] <;> first|rfl|exact Ya
 ·cases ob <;> simp only[D,if_false] <;> rfl
theorem QR{x:T}{m:Nat}{r:Bool}:(II x m r).run (St.mk fr lh sh).get sh.length=ldV lh sh x m r:=by
 unfold II ldV
 cases x <;> try rfl
 ·exact Ya
 ·rename_i sp k g off
  cases sp
  ·exact ldQ (a6 lh k)
  ·exact ldQ (iM sh k)
theorem jq{α β:Type}{h:Sp→Nat→iy}{nx:Nat}{f:α→Q β}: ∀(q:Q α),(q.bind f).run h nx=(q.run h nx).bind fun a=>(f a).run h nx
 | .ret a=>rfl
 | .fail=>rfl
 | .rd sp k g=>jq (g (h sp k))
 | .new g=>jq (g nx)
theorem aBv{x:iS}{m:Nat}{r:Bool}(D:d<n):iB E call n (⟨some d,.ld x m r,none⟩::os) ⟨fr,lh,sh⟩=(ldV lh sh (rd fr x) m r).bind fun v=>iB E call n os ⟨kJ fr d v,lh,sh⟩:=by
 refine mc (d:=some d) (by rfl) D ?_
 unfold one
 simp only[jK,jq,QR]
 cases ldV lh sh (rd fr x) m r <;> rfl
theorem ads{z:List T}(r:d<n):iB E call n (⟨some d,.alloc z false,none⟩::os) ⟨fr,lh,sh⟩=iB E call n os ⟨kJ fr d (.ptr .L d ((a6 lh d).g+1) 0),oK lh d ⟨(a6 lh d).g+1,.cells z 0 true⟩,sh⟩:=by
 rw[qC (by rfl) (show Gz n (some d)from r)];rfl
theorem auu{x:iS}(r:d<n)(D:noTup (rd fr x)=true):iB E call n (⟨some d,.box x false,none⟩::os) ⟨fr,lh,sh⟩=iB E call n os ⟨kJ fr d (.ptr .L d ((a6 lh d).g+1) 0),oK lh d ⟨(a6 lh d).g+1,.cells (cellsOf (rd fr x)) 0 true⟩,sh⟩:=by
 rw[qC (by rfl) (show Gz n (some d)from r)]
 unfold one
 simp only[jK,D]
 rfl
theorem adt(r:d<n):iB E call n (⟨some d,.mkmap false,none⟩::os) ⟨fr,lh,sh⟩=iB E call n os ⟨kJ fr d (.mp .L d ((a6 lh d).g+1)),oK lh d ⟨(a6 lh d).g+1,.map [] [] false⟩,sh⟩:=by
 rw[qC (by rfl) (show Gz n (some d)from r)];rfl
def ON(x:T)(bytes:Nat):Option Nat:=match asNat x with|some m=>if m*bytes≤roomy∧m≤roomy then some m else none|none=>none
theorem akW{z:List T}{bytes:Nat}{x:iS}(r:d<n):iB E call n (⟨some d,.mksl z bytes x false,none⟩::os) ⟨fr,lh,sh⟩=
  (ON (rd fr x) bytes).bind fun m=>iB E call n os ⟨kJ fr d (.isl .L d ((a6 lh d).g+1) 0 m z.length),oK lh d ⟨(a6 lh d).g+1,.cells (repl z m) 0 (Xt z)⟩,sh⟩:=by
 rw[qC (by rfl) (show Gz n (some d)from r)]
 unfold one ON
 simp only[jK]
 cases asNat (rd fr x)with
 |none=>rfl
 |some m=>
  simp only[Bool.and_eq_true,decide_eq_true_eq]
  split <;> rfl
end
end Go.Ev
namespace Go.Ev
open Go
def froz1:T→Bool
 | .b _| .i .. | .s _| .nilsl| .sl .. | .nilptr| .vp _| .nilmp| .vm .. | .nilfn=>true
 |_=>false
def froz:T→Bool
 | .agg cs=>cs.all froz1
 | .tup cs=>cs.all froz1
 | .fn _ a c=>a.all froz1&&c.all froz1
 |t=>froz1 t
theorem qD{keep:Bool}{n:Nat}{t:T}(h:froz1 t=true):fz keep (n+1) t= .ret (t,[]):=by
 cases t <;> first|rfl|(simp[froz1]at h)
theorem qb{keep:Bool}{n:Nat}: ∀(ts:List T),ts.all froz1=true→jm (fz keep (n+1)) ts= .ret (ts,[])
 | [],_=>rfl
 |t::ts,h=>by
  simp_all[List.all_cons,Bool.and_eq_true,jm,qD,qb,Q.bind,List.append_nil]
theorem I7{keep:Bool}{n:Nat}{cs:List T}:fz keep (n+1) (.agg cs)=(jm (fz keep n) cs).bind fun q=> .ret (.agg q.1,q.2):=rfl
theorem OO{keep:Bool}{n:Nat}{cs:List T}:fz keep (n+1) (.tup cs)=(jm (fz keep n) cs).bind fun q=> .ret (.tup q.1,q.2):=rfl
theorem Yb{keep:Bool}{n f:Nat}{a c:List T}:fz keep (n+1) (.fn f a c)=(jm (fz keep n) a).bind fun p=>(jm (fz keep n) c).bind fun q=> .ret (.fn f p.1 q.1,p.2++q.2):=rfl
theorem qt{keep:Bool}{n:Nat}{t:T}(h:froz t=true):fz keep (n+2) t= .ret (t,[]):=by
 cases t with
 |agg cs=>simp only[froz]at h;rw[I7,qb cs h];rfl
 |tup cs=>simp only[froz]at h;rw[OO,qb cs h];rfl
 |fn f a c=>simp only[froz,Bool.and_eq_true]at h;rw[Yb,qb a h.1,qb c h.2];rfl
 |_=>exact qD h
def fzV(lh:iL iy)(sh:List iy)(keep:Bool)(v:T):Option (T×List Up):=(fz keep iT v).run (St.mk .nil lh sh).get sh.length
def Dn(lh:iL iy)(sh:List iy)(keep:Bool)(r:List T):Option (List T×List Up):=(jm (fz keep iT) r).run (St.mk .nil lh sh).get sh.length
section
variable{lh:iL iy}{sh:List iy}{keep:Bool}
theorem tS{v:T}(h:froz v=true):fzV lh sh keep v=some (v,[]):=by
 unfold fzV iT;rw[qt h];rfl
theorem Ds:Dn lh sh keep []=some ([],[]):=rfl
theorem rX{v:T}{r:List T}:Dn lh sh keep (v::r)=(fzV lh sh keep v).bind fun p=>(Dn lh sh keep r).bind fun q=>some (p.1::q.1,p.2++q.2):=by
 unfold Dn fzV
 rw[jm,jq]
 congr 1
 funext p
 rw[jq]
 rfl
theorem Ao{r:List T}(h:r.all froz=true):Dn lh sh keep r=some (r,[]):=by
 induction r with
 |nil=>rfl
 |cons v r ih=>
  simp_all[List.all_cons,Bool.and_eq_true,rX,tS]
def Tl(m:Nat)(lh:iL iy)(sh:List iy)(k:Nat)(e:iy)(g off len sz:Nat):Option (T×List Up):=
 match e with
 |⟨r,.cells cs _ false⟩=>if r=g∧off+len*sz≤cs.length then some (.sl ((cs.drop off).take (len*sz)) len false,[(.L,k,⟨g,.cells cs cs.length false⟩)])else none
 |⟨r,.cells cs _ true⟩=>if r=g∧off+len*sz≤cs.length then((jm (fz false m) ((cs.drop off).take (len*sz))).run (St.mk .nil lh sh).get sh.length).map fun q=>(.sl q.1 len false,q.2++ [(.L,k,⟨g,.cells cs cs.length true⟩)])else none
 |_=>none
theorem auv{m k g off len sz:Nat}(e:iy):Q.run (St.mk .nil lh sh).get sh.length (if e.g=g then(match e.ob with
        | .cells cs _ false=>if off+len*sz≤cs.length then .ret (T.sl ((cs.drop off).take (len*sz)) len false,[(Sp.L,k,(⟨g,.cells cs cs.length false⟩:iy))])else .fail
        | .cells cs _ true=>if off+len*sz≤cs.length then(jm (fz false m) ((cs.drop off).take (len*sz))).bind fun q=> .ret (T.sl q.1 len false,q.2++ [(Sp.L,k,(⟨g,.cells cs cs.length true⟩:iy))])else .fail
        |_=> .fail)else .fail)=Tl m lh sh k e g off len sz:=by
 obtain⟨H,ob⟩:=e
 unfold Tl
 by_cases r:H=g
 ·cases ob with
  |cells cs wm bx=>
   cases bx
   ·grind [Q.run]
   ·by_cases D:off+len*sz≤cs.length
    ·simp only[r,D,if_true,and_self,jq]
     cases (jm (fz false m) ((cs.drop off).take (len*sz))).run (St.mk .nil lh sh).get sh.length <;> rfl
    ·simp[r,D,Q.run]
  |_=>simp[r,Q.run]
 grind [Q.run]
theorem I8{k g off len sz:Nat}:fzV lh sh keep (.isl .L k g off len sz)=Tl 7 lh sh k (a6 lh k) g off len sz:=by
 cases keep <;> exact auv (a6 lh k)
def mpV(k:Nat)(e:iy)(g:Nat):Option (T×List Up):=
 match e with
 |⟨D,.map ks r _⟩=>if D=g then some (.vm ks r,[(.L,k,⟨g,.map ks r true⟩)])else none
 |_=>none
theorem mpQ{h:Sp→Nat→iy}{nx k g:Nat}(e:iy):Q.run h nx (if e.g=g then(match e.ob with
        | .map ks r _=> .ret (T.vm ks r,[(Sp.L,k,(⟨g,.map ks r true⟩:iy))])
        |_=> .fail)else .fail)=mpV k e g:=by
 obtain⟨D,ob⟩:=e
 unfold mpV
 grind [Q.run]
theorem akX{k g:Nat}:fzV lh sh keep (.mp .L k g)=mpV k (a6 lh k) g:=by
 cases keep <;> exact mpQ (a6 lh k)
theorem Tm{k g off:Nat}:fzV lh sh true (.ptr .S k g off)=some (.ptr .S k g off,[]):=rfl
theorem adu{cs:List T}:fzV lh sh keep (.agg cs)=((jm (fz keep 7) cs).run (St.mk .nil lh sh).get sh.length).map fun q=>(.agg q.1,q.2):=by
 unfold fzV iT
 rw[I7,jq]
 cases (jm (fz keep 7) cs).run (St.mk .nil lh sh).get sh.length <;> rfl
theorem adv{cs:List T}:fzV lh sh keep (.tup cs)=((jm (fz keep 7) cs).run (St.mk .nil lh sh).get sh.length).map fun q=>(.tup q.1,q.2):=by
 unfold fzV iT
 rw[OO,jq]
 cases (jm (fz keep 7) cs).run (St.mk .nil lh sh).get sh.length <;> rfl
end
section
variable{E:Env}{call:qT}{n:Nat}{fr:Fr}{lh:iL iy}{sh:List iy}{os:List iz}{d:Nat}
theorem rY:(St.mk fr lh sh).get=(St.mk .nil lh sh).get:=by funext sp k;cases sp <;> rfl
theorem rF: ∀(us:List Up) (lh:iL iy) (sh:List iy),(St.mk fr lh sh).ups us={(St.mk .nil lh sh).ups us with fr:=fr}
 | [],lh,sh=>rfl
 |(.L,k,e)::us,lh,sh=>rF us (oK lh k e) sh
 |(.S,k,e)::us,lh,sh=>rF us lh (iR sh k e)
def stV(lh:iL iy)(sh:List iy)(x v:T)(m:Nat):Option (iL iy×List iy):=
 match(uR x v m).run (St.mk .nil lh sh).get sh.length with
 |some (.val _ us)=>some (((St.mk .nil lh sh).ups us).lh,((St.mk .nil lh sh).ups us).sh)
 |none=>none
theorem aBw{x v:iS}{m:Nat}:iB E call n (⟨none,.st x v m,none⟩::os) ⟨fr,lh,sh⟩=(stV lh sh (rd fr x) (rd fr v) m).bind fun r=>iB E call n os ⟨fr,r.1,r.2⟩:=by
 rw[qC (by rfl) (show Gz n none from trivial)]
 grind [one,stV,jK,rY,xZ,ri,rF]
def stB(lh:iL iy)(sh:List iy)(k:Nat)(e:iy)(g off:Nat)(v:T)(m:Nat):Option (iL iy×List iy):=
 match e with
 |⟨r,.cells cs wm true⟩=>if r=g∧(cellsOf v).length=m∧noTup v=true∧wm≤off∧off+m≤cs.length then some (oK lh k ⟨g,.cells (splice cs off (cellsOf v)) wm true⟩,sh)else none
 |⟨r,.cells cs wm false⟩=>if r=g∧(cellsOf v).length=m∧noTup v=true∧wm≤off∧off+m≤cs.length then
    (fzV lh sh false v).bind fun p=>if pW p.2 .L k=true∨noTup p.1=false∨(cellsOf p.1).length≠m then none else some (((St.mk .nil lh sh).ups (p.2++ [(.L,k,⟨g,.cells (splice cs off (cellsOf p.1)) wm false⟩)])).lh,((St.mk .nil lh sh).ups (p.2++ [(.L,k,⟨g,.cells (splice cs off (cellsOf p.1)) wm false⟩)])).sh)
  else none
 |_=>none
def oL(lh:iL iy)(sh:List iy):Option EF→Option (iL iy×List iy)
 |some (.val _ us)=>some (((St.mk .nil lh sh).ups us).lh,((St.mk .nil lh sh).ups us).sh)
 |none=>none
def adw(k g off m:Nat)(v:T)(e:iy):Q EF:=if e.g=g then match e.ob with
     | .cells cs wm bx=>if wm≤off&&off+m≤cs.length then
         (if bx&&Sp.L== .L then .ret (.val jg [(Sp.L,k,⟨g,.cells (splice cs off (cellsOf v)) wm bx⟩)])
         else(fz (bx&&Sp.L== .S) iT v).bind fun p=>if pW p.2 .L k|| !noTup p.1||(cellsOf p.1).length≠m then .fail else .ret (.val jg (p.2++ [(Sp.L,k,⟨g,.cells (splice cs off (cellsOf p.1)) wm bx⟩)])))
       else .fail
     |_=> .fail
    else .fail
theorem stQ{k g off m:Nat}{v:T}(e:iy)(H:(cellsOf v).length=m)(I:noTup v=true):oL lh sh (Q.run (St.mk .nil lh sh).get sh.length (adw k g off m v e))=stB lh sh k e g off v m:=by
 obtain⟨J,ob⟩:=e
 unfold stB adw
 by_cases K:J=g
 ·subst K
  cases ob with
  |none=>simp[Q.run,oL]
  |map ks N z=>simp[Q.run,oL]
  |cells cs wm bx=>
   by_cases r:wm≤off∧off+m≤cs.length
   ·cases bx with
    |true=>grind [Q.run,aix,Dr,oL]
    |false=>
     have D:(decide (wm≤off)&&decide (off+m≤cs.length))=true:=by simp[r.1,r.2]
     simp only[if_true,D,Bool.false_and,Bool.false_eq_true,if_false,jq]
     rw[if_pos (show True∧(cellsOf v).length=m∧noTup v=true∧wm≤off∧off+m≤cs.length from⟨trivial,H,I,r⟩)]
     show oL lh sh (Option.bind (fzV lh sh false v) _)=_
     cases O:fzV lh sh false v with
     |none=>rfl
     |some p=>
      simp only[Option.bind_some]
      by_cases U:(pW p.2 .L k=true∨noTup p.1=false∨(cellsOf p.1).length≠m)
      ·grind [Q.run,oL]
      simp_all[Bool.false_eq_true,Q.run,oL,Classical.byContradiction]
   grind [Bool.false_eq_true,Q.run,oL]
 grind [Q.run,oL]
theorem auy{k g off m:Nat}{v:T}:stV lh sh (.ptr .L k g off) v m=stB lh sh k (a6 lh k) g off v m:=by
 by_cases r:(cellsOf v).length=m
 ·cases D:noTup v with
  |false=>
   unfold stV uR
   have:(decide ((cellsOf v).length≠m)|| !noTup v)=true:=by simp[D]
   simp only[this,if_true,Q.run]
   unfold stB
   grind
  |true=>
   unfold stV uR
   have:(decide ((cellsOf v).length≠m)|| !noTup v)=false:=by simp[r,D]
   simp only[this,Bool.false_eq_true,if_false]
   exact stQ (a6 lh k) r D
 ·unfold stV uR
  have:(decide ((cellsOf v).length≠m)|| !noTup v)=true:=by simp[r]
  simp only[this,if_true,Q.run]
  unfold stB
  grind
theorem adx{k g r off m wm:Nat}{cs:List T}{v:T}:stB lh sh k ⟨r,.cells cs wm true⟩ g off v m=if r=g∧(cellsOf v).length=m∧noTup v=true∧wm≤off∧off+m≤cs.length then some (oK lh k ⟨g,.cells (splice cs off (cellsOf v)) wm true⟩,sh)else none:=rfl
theorem ady{k g r off m wm:Nat}{cs:List T}{v:T}(D:froz v=true):stB lh sh k ⟨r,.cells cs wm false⟩ g off v m=if r=g∧(cellsOf v).length=m∧noTup v=true∧wm≤off∧off+m≤cs.length then some (oK lh k ⟨g,.cells (splice cs off (cellsOf v)) wm false⟩,sh)else none:=by
 unfold stB
 simp only[tS D,Option.bind_some,pW,List.any_nil,Bool.false_eq_true,false_or]
 by_cases h:r=g∧(cellsOf v).length=m∧noTup v=true∧wm≤off∧off+m≤cs.length
 ·rw[if_pos h,if_pos h,if_neg (by rintro(hc|hc) <;> simp_all)]
  rfl
 ·grind
def slC(lh:iL iy)(sh:List iy)(sz:Nat)(x:T):Option (Nat×List T):=(j5 sz x).run (St.mk .nil lh sh).get sh.length
theorem adz{sz:Nat}:slC lh sh sz .nilsl=some (0,[]):=rfl
theorem I9{sz len:Nat}{cs:List T}{ex:Bool}:slC lh sh sz (.sl cs len ex)=if cs.length=len*sz then some (len,cs)else none:=by
 unfold slC j5;simp only[];split <;> rfl
def Tn(lh:iL iy)(k:Nat)(e:iy)(g off len sz r bytes:Nat)(p:Nat×List T):Option (T×iL iy):=
 match e with
 |⟨D,.cells cs wm false⟩=>if r=sz∧off=0∧(len+p.1)*bytes≤roomy∧D=g∧len*sz=cs.length then some (.isl .L k (g+1) 0 (len+p.1) sz,oK lh k ⟨g+1,.cells (cs++p.2) wm false⟩)else none
 |_=>none
def Ja(lh:iL iy)(d sz bytes:Nat)(s:T)(p:Nat×List T):Option (T×iL iy):=
 if p.1=0 then(match s with| .nilsl| .sl .. | .isl .. =>some (s,lh)|_=>none)else
 match s with
 | .nilsl=>if p.1*bytes≤roomy then some (.isl .L d ((a6 lh d).g+1) 0 p.1 sz,oK lh d ⟨(a6 lh d).g+1,.cells p.2 0 false⟩)else none
 | .sl cs len true=>if cs.length=len*sz∧(len+p.1)*bytes≤roomy then some (.isl .L d ((a6 lh d).g+1) 0 (len+p.1) sz,oK lh d ⟨(a6 lh d).g+1,.cells (cs++p.2) 0 false⟩)else none
 | .isl .L k g off len r=>Tn lh k (a6 lh k) g off len sz r bytes p
 |_=>none
def aiz(k g off len sz r bytes:Nat)(p:Nat×List T)(e:iy):Q EF:=
     if e.g=g then match e.ob with
      | .cells cs wm false=>if len*sz=cs.length then .ret (.val (.isl .L k (g+1) 0 (len+p.1) sz) [(.L,k,⟨g+1,.cells (cs++p.2) wm false⟩)])else .fail
      |_=> .fail
     else .fail
theorem aBx{k g off len sz D bytes:Nat}{p:Nat×List T}(e:iy)(H:D=sz∧off=0∧(len+p.1)*bytes≤roomy):
  ((ri (Q.run (St.mk .nil lh sh).get sh.length (aiz k g off len sz D bytes p e))).bind fun r=>iB E call n os {(St.mk fr lh sh).ups r.2 with fr:=kJ fr d r.1})=
    (Tn lh k e g off len sz D bytes p).bind fun q=>iB E call n os ⟨kJ fr d q.1,q.2,sh⟩:=by
 obtain⟨I,ob⟩:=e
 unfold aiz Tn
 by_cases J:I=g
 ·cases ob with
  |cells cs wm bx=>
   cases bx
   ·by_cases K:len*sz=cs.length
    ·simp only[J,K,if_true,Q.run,ri,H,and_self,Option.bind_some]
     rfl
    ·grind [Q.run,ri]
   ·grind [Q.run,ri]
  |_=>grind [Q.run,ri]
 grind [Q.run,ri]
theorem auz{sz bytes:Nat}{s x:iS}(H:d<n)(hs: ∀k g off len sz,rd fr s≠ .isl .S k g off len sz):iB E call n (⟨some d,.app sz bytes s x false false,none⟩::os) ⟨fr,lh,sh⟩=
  (slC lh sh sz (rd fr x)).bind fun p=>(Ja lh d sz bytes (rd fr s) p).bind fun q=>iB E call n os ⟨kJ fr d q.1,q.2,sh⟩:=by
 rw[qC (by rfl) (show Gz n (some d)from H)]
 unfold one slC
 simp only[jK,pN,jq,rY]
 cases J:(j5 sz (rd fr x)).run (St.mk .nil lh sh).get sh.length with
 |none=>rfl
 |some p=>
  simp only[Option.bind_some]
  unfold Ja
  by_cases D:p.1=0
  ·simp only[if_pos D]
   cases OP:rd fr s <;> rfl
  ·simp only[if_neg D]
   cases OP:rd fr s <;> try rfl
   ·simp only[]
    split <;> rfl
   ·rename_i cs len ex
    cases ex
    ·rfl
    ·simp only[Bool.and_eq_true,decide_eq_true_eq]
     split <;> rfl
   ·rename_i sp k g off len I
    cases sp
    ·simp only[Bool.and_eq_true,decide_eq_true_eq]
     by_cases r:(I=sz∧off=0)∧(len+p.1)*bytes≤roomy
     ·simp only[if_pos r]
      exact aBx (a6 lh k) ⟨r.1.1,r.1.2,r.2⟩
     ·simp only[if_neg r,Q.run,ri]
      unfold Tn
      grind
    ·grind
def BS(sz:Nat)(x:T)(l h:Nat):Option T:=
 match x with
 | .nilsl=>if l=0∧h=0 then some .nilsl else none
 | .sl cs len ex=>if l≤h∧h≤len∧cs.length=len*sz then some (.sl ((cs.drop (l*sz)).take ((h-l)*sz)) (h-l) (ex&&decide (h=len)))else none
 | .isl sp k g off len r=>if l≤h∧h≤len∧r=sz then some (if l=h then(if sp= .S∧h=0∧off=0 then .isl sp k g 0 0 sz else .sl [] 0 false)else .isl sp k g (off+l*sz) (h-l) sz)else none
 |_=>none
def adA(fr:Fr)(sz:Nat)(x:T)(l h:Option iS):Option T:=
 (wb x).bind fun m=>(lr (rd fr) 0 l).bind fun l=>(lr (rd fr) m h).bind fun h=>BS sz x l h
theorem To{sz l h nx:Nat}{x:T}{r:Sp→Nat→iy}:(Cw sz x l h).run r nx=BS sz x l h:=by
 unfold Cw BS
 cases x <;> try rfl
 ·simp only[Bool.and_eq_true,decide_eq_true_eq];split <;> rfl
 ·simp only[Bool.and_eq_true,decide_eq_true_eq,and_assoc];split <;> rfl
 ·simp only[Bool.and_eq_true,decide_eq_true_eq,and_assoc];split <;> rfl
theorem auA{sz:Nat}{x:iS}{l h:Option iS}(r:d<n):iB E call n (⟨some d,.slV sz x l h none,none⟩::os) ⟨fr,lh,sh⟩=(adA fr sz (rd fr x) l h).bind fun v=>iB E call n os ⟨kJ fr d v,lh,sh⟩:=by
 refine mc (d:=some d) (by rfl) r ?_
 unfold one adA
 simp only[jK]
 cases wb (rd fr x)with
 |none=>rfl
 |some m=>
  simp only[Option.bind_some]
  cases lr (rd fr) 0 l with
  |none=>rfl
  |some l=>
   cases lr (rd fr) m h with
   |none=>rfl
   |some h=>
    simp only[jq,To,Option.bind_some]
    cases BS sz (rd fr x) l h <;> rfl
def lkE(e:iy)(g:Nat)(r:EK)(k z:T)(D:Bool):Option T:=
 match e with
 |⟨H,.map ks I _⟩=>if H=g then oU r ks I k z D else none
 |_=>none
def lkV(lh:iL iy)(sh:List iy)(r:EK)(m k z:T)(D:Bool):Option T:=
 match m with
 | .nilmp=>if isKey r k=true then some (if D=true then .tup [z,.b false]else z)else none
 | .vm ks H=>oU r ks H k z D
 | .mp .L kk g=>lkE (a6 lh kk) g r k z D
 | .mp .S kk g=>lkE (iM sh kk) g r k z D
 |_=>none
theorem lkQ{h:Sp→Nat→iy}{nx g:Nat}{r:EK}{k z:T}{D:Bool}(e:iy):ri (Q.run h nx (if e.g=g then(match e.ob with| .map ks vs _=>val (oU r ks vs k z D)|_=> .fail)else .fail))=(lkE e g r k z D).map fun v=>(v,[]):=by
 obtain⟨I,ob⟩:=e
 unfold lkE
 by_cases H:I=g
 ·cases ob <;> simp only[H,if_true] <;> first|rfl|exact pz
 ·cases ob <;> simp only[H,if_false] <;> rfl
theorem aBy{r:EK}{m k:iS}{z:T}{D:Bool}(H:d<n):iB E call n (⟨some d,.lk r m k z D,none⟩::os) ⟨fr,lh,sh⟩=(lkV lh sh r (rd fr m) (rd fr k) z D).bind fun v=>iB E call n os ⟨kJ fr d v,lh,sh⟩:=by
 refine mc (d:=some d) (by rfl) H ?_
 unfold one lkV
 simp only[jK]
 cases I:rd fr m <;> try rfl
 ·simp only[];split <;> rfl
 ·exact pz
 ·rename_i sp kk g
  cases sp
  ·exact lkQ (a6 lh kk)
  ·exact lkQ (iM sh kk)
def muE(lh:iL iy)(kk:Nat)(e:iy)(g:Nat)(r:EK)(k v:T):Option (iL iy):=
 match e with
 |⟨D,.map ks H false⟩=>if D=g∧isKey r k=true then(rL r k v ks H).map fun q=>oK lh kk ⟨g,.map q.1 q.2 false⟩else none
 |_=>none
def adB(kk g:Nat)(r:EK)(k v:T)(e:iy):Q EF:=if e.g=g&&isKey r k then match e.ob with
      | .map ks D false=>(fz false iT v).bind fun p=>match rL r k p.1 ks D with
        |some q=>if pW p.2 .L kk then .fail else .ret (.val jg (p.2++ [(.L,kk,⟨g,.map q.1 q.2 false⟩)]))
        |none=> .fail
      |_=> .fail
     else .fail
theorem muQ{kk g:Nat}{D:EK}{k v:T}(e:iy)(J:froz v=true):((ri (Q.run (St.mk fr lh sh).get sh.length (adB kk g D k v e))).bind fun r=>iB E call n os {(St.mk fr lh sh).ups r.2 with fr:=fr})=
  (muE lh kk e g D k v).bind fun K=>iB E call n os ⟨fr,K,sh⟩:=by
 obtain⟨I,ob⟩:=e
 unfold adB muE
 by_cases H:I=g∧isKey D k=true
 ·have:(decide (I=g)&&isKey D k)=true:=by simp[H.1,H.2]
  simp only[this,if_true]
  cases ob with
  |none=>rfl
  |cells cs wm bx=>rfl
  |map ks N z=>
   cases z with
   |true=>rfl
   |false=>
    simp only[if_pos H]
    unfold iT
    rw[qt J]
    simp only[Q.bind]
    cases rL D k v ks N with
    |none=>rfl
    |some q=>simp only[pW,List.any_nil,Bool.false_eq_true,if_false,Q.run,List.nil_append];rfl
 grind [Bool.false_eq_true,Q.run,ri]
theorem auB{r:EK}{m k v:iS}{kk g:Nat}(D:rd fr m= .mp .L kk g)(H:froz (rd fr v)=true):iB E call n (⟨none,.mu r m k v,none⟩::os) ⟨fr,lh,sh⟩=(muE lh kk (a6 lh kk) g r (rd fr k) (rd fr v)).bind fun I=>iB E call n os ⟨fr,I,sh⟩:=by
 rw[qC (by rfl) (show Gz n none from trivial)]
 unfold one
 simp only[jK,D]
 exact muQ (a6 lh kk) H
def muV(lh:iL iy)(r:EK)(m k v:T):Option (iL iy):=
 match m with
 | .mp .L kk g=>muE lh kk (a6 lh kk) g r k v
 |_=>none
theorem aBz{r:EK}{m k v:iS}(I: ∀kk g,rd fr m≠ .mp .S kk g)(D:froz (rd fr v)=true):iB E call n (⟨none,.mu r m k v,none⟩::os) ⟨fr,lh,sh⟩=(muV lh r (rd fr m) (rd fr k) (rd fr v)).bind fun H=>iB E call n os ⟨fr,H,sh⟩:=by
 cases h:rd fr m with
 |mp sp kk g=>
  cases sp with
  |L=>rw[auB h D];rfl
  |S=>grind
 |_=>
  rw[qC (by rfl) (show Gz n none from trivial)]
  unfold one
  simp only[jK,h]
  rfl
def Tp(z:List T)(len:Nat)(D:List Nat)(r:List T):Option T:=
 if(r.all fun v=>(cellsOf v).length=z.length&&noTup v)=true then(qZ (repl z len) ((D.map fun i=>i*z.length).zip (r.map cellsOf))).map fun cs=> .sl cs len true else none
theorem auD{z:List T}{len:Nat}{r:List (Nat×iS)}(D:d<n):iB E call n (⟨some d,.bsl z len r,none⟩::os) ⟨fr,lh,sh⟩=
  (Dn lh sh false (r.map fun p=>rd fr p.2)).bind fun q=>(Tp z len (r.map (·.1)) q.1).bind fun v=>iB E call n os {(St.mk fr lh sh).ups q.2 with fr:=kJ fr d v}:=by
 rw[qC (by rfl) (show Gz n (some d)from D)]
 unfold one Dn Tp
 simp only[jK,jq,rY]
 cases (jm (fz false iT) (r.map fun p=>rd fr p.2)).run (St.mk .nil lh sh).get sh.length with
 |none=>rfl
 |some q=>
  simp only[Option.bind_some]
  have e:(r.map (·.1)).map (fun i=>i*z.length)=r.map fun p=>p.1*z.length:=by rw[List.map_map];rfl
  rw[e]
  split
  ·cases qZ (repl z len) ((r.map fun p=>p.1*z.length).zip (q.1.map cellsOf)) <;> rfl
  ·rfl
theorem Yc{d:Option Nat}{op:nO}{f:Nat}{args:List T}(D:jL (rd fr) op=some (some (f,args)))(H:Gz n d):
  iB E call n (⟨d,op,none⟩::os) ⟨fr,lh,sh⟩=(jy E call (d.getD 0) ⟨fr,lh,sh⟩ f args).bind fun r=>iB E call n os ⟨xZ fr d r.1,r.2.lh,r.2.sh⟩:=by
 simp only[iB,js,lU,D]
 cases jy E call (d.getD 0) ⟨fr,lh,sh⟩ f args with
 |none=>rfl
 |some r=>
  simp only[Option.bind_some]
  cases d with
  |none=>rfl
  |some d=>simp only[oD,if_pos (show d<n from H),xZ,Option.map_some]
theorem akY{f:Nat}{as:List iS}(D:d<n):iB E call n (⟨some d,.callf f as,none⟩::os) ⟨fr,lh,sh⟩=(jy E call d ⟨fr,lh,sh⟩ f (as.map (rd fr))).bind fun r=>iB E call n os ⟨kJ fr d r.1,r.2.lh,r.2.sh⟩:=
 Yc (d:=some d) rfl D
def Aq(E:Env)(call:qT)(d:Nat)(st:St)(f:T)(args:List T):Option (T×St):=
 match f with
 | .fn f a c=>jy E call d st f (a++args++c)
 |_=>none
theorem adC{f:iS}{as:List iS}(D:d<n):iB E call n (⟨some d,.callv f as,none⟩::os) ⟨fr,lh,sh⟩=(Aq E call d ⟨fr,lh,sh⟩ (rd fr f) (as.map (rd fr))).bind fun r=>iB E call n os ⟨kJ fr d r.1,r.2.lh,r.2.sh⟩:=by
 unfold Aq
 cases H:rd fr f with
 |fn I a c=>exact Yc (d:=some d) (by simp only[jL,H]) D
 |_=>simp_all[iB,js,lU,jL]
theorem Ly{D:Nat}{af:iC}{f:Nat}{args:List T}(H:E.fn f=some af)(I:af.eff=false)(J:af.own=none):jy E call D ⟨fr,lh,sh⟩ f args=
  (Dn lh sh false args).bind fun q=>(call f q.1 []).bind fun r=>some (r.1,if scalar r.1=true then⟨fr,lh,sh⟩else(St.mk fr lh sh).ups q.2):=by
 grind [jy,Dn,rY,Bool.false_eq_true]
theorem Lx{D:Nat}{af:iC}{f:Nat}{args:List T}(H:E.fn f=some af)(I:af.eff=false)(J:af.own=none)(K:args.all froz=true):jy E call D ⟨fr,lh,sh⟩ f args=
  (call f args []).bind fun r=>some (r.1,⟨fr,lh,sh⟩):=by
 grind [Ly,Ao,Dr]
theorem Yd{D:Nat}{af:iC}{f j:Nat}{args:List T}(H:E.fn f=some af)(I:af.eff=false)(J:af.own=some j):jy E call D ⟨fr,lh,sh⟩ f args=
  (Dn lh sh false args).bind fun q=>(call f q.1 []).bind fun r=>yI D j r.1 ⟨fr,lh,sh⟩ q.2:=by
 grind [jy,Dn,rY,Bool.false_eq_true]
theorem WE{D:Nat}{af:iC}{f:Nat}{args:List T}(H:E.fn f=some af)(I:af.eff=true):jy E call D ⟨fr,lh,sh⟩ f args=
  (Dn lh sh true args).bind fun q=>(call f q.1 ((St.mk fr lh sh).ups q.2).sh).bind fun r=>some (r.1,{(St.mk fr lh sh).ups q.2 with sh:=r.2}):=by
 unfold jy Dn
 simp only[H,I,rY]
 cases (jm (fz true iT) args).run (St.mk .nil lh sh).get sh.length with
 |none=>rfl
 |some q=>
  simp only[if_true,Option.bind_some]
  cases call f q.1 ((St.mk fr lh sh).ups q.2).sh <;> rfl
theorem Ye{D:Nat}{g:List T→Option T}{f:Nat}{args:List T}(H:E.fn f=none)(I:E.ext f=some g):jy E call D ⟨fr,lh,sh⟩ f args=
  (Dn lh sh false args).bind fun q=>(g q.1).bind fun r=>some (r,⟨fr,lh,sh⟩):=by
 unfold jy Dn
 simp only[H,I,rY]
 cases (jm (fz false iT) args).run (St.mk .nil lh sh).get sh.length with
 |none=>rfl
 |some q=>
  simp only[Option.bind_some]
  cases g q.1 <;> rfl
theorem Yf{d:Option Nat}{op:nO}{j:Nat}{w:Bool}(h:an fr j= .b w):iB E call n (⟨d,op,some (j,w)⟩::os) ⟨fr,lh,sh⟩=iB E call n (⟨d,op,none⟩::os) ⟨fr,lh,sh⟩:=by
 grind [iB,js]
theorem OQ{d:Option Nat}{op:nO}{j:Nat}{w:Bool}(r:Gz n d)(h:an fr j= .b (!w)):iB E call n (⟨d,op,some (j,w)⟩::os) ⟨fr,lh,sh⟩=iB E call n os ⟨xZ fr d jg,lh,sh⟩:=by
 simp only[iB,js,h]
 rw[if_neg (by cases w <;> simp)]
 cases d with
 |none=>rfl
 |some d=>simp only[oD,if_pos (show d<n from r),xZ,Option.map_some]
theorem QS{d:Option Nat}{op:nO}{j:Nat}{w:Bool}(r:Gz n d)(h:an fr j=jg):iB E call n (⟨d,op,some (j,w)⟩::os) ⟨fr,lh,sh⟩=iB E call n os ⟨xZ fr d jg,lh,sh⟩:=by
 simp only[iB,js,h,jg]
 cases d with
 |none=>rfl
 |some d=>simp only[oD,if_pos (show d<n from r),xZ,Option.map_some]
theorem auE{r:List FP}{st:St}:jc E call n [] r st=some st:=rfl
end
section
variable{E:Env}{n:Nat}{fr:Fr}{lh:iL iy}{sh:List iy}
def aiB(t:T)(x y:Option (Out×St)):Option (Out×St):=match t with| .b c=>if c=true then x else y|_=>none
theorem Yg{c:iS}{a b:iA}:DC E n (.cond c a b) ⟨fr,lh,sh⟩=aiB (rd fr c) (DC E n a ⟨fr,lh,sh⟩) (DC E n b ⟨fr,lh,sh⟩):=by
 rw[adk,lU]
 unfold aiB
 grind
theorem andThen_ite{c:Prop}[Decidable c]{x y:Option (Out×St)}{f:St→Option (Out×St)}:andThen (if c then x else y) f=if c then andThen x f else andThen y f:=by split <;> rfl
theorem Tq{c:Prop}[Decidable c]{id:Nat}{x y:Option (Out×St)}:Fo id (if c then x else y)=if c then Fo id x else Fo id y:=by split <;> rfl
theorem adD{α β:Type}{c:Prop}[Decidable c]{x y:Option α}{f:α→β}:(if c then x else y).map f=if c then x.map f else y.map f:=by split <;> rfl
theorem Yh{α β:Type}{c:Prop}[Decidable c]{x y:Option α}{f:α→Option β}:(if c then x else y).bind f=if c then x.bind f else y.bind f:=by split <;> rfl
def BT(fr:Fr)(lh:iL iy)(sh:List iy):List qS→Option (List T)
 | []=>some []
 | .tmp t::r=>(BT fr lh sh r).map fun D=>an fr t::D
 | .cell t m H::r=>(ldV lh sh (an fr t) m H).bind fun v=>(BT fr lh sh r).map fun D=>v::D
theorem tT: ∀r,oV ⟨fr,lh,sh⟩ r=BT fr lh sh r
 | []=>rfl
 | .tmp t::r=>by
   rw[oV,BT,tT r]
   simp only[LF]
   cases BT fr lh sh r <;> rfl
 | .cell t m D::r=>by
   rw[oV,BT,tT r]
   simp only[LF,QR]
   cases ldV lh sh (an fr t) m D <;> cases BT fr lh sh r <;> rfl
def Ts(lh:iL iy)(sh:List iy)(r:Bool)(vs:List T):Option (T×List iy):=
 (fzV lh sh r (match vs with| [v]=>v|vs=> .tup vs)).map fun p=>(p.1,((St.mk .nil lh sh).ups p.2).sh)
theorem BU{r:Bool}{D:List T}:answer r D ⟨fr,lh,sh⟩=Ts lh sh r D:=by
 unfold answer Ts fzV
 grind [rY,rF]
end
theorem BV{fr r:Fr}{n:Nat}{d:Option Nat}{v:T}(h:oD fr n d v=some r){s:Nat}(hs:some s≠d):an r s=an fr s:=by
 cases d with
 |none=>grind [oD]
 |some d=>
  grind [oD,X8]
theorem CP{E:Env}{call:qT}{n:Nat}{o:iz}{st H:St}(h:js E call n o st=some H){s:Nat}(hs:some s≠o.d):an H.fr s=an st.fr s:=by
 have K: ∀H,(match jL st.rho o.op with
  |some (some J)=>match jy E call (o.d.getD 0) st J.1 J.2 with
   |some r=>(oD st.fr n o.d r.1).map fun fr=>{r.2 with fr}
   |none=>none
  |some none=>none
  |none=>match(jK (o.d.getD 0) st.rho o.op).run st.get st.sh.length with
   |some (.val v ups)=>(oD st.fr n o.d v).map fun fr=>{st.ups ups with fr}
   |none=>none)=some H→an H.fr s=an st.fr s:=by
  intro H D
  split at D
  ·split at D
   ·simp only[Option.map_eq_some_iff]at D
    obtain⟨fr,I,rfl⟩:=D
    exact BV I hs
   ·cases D
  ·cases D
  ·split at D
   ·simp only[Option.map_eq_some_iff]at D
    obtain⟨fr,I,rfl⟩:=D
    exact BV I hs
   ·cases D
 grind [js,Option.map_eq_some_iff,BV]
theorem vh{E:Env}{call:qT}{n:Nat}: ∀(os:List iz) {st r:St},iB E call n os st=some r→ ∀s,s∉BH os→an r.fr s=an st.fr s
 | [],st,r,h,s,_=>by cases h;rfl
 |o::os,st,r,h,s,hs=>by
  simp only[iB]at h
  cases H:js E call n o st with
  |none=>grind
  |some N=>
   simp only[H]at h
   have I:s∉BH os:=fun D=>hs (by
    unfold BH at D ⊢
    rw[List.filterMap_cons]
    split
    ·exact D
    ·exact List.mem_cons_of_mem _ D)
   have J:some s≠o.d:=fun K=>hs (by
    unfold BH
    rw[List.filterMap_cons]
    rw[←K]
    exact List.mem_cons_self)
   rw[vh os h s I,CP H J]
theorem CQ{E:Env}{call:qT}{n:Nat}: ∀(os:List (List Nat×iz)) {D:List FP} {st r:St},jc E call n os D st=some r→ ∀s,s∉BH (os.map (·.2))→an r.fr s=an st.fr s
 | [],D,st,r,h,s,_=>by cases h;rfl
 |(u,o)::os,D,st,r,h,s,hs=>by
  simp only[jc]at h
  split at h
  ·cases h
  ·split at h
   ·cases I:js E call n o st with
    |none=>grind
    |some O=>
     simp only[I]at h
     have J:s∉BH (os.map (·.2)):=fun H=>hs (by
      unfold BH at H ⊢
      rw[List.map_cons,List.filterMap_cons]
      split
      ·exact H
      ·exact List.mem_cons_of_mem _ H)
     have K:some s≠o.d:=fun N=>hs (by
      unfold BH
      rw[List.map_cons,List.filterMap_cons]
      rw[←N]
      exact List.mem_cons_self)
     rw[CQ os h s J,CP I K]
   ·cases h
theorem HF{f:St→Option (Out×St)}{s:Nat}(D: ∀st r,f st=some r→an r.2.fr s=an st.fr s): ∀(k:Nat) {st:St} {r:Out×St},iter f k st=some r→an r.2.fr s=an st.fr s
 |0,st,r,h=>by simp[iter]at h
 |k+1,st,r,h=>by
  simp only[iter]at h
  cases H:f st with
  |none=>grind
  |some p=>
   rw[H]at h
   obtain⟨o,J⟩:=p
   have I:=D _ _ H
   cases o with
   |nrm=>rw[HF D k h];exact I
   |ext id=>grind
   |ret=>grind
theorem adE{ks:List Nat}{t u:St}{k:Nat}(h:k∉ks):an (tJ ks t u).fr k=an t.fr k:=by
 show an (zM ks t.fr) k=_
 rw[tQ,if_neg h]
theorem qE{E:Env}{call:qT}{fl n:Nat}: ∀(code:iA) {st:St} {r:Out×St},nS E call fl n code st=some r→ ∀s,s∉jU code→an r.2.fr s=an st.fr s
 | .skip,st,r,h,s,_=>by cases h;rfl
 | .region ops,st,r,h,s,hs=>by
   simp only[nS,Option.map_eq_some_iff]at h
   obtain⟨a,D,rfl⟩:=h
   exact vh ops D s hs
 | .draws ops,st,r,h,s,hs=>by
   simp only[nS,Option.map_eq_some_iff]at h
   obtain⟨a,D,rfl⟩:=h
   exact CQ ops D s hs
 | .seq a b,st,r,h,s,hs=>by
   simp only[jU,List.mem_append,not_or]at hs
   simp only[nS]at h
   cases H:nS E call fl n a st with
   |none=>grind
   |some p=>
    rw[H]at h
    obtain⟨o,J⟩:=p
    have D:=qE a H s hs.1
    cases o with
    |nrm=>rw[qE b h s hs.2];exact D
    |ext id=>grind
    |ret=>grind
 | .fork os Gy b,st,r,h,s,hs=>by
   simp only[nS]at h
   cases D:iB E call n os st with
   |none=>grind
   |some J=>
    cases K:iB E call n Gy st with
    |none=>grind
    |some U=>
     rw[D,K]at h
     simp only[]at h
     obtain⟨o,V⟩:=r
     obtain⟨W,X,N,Y,Z,rfl⟩:=yN h
     have I:s∉BH os++jU b:=hs
     rw[adE I]
     simp only[List.mem_append,not_or]at I
     rw[qE b N s I.2]
     grind [vh]
 | .cond x a b,st,r,h,s,hs=>by
   simp only[jU,List.mem_append,not_or]at hs
   simp only[nS]at h
   split at h
   ·exact qE a h s hs.1
   ·exact qE b h s hs.2
   ·cases h
 | .block id a,st,r,h,s,hs=>by
   simp only[nS]at h
   cases H:nS E call fl n a st with
   |none=>grind
   |some p=>
    rw[H]at h
    obtain⟨o,J⟩:=p
    have D:=qE a H s hs
    grind
 | .loop a,st,r,h,s,hs=>by
   simp only[nS]at h
   exact HF (fun st r O=>qE a O s hs) fl h
 | .exit id,st,r,h,s,_=>by cases h;rfl
 | .ret,st,r,h,s,_=>by cases h;rfl
theorem lH{E:Env}{n:Nat}{code:iA}{st r:St}{o:Out}(h:DC E n code st=some (o,r))(s:Nat)(hs:(jU code).contains s=false):an r.fr s=an st.fr s:=by
 obtain⟨m,D⟩:=k5.1 h
 exact qE code D s (by intro H;simp[H]at hs)
end Go.Ev
namespace Go.Ev
open Go
def Q.calm:Q EF→Prop
 | .ret (.val _ r)=>r= []
 | .fail=>True
 | .rd _ _ f=> ∀e,(f e).calm
 | .new _=>False
theorem Q.calm_run{h:Sp→Nat→iy}{nx:Nat}: ∀(q:Q EF),q.calm→ ∀{v:T} {r:List Up},q.run h nx=some (.val v r)→r= []∧q.asks h nx=false
 | .ret (.val _ _),H,v,r,D=>by simp[Q.run]at D;obtain⟨rfl,rfl⟩:=D;exact⟨H,rfl⟩
 | .fail,H,v,r,D=>by simp[Q.run]at D
 | .rd sp k f,H,v,r,D=>Q.calm_run (f (h sp k)) (H _) D
 | .new f,H,v,r,D=>H.elim
theorem oM{o:Option T}:(val o).calm:=by cases o <;> simp[val,Q.calm]
def j6:nO→Bool
 | .mv _| .pick .. | .bin .. | .eq .. | .un .. | .cvi .. | .mkfn .. | .build .. | .slS .. | .fa .. | .fld .. | .ia .. | .iaA .. | .ixS .. | .ixA .. | .ext .. | .lenS _| .lenV _| .lenC _| .mm .. | .nck _| .ld .. | .lk .. | .lenM _=>true
 | .slV _ _ _ _ none=>true
 |_=>false
theorem Jb{d:Nat}{ρ:iS→T}{op:nO}(h:j6 op=true):(jK d ρ op).calm∧jL ρ op=none:=by
 refine⟨?_,by cases op <;> first|rfl|(simp[j6]at h)⟩
 cases op with
 |mv x=>exact rfl
 |pick c a b=>grind [jK,Q.calm]
 |bin op x y=>exact oM
 |eq neg k x y=>exact oM
 |un op x=>exact oM
 |cvi k x=>grind [jK,Q.calm]
 |mkfn f a c=>exact rfl
 |build z J=>
  simp only[jK]
  by_cases K:(J.all fun p=>decide ((cellsOf (ρ p.2.2)).length=p.2.1)&&noTup (ρ p.2.2))=true
  ·grind [oM]
  ·rw[if_neg K];trivial
 |slS x l h=>
  grind [jK,Q.calm]
 |fa x off=>
  grind [jK,Q.calm]
 |fld x off m D=>
  simp only[jK]
  split
  ·exact oM
  ·trivial
 |ia x H sz=>
  grind [jK,Q.calm]
 |iaA x H len sz=>
  grind [jK,Q.calm]
 |ixS x H=>
  grind [jK,Q.calm]
 |ixA x H len sz D=>
  simp only[jK]
  split
  ·split
   ·exact oM
   ·trivial
  ·trivial
 |ext x j=>
  simp only[jK]
  split
  ·exact oM
  ·trivial
 |lenS x=>grind [jK,Q.calm]
 |lenV x=>exact oM
 |lenC m=>exact rfl
 |mm b as=>
  simp only[jK]
  split
  ·exact oM
  ·trivial
 |nck x=>grind [jK,Q.calm]
 |ld x m D=>
  simp only[jK,II]
  split
  ·rename_i cs _
   cases part cs 0 m D <;> simp[Q.of,Q.bind,Q.calm]
  ·rename_i g off _
   intro e
   obtain⟨I,ob⟩:=e
   by_cases r:I=g
   ·cases ob with
    |cells cs wm bx=>
     simp only[r,if_true]
     generalize part cs _ m D=o
     cases o <;> simp[Q.of,Q.bind,Q.calm]
    |_=>simp only[r,if_true];trivial
   ·simp only[r,if_false];trivial
  ·trivial
 |lk O m k z U=>
  grind [jK,Q.calm,oM]
 |lenM x=>
  simp only[jK]
  split
  ·exact rfl
  ·exact rfl
  ·rename_i g _
   intro e
   obtain⟨I,ob⟩:=e
   by_cases r:I=g
   ·cases ob with
    |map ks V z=>simp only[r,if_true];exact rfl
    |_=>simp only[r,if_true];trivial
   ·simp only[r,if_false];trivial
  ·trivial
 |slV sz x l h N=>
  cases N with
  |some m=>simp[j6]at h
  |none=>
   simp only[jK]
   split
   ·trivial
   ·split
    ·rename_i W X _ _ _
     unfold Cw
     grind [Q.bind,Q.calm]
    ·grind
    ·trivial
 |_=>simp[j6]at h
def Calm(fp:FP):Prop:=fp.all=false∧fp.w= []
theorem OR{x y:FP}(D:Calm x)(H:Calm y):apart x y=true:=by
 obtain⟨a,r,w⟩:=x
 obtain⟨I,J,w'⟩:=y
 obtain⟨rfl,rfl⟩:=D
 obtain⟨rfl,rfl⟩:=H
 simp[apart,nq]
section
variable{E:Env}{call:qT}{n:Nat}
theorem adF{o:iz}{st I:St}(K:j6 o.op=true)(D:js E call n o st=some I): ∃fp,jS E call o st=some fp∧Calm fp:=by
 obtain⟨N,De⟩:=Jb (d:=o.d.getD 0) (ρ:=st.rho) K
 have O: ∀I,(match(jK (o.d.getD 0) st.rho o.op).run st.get st.sh.length with
   |some (.val v ups)=>(oD st.fr n o.d v).map fun fr=>{st.ups ups with fr}
   |none=>none)=some I→ ∃fp,(match(jK (o.d.getD 0) st.rho o.op).run st.get st.sh.length with
   |some (.val _ ups)=>if((jK (o.d.getD 0) st.rho o.op).asks st.get st.sh.length||nl st ups)=true then some (⟨(jK (o.d.getD 0) st.rho o.op).asks st.get st.sh.length,(jK (o.d.getD 0) st.rho o.op).log st.get st.sh.length,kR ups⟩:FP)else none
   |none=>none)=some fp∧Calm fp:=by
  intro I h
  cases J:(jK (o.d.getD 0) st.rho o.op).run st.get st.sh.length with
  |none=>rw[J]at h;cases h
  |some r=>
   obtain⟨v,ups⟩:=r
   obtain⟨rfl,U⟩:=Q.calm_run _ N J
   refine⟨⟨false,(jK (o.d.getD 0) st.rho o.op).log st.get st.sh.length,[]⟩, ?_,rfl,rfl⟩
   simp only[U,nl,List.all_nil,Bool.or_true,if_true,kR,List.map_nil]
 unfold js at D
 unfold jS
 simp only[De]at D ⊢
 cases V:o.gd with
 |none=>grind
 |some p=>
  obtain⟨j,H⟩:=p
  simp only[V]at D ⊢
  split at D
  ·rename_i x W
   simp only[W]
   by_cases X:x=H
   ·grind
   ·rw[if_neg X];exact⟨oe,rfl,rfl,rfl⟩
  ·cases D
  ·split
   ·grind
   ·exact⟨oe,rfl,rfl,rfl⟩
theorem HG: ∀(D:List (List Nat×iz)) (r:List FP) (st:St),(D.all fun p=>j6 p.2.op&&p.1.all fun i=>decide (i<r.length+D.length))=true→(∀fp∈r,Calm fp)→
  (∀(k:Nat) (u:List Nat) (o:iz),D[k]? =some (u,o)→ ∀i∈u,i<r.length+k)→
  jc E call n D r st=iB E call n (D.map (·.2)) st
 | [],r,st,_,_,_=>rfl
 |(u,o)::D,r,st,h,V,hi=>by
  simp only[List.all_cons,Bool.and_eq_true]at h
  simp only[jc,List.map_cons,iB]
  cases I:js E call n o st with
  |none=>
   grind
  |some s=>
   obtain⟨fp,J,W⟩:=adF h.1.1 I
   simp only[J]
   have K:(u.all fun i=>apart (iN ⟨true,[],[]⟩ r i) fp)=true:=by
    rw[List.all_eq_true]
    intro i H
    have:=hi 0 u o rfl i H
    have X:iN ⟨true,[],[]⟩ r i∈r:=by
     have: ∀(l:List FP) (j:Nat),j<l.length→iN ⟨true,[],[]⟩ l j∈l:=by
      intro l
      induction l with
      |nil=>grind
      |cons x xs ih=>
       intro j N
       cases j with
       |zero=>exact List.mem_cons_self
       |succ j=>exact List.mem_cons_of_mem _ (ih j (by simpa using N))
     grind
    grind [OR]
   simp only[K,if_true]
   refine HG D (r++ [fp]) s ?_ ?_ ?_
   ·grind
   ·grind
   ·intro k O o' U i H
    have:=hi (k+1) O o' U i H
    grind
def HH:Nat→List (List Nat×iz)→Bool
 |_,[]=>true
 |k,(u,o)::r=>j6 o.op&&(u.all fun i=>decide (i<k))&&HH (k+1) r
theorem HI: ∀(r:List (List Nat×iz)) (m:Nat),HH m r=true→(∀(k:Nat) (u:List Nat) (o:iz),r[k]? =some (u,o)→j6 o.op=true∧ ∀i∈u,i<m+k)
 | [],m,_,k,u,o,D=>by simp at D
 |(H,I)::r,m,h,k,u,o,D=>by
  simp only[HH,Bool.and_eq_true]at h
  cases k with
  |zero=>
   grind
  |succ k=>
   obtain⟨J,K⟩:=HI r (m+1) h.2 k u o (by simpa using D)
   grind
theorem adG{E:Env}{n:Nat}{r:List (List Nat×iz)}{st:St}(h:HH 0 r=true):DC E n (.draws r) st=(iB E (be E) n (r.map (·.2)) st).map fun I=>(.nrm,I):=by
 rw[L8]
 congr 1
 have H:=HI r 0 h
 refine HG r [] st ?_ (by simp) (fun k u o D i hi=>by have:=(H k u o D).2 i hi;simpa using this)
 rw[List.all_eq_true]
 intro p J
 obtain⟨k,D,K⟩:=List.getElem_of_mem J
 obtain⟨u,o⟩:=p
 obtain⟨N,O⟩:=H k u o (by rw[List.getElem?_eq_getElem D,K])
 grind
end
end Go.Ev
namespace Go.Ev
open Go
def kv(F:St→Option St)(fr:Fr)(lh:iL iy)(sh:List iy)(d:Nat)(v:Option T):Option St:=v.bind fun v=>F ⟨kJ fr d v,lh,sh⟩
def kn(F:St→Option St)(st:St)(v:Option T):Option St:=v.bind fun _=>F st
def ks(F:St→Option St)(fr:Fr)(r:Option (iL iy×List iy)):Option St:=r.bind fun r=>F ⟨fr,r.1,r.2⟩
def ka(F:St→Option St)(fr:Fr)(sh:List iy)(d:Nat)(r:Option (T×iL iy)):Option St:=r.bind fun q=>F ⟨kJ fr d q.1,q.2,sh⟩
def kc(F:St→Option St)(fr:Fr)(d:Option Nat)(r:Option (T×St)):Option St:=r.bind fun r=>F ⟨xZ fr d r.1,r.2.lh,r.2.sh⟩
section
variable{F:St→Option St}{fr:Fr}{lh:iL iy}{sh:List iy}{d:Nat}{v:T}
theorem adH:kv F fr lh sh d (some v)=F ⟨kJ fr d v,lh,sh⟩:=rfl
theorem akZ{c:Prop}[Decidable c]{x y:Option T}:kv F fr lh sh d (if c then x else y)=if c then kv F fr lh sh d x else kv F fr lh sh d y:=by split <;> rfl
theorem adI{r:iL iy×List iy}:ks F fr (some r)=F ⟨fr,r.1,r.2⟩:=rfl
theorem adJ:ks F fr none=none:=rfl
theorem ak0{c:Prop}[Decidable c]{x y:Option (iL iy×List iy)}:ks F fr (if c then x else y)=if c then ks F fr x else ks F fr y:=by split <;> rfl
theorem adL{q:T×iL iy}:ka F fr sh d (some q)=F ⟨kJ fr d q.1,q.2,sh⟩:=rfl
theorem adM{D:Option Nat}{r:T×St}:kc F fr D (some r)=F ⟨xZ fr D r.1,r.2.lh,r.2.sh⟩:=rfl
theorem ak1{c:Prop}[Decidable c]{r:Option Nat}{x y:Option (T×St)}:kc F fr r (if c then x else y)=if c then kc F fr r x else kc F fr r y:=by split <;> rfl
end
def isB:T→Bool
 | .b _=>true
 |_=>false
def isT:T→Bool
 | .b x=>x
 |_=>false
theorem auF{x:Bool}:isB (.b x)=true:=nr rfl
theorem auG{x:Bool}:isT (.b x)=x:=nr rfl
theorem adN{t:T}(h:isB t=true):t= .b (isT t):=by cases t <;> first|rfl|(simp[isB]at h)
section
variable{E:Env}{call:qT}{n:Nat}{fr:Fr}{lh:iL iy}{sh:List iy}{os:List iz}{d:Nat}
theorem ak2{c a b:iS}(r:d<n):iB E call n (⟨some d,.pick c a b,none⟩::os) ⟨fr,lh,sh⟩=kv (iB E call n os) fr lh sh d (QP (rd fr c) (rd fr a) (rd fr b)):=akR r
theorem auH{op:BinOp}{x y:iS}(r:d<n):iB E call n (⟨some d,.bin op x y,none⟩::os) ⟨fr,lh,sh⟩=kv (iB E call n os) fr lh sh d (Ev.bin op (rd fr x) (rd fr y)):=auj r
theorem aBC{neg:Bool}{k:EK}{x y:iS}(D:d<n):iB E call n (⟨some d,.eq neg k x y,none⟩::os) ⟨fr,lh,sh⟩=kv (iB E call n os) fr lh sh d ((xW k (rd fr x) (rd fr y)).map fun r=>T.b (r != neg)):=aBq D
theorem aBD{op:UnOp}{x:iS}(r:d<n):iB E call n (⟨some d,.un op x,none⟩::os) ⟨fr,lh,sh⟩=kv (iB E call n os) fr lh sh d (Ev.un op (rd fr x)):=aBr r
theorem auI{k:IntKind}{x:iS}(r:d<n):iB E call n (⟨some d,.cvi k x,none⟩::os) ⟨fr,lh,sh⟩=kv (iB E call n os) fr lh sh d (adm k (rd fr x)):=auk r
theorem adO{z:List T}{r:List (Nat×Nat×iS)}(D:d<n):iB E call n (⟨some d,.build z r,none⟩::os) ⟨fr,lh,sh⟩=kv (iB E call n os) fr lh sh d (I6 fr z r):=adn D
theorem auJ{x:iS}{l h:Option iS}(r:d<n):iB E call n (⟨some d,.slS x l h,none⟩::os) ⟨fr,lh,sh⟩=kv (iB E call n os) fr lh sh d (vg fr (rd fr x) l h):=aul r
theorem aBE{x:iS}{off:Nat}(r:d<n):iB E call n (⟨some d,.fa x off,none⟩::os) ⟨fr,lh,sh⟩=kv (iB E call n os) fr lh sh d (faV (rd fr x) off):=aBs r
theorem auK{x:iS}{off m:Nat}{r:Bool}(D:d<n):iB E call n (⟨some d,.fld x off m r,none⟩::os) ⟨fr,lh,sh⟩=kv (iB E call n os) fr lh sh d (ado (rd fr x) off m r):=aun D
theorem aBF{x r:iS}{sz:Nat}(D:d<n):iB E call n (⟨some d,.ia x r sz,none⟩::os) ⟨fr,lh,sh⟩=kv (iB E call n os) fr lh sh d (ng (rd fr x) (rd fr r) sz):=aBt D
theorem auL{x r:iS}{len sz:Nat}(D:d<n):iB E call n (⟨some d,.iaA x r len sz,none⟩::os) ⟨fr,lh,sh⟩=kv (iB E call n os) fr lh sh d (lZ (rd fr x) (rd fr r) len sz):=auo D
theorem auM{x r:iS}(D:d<n):iB E call n (⟨some d,.ixS x r,none⟩::os) ⟨fr,lh,sh⟩=kv (iB E call n os) fr lh sh d (GP (rd fr x) (rd fr r)):=aup D
theorem auN{x r:iS}{len sz:Nat}{D:Bool}(H:d<n):iB E call n (⟨some d,.ixA x r len sz D,none⟩::os) ⟨fr,lh,sh⟩=kv (iB E call n os) fr lh sh d (adp (rd fr x) (rd fr r) len sz D):=auq H
theorem auO{x:iS}{j:Nat}(r:d<n):iB E call n (⟨some d,.ext x j,none⟩::os) ⟨fr,lh,sh⟩=kv (iB E call n os) fr lh sh d (adq (rd fr x) j):=aur r
theorem ak3{x:iS}(r:d<n):iB E call n (⟨some d,.lenS x,none⟩::os) ⟨fr,lh,sh⟩=kv (iB E call n os) fr lh sh d (QQ (rd fr x)):=akT r
def lenI(x:T):Option T:=match wb x with|some m=>some (.i .i64 ((m:Nat):Int))|none=>none
theorem adP{x:T}{m:Nat}(h:wb x=some m):lenI x=some (.i .i64 (m:Int)):=by unfold lenI;rw[h]
theorem ak4{x:iS}(r:d<n):iB E call n (⟨some d,.lenV x,none⟩::os) ⟨fr,lh,sh⟩=kv (iB E call n os) fr lh sh d (lenI (rd fr x)):=by
 grind [kv,lenI,akU]
theorem aBG{r:Bool}{args:List iS}(D:d<n):iB E call n (⟨some d,.mm r args,none⟩::os) ⟨fr,lh,sh⟩=kv (iB E call n os) fr lh sh d (mmV r (args.map (rd fr))):=aBu D
theorem auP{x:iS}(r:d<n):iB E call n (⟨some d,.nck x,none⟩::os) ⟨fr,lh,sh⟩=kv (iB E call n os) fr lh sh d (Tj (rd fr x)):=aut r
theorem aBH{x:iS}{m:Nat}{r:Bool}(D:d<n):iB E call n (⟨some d,.ld x m r,none⟩::os) ⟨fr,lh,sh⟩=kv (iB E call n os) fr lh sh d (ldV lh sh (rd fr x) m r):=aBv D
theorem auQ{sz:Nat}{x:iS}{l h:Option iS}(r:d<n):iB E call n (⟨some d,.slV sz x l h none,none⟩::os) ⟨fr,lh,sh⟩=kv (iB E call n os) fr lh sh d (adA fr sz (rd fr x) l h):=auA r
theorem aBI{r:EK}{m k:iS}{z:T}{D:Bool}(H:d<n):iB E call n (⟨some d,.lk r m k z D,none⟩::os) ⟨fr,lh,sh⟩=kv (iB E call n os) fr lh sh d (lkV lh sh r (rd fr m) (rd fr k) z D):=aBy H
theorem auR{k:IntKind}{n:Int}:Xt [.i k n]=false:=nr rfl
theorem auS{x:Bool}:Xt [.b x]=false:=nr rfl
theorem adQ:Xt [.nilsl]=true:=nr rfl
theorem Yi{a b:T}{l:List T}:Xt (a::b::l)=false:=by cases a <;> rfl
def Yj(lh:iL iy)(d:Nat)(z:List T)(x:T)(bytes:Nat):Option (T×iL iy):=
 (ON x bytes).map fun m=>(.isl .L d ((a6 lh d).g+1) 0 m z.length,oK lh d ⟨(a6 lh d).g+1,.cells (repl z m) 0 (Xt z)⟩)
theorem ak5{z:List T}{bytes:Nat}{x:iS}(r:d<n):iB E call n (⟨some d,.mksl z bytes x false,none⟩::os) ⟨fr,lh,sh⟩=ka (iB E call n os) fr sh d (Yj lh d z (rd fr x) bytes):=by
 rw[akW r];unfold Yj ka;cases ON (rd fr x) bytes <;> rfl
theorem aBJ{x v:iS}{m:Nat}:iB E call n (⟨none,.st x v m,none⟩::os) ⟨fr,lh,sh⟩=ks (iB E call n os) fr (stV lh sh (rd fr x) (rd fr v) m):=aBw
def appW(lh:iL iy)(sh:List iy)(d sz bytes:Nat)(s x:T):Option (T×iL iy):=(slC lh sh sz x).bind (Ja lh d sz bytes s)
def notS:T→Bool
 | .isl .S .. =>false
 | .mp .S .. =>false
 |_=>true
theorem auT{sz bytes:Nat}{s x:iS}(r:d<n)(hs:notS (rd fr s)=true):iB E call n (⟨some d,.app sz bytes s x false false,none⟩::os) ⟨fr,lh,sh⟩=ka (iB E call n os) fr sh d (appW lh sh d sz bytes (rd fr s) (rd fr x)):=by
 rw[auz r (fun k g off len sz D=>by rw[D]at hs;simp[notS]at hs)]
 grind [appW,ka]
theorem aBK{r:EK}{m k v:iS}(D:notS (rd fr m)=true)(H:froz (rd fr v)=true):iB E call n (⟨none,.mu r m k v,none⟩::os) ⟨fr,lh,sh⟩=ks (iB E call n os) fr ((muV lh r (rd fr m) (rd fr k) (rd fr v)).map fun I=>(I,sh)):=by
 rw[aBz (fun kk g J=>by rw[J]at D;simp[notS]at D) H]
 unfold ks
 cases muV lh r (rd fr m) (rd fr k) (rd fr v) <;> rfl
def Yk(lh:iL iy)(sh:List iy)(z:List T)(len:Nat)(r:List Nat)(D:List T):Option (T×St):=
 (Dn lh sh false D).bind fun q=>(Tp z len r q.1).map fun v=>(v,(St.mk .nil lh sh).ups q.2)
theorem auU{z:List T}{len:Nat}{r:List (Nat×iS)}(D:d<n):iB E call n (⟨some d,.bsl z len r,none⟩::os) ⟨fr,lh,sh⟩=kc (iB E call n os) fr (some d) (Yk lh sh z len (r.map (·.1)) (r.map fun p=>rd fr p.2)):=by
 rw[auD D]
 unfold kc Yk
 cases Dn lh sh false (r.map fun p=>rd fr p.2)with
 |none=>rfl
 |some q=>
  simp only[Option.bind_some]
  cases Tp z len (r.map (·.1)) q.1 with
  |none=>rfl
  |some v=>grind [xZ,rF]
theorem Tu{z:List T}{len:Nat}{D:List Nat}{r:List T}(h:r.all froz=true):Yk lh sh z len D r=(Tp z len D r).map fun v=>(v,⟨.nil,lh,sh⟩):=by
 unfold Yk
 rw[Ao h];rfl
theorem ak6{f:Nat}{as:List iS}(r:d<n):iB E call n (⟨some d,.callf f as,none⟩::os) ⟨fr,lh,sh⟩=kc (iB E call n os) fr (some d) (jy E call d ⟨fr,lh,sh⟩ f (as.map (rd fr))):=akY r
theorem adR{f:iS}{as:List iS}(r:d<n):iB E call n (⟨some d,.callv f as,none⟩::os) ⟨fr,lh,sh⟩=kc (iB E call n os) fr (some d) (Aq E call d ⟨fr,lh,sh⟩ (rd fr f) (as.map (rd fr))):=adC r
theorem adS{r:Option Nat}{op:nO}{j:Nat}(h:an fr j= .b true):iB E call n (⟨r,op,some (j,true)⟩::os) ⟨fr,lh,sh⟩=iB E call n (⟨r,op,none⟩::os) ⟨fr,lh,sh⟩:=Yf h
theorem adT{r:Option Nat}{op:nO}{j:Nat}(h:an fr j= .b false):iB E call n (⟨r,op,some (j,false)⟩::os) ⟨fr,lh,sh⟩=iB E call n (⟨r,op,none⟩::os) ⟨fr,lh,sh⟩:=Yf h
theorem adU{op:nO}{j:Nat}(r:d<n)(h:an fr j= .b false):iB E call n (⟨some d,op,some (j,true)⟩::os) ⟨fr,lh,sh⟩=iB E call n os ⟨kJ fr d jg,lh,sh⟩:=OQ (d:=some d) r h
theorem adV{op:nO}{j:Nat}(r:d<n)(h:an fr j= .b true):iB E call n (⟨some d,op,some (j,false)⟩::os) ⟨fr,lh,sh⟩=iB E call n os ⟨kJ fr d jg,lh,sh⟩:=OQ (d:=some d) r h
theorem Yl{op:nO}{j:Nat}{w:Bool}(r:d<n)(h:an fr j=jg):iB E call n (⟨some d,op,some (j,w)⟩::os) ⟨fr,lh,sh⟩=iB E call n os ⟨kJ fr d jg,lh,sh⟩:=QS (d:=some d) r h
end
section
variable{E:Env}{n:Nat}{fr:Fr}{lh:iL iy}{sh:List iy}
theorem ak7{c:iS}{a b:iA}(h:isB (rd fr c)=true):DC E n (.cond c a b) ⟨fr,lh,sh⟩=if isT (rd fr c)=true then DC E n a ⟨fr,lh,sh⟩else DC E n b ⟨fr,lh,sh⟩:=by
 rw[Yg,adN h];rfl
def Ar(r:List qS)(D:Bool)(x:Option (Out×St)):Option (T×List iy):=
 match x with
 |some (.ext _,_)=>none
 |some (_,st)=>(oV st r).bind fun H=>answer D H st
 |none=>none
theorem iD{f:Nat}{af:iC}{args:List T}{sh:List iy}(r:E.fn f=some af)(D:(af.n<args.length)=False)(H:af.own=none:=by rfl):
  be E f args sh=Ar af.res af.eff (DC E af.n af.code {fr:=qx args,lh:= .nil,sh}):=by
 rw[Mb r (Nat.le_of_not_lt (of_eq_false D))]
 generalize DC E af.n af.code {fr:=qx args,lh:= .nil,sh}=x
 unfold X6 Ar
 rw[H]
 cases x with
 |none=>rfl
 |some p=>
  obtain⟨o,st⟩:=p
  cases o with
  |ext id=>rfl
  |nrm=>simp only[];cases oV st af.res <;> rfl
  |ret=>simp only[];cases oV st af.res <;> rfl
def adW(r:List qS)(j:Nat)(x:Option (Out×St)):Option (T×List iy):=
 match x with
 |some (.ext _,_)=>none
 |some (_,st)=>(oV st r).bind fun D=>sR j D st
 |none=>none
theorem ak8{f:Nat}{af:iC}{args:List T}{sh:List iy}{j:Nat}(r:E.fn f=some af)(D:(af.n<args.length)=False)(H:af.own=some j:=by rfl)(I:af.eff=false:=by rfl):
  be E f args sh=adW af.res j (DC E af.n af.code {fr:=qx args,lh:= .nil,sh}):=by
 rw[Mb r (Nat.le_of_not_lt (of_eq_false D))]
 generalize DC E af.n af.code {fr:=qx args,lh:= .nil,sh}=x
 unfold X6 adW
 grind [uS,Bool.false_eq_true]
def Tv(lh:iL iy)(sh:List iy)(j:Nat)(r:List T):Option (T×List iy):=sR j r ⟨.nil,lh,sh⟩
theorem OS{j:Nat}{r:List T}:sR j r ⟨fr,lh,sh⟩=Tv lh sh j r:=by
 unfold Tv sR
 simp only[BU,rY]
 split
 ·rfl
 ·split
  ·rename_i p _
   rw[rF p.2 lh sh]
   rfl
  ·rfl
 ·rfl
theorem Ym{r:List qS}{j:Nat}:adW r j (some (.ret,⟨fr,lh,sh⟩))=(BT fr lh sh r).bind (Tv lh sh j):=by
 simp_all[adW,tT,OS]
theorem Yn{r:List qS}{D:Bool}:Ar r D (some (.ret,⟨fr,lh,sh⟩))=(BT fr lh sh r).bind (Ts lh sh D):=by
 simp_all[Ar,tT,BU]
theorem Yo{r:List qS}{D:Bool}:Ar r D (some (.nrm,⟨fr,lh,sh⟩))=(BT fr lh sh r).bind (Ts lh sh D):=by
 simp_all[Ar,tT,BU]
theorem Yp{c:Prop}[Decidable c]{r:List qS}{D:Bool}{x y:Option (Out×St)}:Ar r D (if c then x else y)=if c then Ar r D x else Ar r D y:=by split <;> rfl
end
section
variable{k:IntKind}{a b:Int}{x y:Bool}{s t:List Nat}
theorem adX:Ev.bin .add (.i k a) (.i k b)=some (.i k (wr k (a+b))):=by simp[Ev.bin,tu]
theorem adY:Ev.bin .sub (.i k a) (.i k b)=some (.i k (wr k (a-b))):=by simp[Ev.bin,tu]
theorem adZ:Ev.bin .mul (.i k a) (.i k b)=some (.i k (wr k (a*b))):=by simp[Ev.bin,tu]
theorem ad0:Ev.bin .quo (.i k a) (.i k b)=if b=0 then none else some (.i k (wr k (a.tdiv b))):=by simp[Ev.bin,tu]
theorem ad1:Ev.bin .rem (.i k a) (.i k b)=if b=0 then none else some (.i k (a.tmod b)):=by simp[Ev.bin,tu]
theorem QT:Ev.bin .eql (.i k a) (.i k b)=some (.b (decide (a=b))):=by simp[Ev.bin,tu];exact Bool.beq_eq_decide_eq a b
theorem QU:Ev.bin .neq (.i k a) (.i k b)=some (.b (!decide (a=b))):=by simp[Ev.bin,tu];rw[bne,Bool.beq_eq_decide_eq]
theorem QV:Ev.bin .lss (.i k a) (.i k b)=some (.b (decide (a<b))):=by simp[Ev.bin,tu]
theorem QW:Ev.bin .leq (.i k a) (.i k b)=some (.b (decide (a≤b))):=by simp[Ev.bin,tu]
theorem QX:Ev.bin .gtr (.i k a) (.i k b)=some (.b (decide (b<a))):=by simp[Ev.bin,tu]
theorem QY:Ev.bin .geq (.i k a) (.i k b)=some (.b (decide (b≤a))):=by simp[Ev.bin,tu]
theorem Mc:Ev.bin .eql (.s s) (.s t)=some (.b (decide (s=t))):=by simp[Ev.bin,SY];exact Bool.beq_eq_decide_eq s t
theorem Md:Ev.bin .neq (.s s) (.s t)=some (.b (!decide (s=t))):=by simp[Ev.bin,SY];rw[bne,Bool.beq_eq_decide_eq]
theorem Yq:Ev.bin .lss (.s s) (.s t)=some (.b (mB s t)):=by simp[Ev.bin,SY]
theorem ak9:Ev.un .not (.b x)=some (.b (!x)):=rfl
theorem ala:Ev.un .neg (.i k a)=some (.i k (wr k (0-a))):=rfl
theorem alb{cs:List T}{off m:Nat}:Ev.part cs off m false=cs[off]? :=rfl
theorem alc{cs:List T}{off m:Nat}:Ev.part cs off m true=if off+m≤cs.length then some (.agg ((cs.drop off).take m))else none:=rfl
theorem jE{n:Int}(h: -9223372036854775808≤n∧n≤9223372036854775807):wr .i64 n=n:=by grind [wr,lo,hi]
theorem kG{cs:List T}{len sz:Nat}{ex:Bool}{kk:IntKind}{j:Int}:ng (.sl cs len ex) (.i kk j) sz=if 0≤j∧j.toNat<len∧(j.toNat+1)*sz≤cs.length then some (.vp (cs.drop (j.toNat*sz)))else none:=by
 unfold ng asNat
 grind
theorem ad2{sp:Sp}{i g off len sz r:Nat}{kk:IntKind}{j:Int}:ng (.isl sp i g off len r) (.i kk j) sz=if 0≤j∧j.toNat<len∧r=sz then some (.ptr sp i g (off+j.toNat*sz))else none:=by
 unfold ng asNat
 grind
theorem OT{r:List Nat}{kk:IntKind}{j:Int}:GP (.s r) (.i kk j)=if 0≤j then r[j.toNat]?.map fun c=>T.i .u8 c else none:=by
 unfold GP asNat
 grind
theorem Jc{kk:IntKind}{j:Int}:asNat (.i kk j)=if 0≤j then some j.toNat else none:=rfl
end
end Go.Ev
