/- A tree evaluator over the model, proved against it (part E): where it answers, the call returns that answer. Conditions: none beyond its theorems' own. -/
import Derived.Test.YtnkgnjecmfkcfaaGreatEvD
set_option linter.unusedSimpArgs false
set_option linter.unusedVariables false
namespace Go.Ev
open Go
section
variable{E:Env}{call:jB}{fl n:Nat}
end
end Go.Ev
namespace Go.Ev
open Go
def qb(c D:jB):Prop:= ∀f a sh r,c f a sh=some r→D f a sh=some r
theorem qb.refl(c:jB):qb c c:=fun _ _ _ _ h=>h
section
variable{E:Env}
theorem xF{c D:jB}(h:qb c D){H:Nat}{st:St}{f:Nat}{args:List T}{r:T×St}(hr:br E c H st f args=some r):br E D H st f args=some r:=by
 unfold br at hr ⊢
 cases J:E.fn f with
 |none=>grind
 |some af=>
  simp only[J]at hr ⊢
  cases K:(bf (fz af.eff aJ) args).run st.get st.sh.length with
  |none=>grind
  |some q=>
   simp only[K]at hr ⊢
   cases I:af.eff with
   |true=>
    simp only[I,if_true,Option.map_eq_some_iff]at hr ⊢
    obtain⟨a,h1,h2⟩:=hr
    exact⟨a,h _ _ _ _ h1,h2⟩
   |false=>
    simp only[I]at hr ⊢
    cases hc:c f q.1 []with
    |none=>grind
    |some a=>
     simp only[hc]at hr
     simp only[h _ _ _ _ hc]
     exact hr
theorem l9{c J:jB}(h:qb c J){n:Nat}{o:aF}{st H:St}(hr:bg E c n o st=some H):bg E J n o st=some H:=by
 unfold bg at hr ⊢
 have N: ∀H,(match bw st.rho o.op with
  |some (some D)=>match br E c (o.d.getD 0) st D.1 D.2 with
   |some r=>(gf st.fr n o.d r.1).map fun fr=>{r.2 with fr}
   |none=>none
  |some none=>none
  |none=>match(bt (o.d.getD 0) st.rho o.op).run st.get st.sh.length with
   |some (.val v ups)=>(gf st.fr n o.d v).map fun fr=>{st.ups ups with fr}
   |none=>none)=some H→(match bw st.rho o.op with
  |some (some D)=>match br E J (o.d.getD 0) st D.1 D.2 with
   |some r=>(gf st.fr n o.d r.1).map fun fr=>{r.2 with fr}
   |none=>none
  |some none=>none
  |none=>match(bt (o.d.getD 0) st.rho o.op).run st.get st.sh.length with
   |some (.val v ups)=>(gf st.fr n o.d v).map fun fr=>{st.ups ups with fr}
   |none=>none)=some H:=by
  intro H hs
  cases hc:bw st.rho o.op with
  |none=>simp only[hc]at hs ⊢; exact hs
  |some x=>
   cases x with
   |none=>simp only[hc]at hs;cases hs
   |some D=>
    simp only[hc]at hs ⊢
    cases K:br E c (o.d.getD 0) st D.1 D.2 with
    |none=>simp only[K]at hs;cases hs
    |some r=>
     simp only[K]at hs
     simp only[xF h K]
     exact hs
 cases O:o.gd with
 |none=>grind
 |some p=>
  obtain⟨j,I⟩:=p
  simp only[O]at hr ⊢
  split at hr
  ·rename_i x hx
   by_cases R:x=I
   ·grind
   ·grind
  ·cases hr
  ·exact hr
theorem fK{c D:jB}(h:qb c D){n:Nat}: ∀(os:List aF) {st r:St},ai E c n os st=some r→ai E D n os st=some r
 | [],st,r,hr=>hr
 |o::os,st,r,hr=>by
  simp only[ai]at hr ⊢
  cases H:bg E c n o st with
  |none=>grind
  |some s=>
   simp only[H]at hr
   simp only[l9 h H]
   exact fK h os hr
theorem xG{c D:jB}(h:qb c D){H:Nat}{st:St}{f:Nat}{args:List T}{r:FP}(hr:ev E c H st f args=some r):ev E D H st f args=some r:=by
 unfold ev at hr ⊢
 cases I:E.fn f with
 |none=>grind
 |some af=>
  simp only[I]at hr ⊢
  cases J:(bf (fz af.eff aJ) args).run st.get st.sh.length with
  |none=>grind
  |some q=>
   simp only[J]at hr ⊢
   by_cases hi:(!inB st q.2)=true
   ·grind
   ·rw[if_neg hi]at hr ⊢
    cases K:af.eff with
    |true=>grind
    |false=>
     simp only[K]at hr ⊢
     cases hc:c f q.1 []with
     |none=>simp[hc]at hr
     |some a=>
      simp only[hc]at hr
      simp only[h _ _ _ _ hc]
      exact hr
theorem xH{c I:jB}(h:qb c I){o:aF}{st:St}{r:FP}(hr:bL E c o st=some r):bL E I o st=some r:=by
 unfold bL at hr ⊢
 have J: ∀r,(match bw st.rho o.op with
  |some (some H)=>ev E c (o.d.getD 0) st H.1 H.2
  |some none=>none
  |none=>
   let q:=bt (o.d.getD 0) st.rho o.op
   match q.run st.get st.sh.length with
   |some (.val _ D)=>if q.asks st.get st.sh.length||inB st D then some ⟨q.asks st.get st.sh.length,q.log st.get st.sh.length,cS D⟩else none
   |none=>none)=some r→(match bw st.rho o.op with
  |some (some H)=>ev E I (o.d.getD 0) st H.1 H.2
  |some none=>none
  |none=>
   let q:=bt (o.d.getD 0) st.rho o.op
   match q.run st.get st.sh.length with
   |some (.val _ D)=>if q.asks st.get st.sh.length||inB st D then some ⟨q.asks st.get st.sh.length,q.log st.get st.sh.length,cS D⟩else none
   |none=>none)=some r:=by
  intro r hs
  cases hc:bw st.rho o.op with
  |none=>simp only[hc]at hs ⊢; exact hs
  |some x=>
   cases x with
   |none=>simp only[hc]at hs;cases hs
   |some H=>simp only[hc]at hs ⊢; exact xG h hs
 cases K:o.gd with
 |none=>grind
 |some p=>
  grind
theorem ma{c D:jB}(h:qb c D){n:Nat}: ∀(os:List (List Nat×aF)) {bo:List FP} {st r:St},aK E c n os bo st=some r→aK E D n os bo st=some r
 | [],bo,st,r,hr=>hr
 |(u,o)::os,bo,st,r,hr=>by
  simp only[aK]at hr ⊢
  cases H:bL E c o st with
  |none=>grind
  |some fp=>
   simp only[H]at hr
   simp only[xH h H]
   split at hr
   ·rename_i J
    rw[if_pos J]
    cases I:bg E c n o st with
    |none=>grind
    |some s=>
     simp only[I]at hr
     simp only[l9 h I]
     exact ma h os hr
   ·cases hr
theorem qW{f g:St→Option (Out×St)}(h: ∀st r,f st=some r→g st=some r): ∀{k k':Nat},k≤k'→ ∀{st:St} {r:Out×St},iter f k st=some r→iter g k' st=some r
 |0,_,_,st,r,hr=>by simp[iter]at hr
 |k+1,0,hk,_,_,_=>by omega
 |k+1,k'+1,hk,st,r,hr=>by
  simp only[iter]at hr ⊢
  cases D:f st with
  |none=>grind
  |some p=>
   rw[h _ _ D]
   rw[D]at hr
   obtain⟨o,s⟩:=p
   cases o with
   |nrm=>exact qW h zZ hr
   |ext id=>exact hr
   |ret=>exact hr
theorem db{c J:jB}(h:qb c J){n:Nat}{fl H:Nat}(D:fl≤H): ∀(code:ak) {st:St} {r:Out×St},fG E c fl n code st=some r→fG E J H n code st=some r
 | .skip,st,r,hr=>hr
 | .region ops,st,r,hr=>by
   simp only[fG,Option.map_eq_some_iff]at hr ⊢
   obtain⟨a,h1,h2⟩:=hr
   exact⟨a,fK h ops h1,h2⟩
 | .draws ops,st,r,hr=>by
   simp only[fG,Option.map_eq_some_iff]at hr ⊢
   obtain⟨a,h1,h2⟩:=hr
   exact⟨a,ma h ops h1,h2⟩
 | .seq a b,st,r,hr=>by
   simp only[fG]at hr ⊢
   cases I:fG E c fl n a st with
   |none=>grind
   |some p=>
    rw[db h D a I]
    rw[I]at hr
    obtain⟨o,s⟩:=p
    cases o with
    |nrm=>exact db h D b hr
    |ext id=>exact hr
    |ret=>exact hr
 | .fork os BC b,st,r,hr=>by
   simp only[fG]at hr ⊢
   cases h1:ai E c n os st with
   |none=>grind
   |some R=>
    cases h2:ai E c n BC st with
    |none=>grind
    |some s2=>
     rw[fK h os h1,fK h BC h2]
     rw[h1,h2]at hr
     simp only[]at hr ⊢
     obtain⟨o,s⟩:=r
     obtain⟨U,V,K,N,W,rfl⟩:=sF hr
     rw[K,N]at hr
     rw[db h D b K,db h D b N]
     exact hr
 | .cond x a b,st,r,hr=>by
   simp only[fG]at hr ⊢
   split at hr
   ·exact db h D a hr
   ·exact db h D b hr
   ·cases hr
 | .block id a,st,r,hr=>by
   simp only[fG]at hr ⊢
   cases I:fG E c fl n a st with
   |none=>grind
   |some p=>
    rw[db h D a I]
    grind
 | .loop a,st,r,hr=>by
   simp only[fG]at hr ⊢
   exact qW (fun st r O=>db h D a O) D hr
 | .exit id,st,r,hr=>hr
 | .ret,st,r,hr=>hr
theorem bM: ∀{m D:Nat},m≤D→qb (cO E m) (cO E D)
 |0,D,_=>fun f a sh r h=>by simp[cO]at h
 |m+1,0,h=>by omega
 |m+1,D+1,h=>fun f a sh r hr=>by
  simp only[cO]at hr ⊢
  cases H:E.fn f with
  |none=>grind
  |some af=>
   simp only[H]at hr ⊢
   split at hr
   ·cases hr
   ·rename_i I
    rw[if_neg I]
    cases hc:fG E (cO E m) m af.n af.code {fr:=kF a,lh:= .nil,sh}with
    |none=>grind
    |some p=>
     rw[db (bM (Nat.le_of_succ_le_succ h)) (Nat.le_of_succ_le_succ h) af.code hc]
     grind
end
noncomputable def lim{α:Type}(F:Nat→Option α):Option α:=
 open Classical in if h: ∃m,(F m).isSome=true then F (Classical.choose h)else none
def avr{α:Type}(F:Nat→Option α):Prop:= ∀m D r,m≤D→F m=some r→F D=some r
theorem Na{α:Type}{F:Nat→Option α}(H:avr F)(r:α):lim F=some r↔ ∃m,F m=some r:=by
 unfold lim
 constructor
 ·intro h
  split at h
  ·grind
  ·cases h
 ·rintro⟨m,I⟩
  have D: ∃m,(F m).isSome=true:=⟨m,by rw[I];rfl⟩
  rw[dif_pos D]
  have hs:=Classical.choose_spec D
  generalize Classical.choose D=k at hs
  cases hk:F k with
  |none=>grind
  |some a=>
   have h1:=H k (max k m) a (Nat.le_max_left _ _) hk
   have h2:=H m (max k m) r (Nat.le_max_right _ _) I
   grind
section
variable(E:Env)
noncomputable def ae:jB:=fun f a sh=>lim fun m=>cO E m f a sh
noncomputable def DC(n:Nat)(code:ak)(st:St):Option (Out×St):=lim fun m=>fG E (cO E m) m n code st
end
section
variable{E:Env}
theorem DCall_iff{f:Nat}{a:List T}{sh:List ah}{r:T×List ah}:ae E f a sh=some r↔ ∃m,cO E m f a sh=some r:=
 Na (fun m D r h hr=>bM h _ _ _ _ hr) r
theorem dg{n:Nat}{code:ak}{st:St}{r:Out×St}:DC E n code st=some r↔ ∃m,fG E (cO E m) m n code st=some r:=
 Na (fun m D r h hr=>db (bM h) h code hr) r
theorem oH(m:Nat):qb (cO E m) (ae E):=fun f a sh r h=>DCall_iff.2 ⟨m,h⟩
theorem KS{D:Nat}{st:St}{f:Nat}{args:List T}{r:T×St}(hr:br E (ae E) D st f args=some r): ∃m,br E (cO E m) D st f args=some r:=by
 unfold br at hr
 cases H:E.fn f with
 |none=>refine⟨0, ?_⟩;unfold br;cases hx:E.ext f <;> simp only[H,hx]at hr ⊢ <;> exact hr
 |some af=>
  simp only[H]at hr
  grind [br,Option.map_eq_some_iff,DCall_iff.1]
theorem KT{D:Nat}{st:St}{f:Nat}{args:List T}{r:FP}(hr:ev E (ae E) D st f args=some r): ∃m,ev E (cO E m) D st f args=some r:=by
 unfold ev at hr
 cases H:E.fn f with
 |none=>refine⟨0, ?_⟩;unfold ev;cases hx:E.ext f <;> simp only[H,hx]at hr ⊢ <;> exact hr
 |some af=>
  simp only[H]at hr
  cases I:(bf (fz af.eff aJ) args).run st.get st.sh.length with
  |none=>grind
  |some q=>
   simp only[I]at hr
   by_cases hi:(!inB st q.2)=true
   ·grind
   ·rw[if_neg hi]at hr
    cases J:af.eff with
    |true=>
     simp_all[ev]
    |false=>
     grind [ev,DCall_iff.1]
theorem Ar{n:Nat}{o:aF}{st H:St}(hr:bg E (ae E) n o st=some H): ∃m,bg E (cO E m) n o st=some H:=by
 cases hc:bw st.rho o.op with
 |none=>
  simp_all[bg]
 |some x=>
  cases x with
  |none=>
   simp_all[bg]
  |some D=>
   cases I:br E (ae E) (o.d.getD 0) st D.1 D.2 with
   |none=>
    refine⟨0, ?_⟩
    have h0:br E (cO E 0) (o.d.getD 0) st D.1 D.2=none:=by
     cases h0:br E (cO E 0) (o.d.getD 0) st D.1 D.2 with
     |none=>rfl
     |some r=>rw[xF (oH 0) h0]at I;cases I
    grind [bg]
   |some r=>
    grind [bg,KS]
theorem KU{o:aF}{st:St}{r:FP}(hr:bL E (ae E) o st=some r): ∃m,bL E (cO E m) o st=some r:=by
 cases hc:bw st.rho o.op with
 |none=>
  simp_all[bL]
 |some x=>
  cases x with
  |none=>
   simp_all[bL]
  |some D=>
   cases H:ev E (ae E) (o.d.getD 0) st D.1 D.2 with
   |none=>
    refine⟨0, ?_⟩
    have h0:ev E (cO E 0) (o.d.getD 0) st D.1 D.2=none:=by
     cases h0:ev E (cO E 0) (o.d.getD 0) st D.1 D.2 with
     |none=>rfl
     |some r=>rw[xG (oH 0) h0]at H;cases H
    grind [bL]
   |some r=>
    grind [bL,KT]
theorem qX{n:Nat}: ∀(os:List aF) {st r:St},ai E (ae E) n os st=some r→ ∃m,ai E (cO E m) n os st=some r
 | [],st,r,hr=>⟨0,hr⟩
 |o::os,st,r,hr=>by
  simp only[ai]at hr
  cases I:bg E (ae E) n o st with
  |none=>grind
  |some s=>
   simp only[I]at hr
   obtain⟨D,h1⟩:=Ar I
   obtain⟨H,h2⟩:=qX os hr
   refine⟨max D H, ?_⟩
   simp only[ai,l9 (bM (Nat.le_max_left D H)) h1]
   exact fK (bM (Nat.le_max_right D H)) os h2
theorem As{n:Nat}: ∀(os:List (List Nat×aF)) {bo:List FP} {st H:St},aK E (ae E) n os bo st=some H→ ∃m,aK E (cO E m) n os bo st=some H
 | [],bo,st,H,hr=>⟨0,hr⟩
 |(u,o)::os,bo,st,H,hr=>by
  simp only[aK]at hr
  cases I:bL E (ae E) o st with
  |none=>grind
  |some fp=>
   simp only[I]at hr
   split at hr
   ·rename_i K
    cases J:bg E (ae E) n o st with
    |none=>grind
    |some s=>
     simp only[J]at hr
     obtain⟨r,h1⟩:=Ar J
     obtain⟨D,h2⟩:=As os hr
     obtain⟨m3,h3⟩:=KU I
     refine⟨max m3 (max r D), ?_⟩
     have N:r≤max m3 (max r D):=zZ
     have O:D≤max m3 (max r D):=zZ
     have R:m3≤max m3 (max r D):=zZ
     simp only[aK,xH (bM R) h3,l9 (bM N) h1]
     rw[if_pos K]
     exact ma (bM O) os h2
   ·cases hr
theorem oI{α:Type}{x y:Option α}(h: ∀r,x=some r↔y=some r):x=y:=Option.ext h
theorem abh{n:Nat}{st:St}:DC E n .skip st=some (.nrm,st):=dg.2 ⟨0,rfl⟩
theorem abi{n id:Nat}{st:St}:DC E n (.exit id) st=some (.ext id,st):=dg.2 ⟨0,rfl⟩
theorem ajR{n:Nat}{st:St}:DC E n .ret st=some (.ret,st):=dg.2 ⟨0,rfl⟩
theorem C5{n:Nat}{ops:List aF}{st:St}:DC E n (.region ops) st=(ai E (ae E) n ops st).map fun D=>(.nrm,D):=by
 refine oI fun r=> ?_
 rw[dg,Option.map_eq_some_iff]
 constructor
 ·rintro⟨m,h⟩
  simp only[fG,Option.map_eq_some_iff]at h
  obtain⟨a,h1,h2⟩:=h
  exact⟨a,fK (oH m) ops h1,h2⟩
 grind [fG,Option.map_eq_some_iff,qX]
theorem HZ{n:Nat}{ops:List (List Nat×aF)}{st:St}:DC E n (.draws ops) st=(aK E (ae E) n ops [] st).map fun D=>(.nrm,D):=by
 refine oI fun r=> ?_
 rw[dg,Option.map_eq_some_iff]
 constructor
 ·rintro⟨m,h⟩
  simp only[fG,Option.map_eq_some_iff]at h
  obtain⟨a,h1,h2⟩:=h
  exact⟨a,ma (oH m) ops h1,h2⟩
 grind [fG,Option.map_eq_some_iff,As]
def andThen(x:Option (Out×St))(f:St→Option (Out×St)):Option (Out×St):=
 match x with
 |some (.nrm,D)=>f D
 |r=>r
theorem mb{st:St}{f:St→Option (Out×St)}:andThen (some (.nrm,st)) f=f st:=rfl
theorem H0{id:Nat}{st:St}{f:St→Option (Out×St)}:andThen (some (.ext id,st)) f=some (.ext id,st):=rfl
theorem H2{st:St}{f:St→Option (Out×St)}:andThen (some (.ret,st)) f=some (.ret,st):=rfl
theorem Eu{f:St→Option (Out×St)}:andThen none f=none:=rfl
theorem Ew{n:Nat}{a b:ak}{st:St}:DC E n (.seq a b) st=andThen (DC E n a st) (DC E n b):=by
 refine oI fun r=> ?_
 rw[dg]
 constructor
 ·rintro⟨m,h⟩
  simp only[fG]at h
  cases D:fG E (cO E m) m n a st with
  |none=>grind
  |some p=>
   rw[D]at h
   rw[dg.2 ⟨m,D⟩]
   obtain⟨o,s⟩:=p
   cases o with
   |nrm=>exact dg.2 ⟨m,h⟩
   |ext id=>exact h
   |ret=>exact h
 ·intro h
  cases D:DC E n a st with
  |none=>rw[D]at h;cases h
  |some p=>
   rw[D]at h
   obtain⟨H,h1⟩:=dg.1 D
   obtain⟨o,s⟩:=p
   cases o with
   |nrm=>
    obtain⟨I,h2⟩:=dg.1 h
    refine⟨max H I, ?_⟩
    have J:=Nat.le_max_left H I
    have K:=Nat.le_max_right H I
    simp only[fG,db (bM J) J a h1]
    exact db (bM K) K b h2
   |ext id=>refine⟨H, ?_⟩;simp only[fG,h1];exact h
   |ret=>refine⟨H, ?_⟩;simp only[fG,h1];exact h
theorem abj{n:Nat}{c:aP}{a b:ak}{st:St}:DC E n (.cond c a b) st=match st.rho c with| .b true=>DC E n a st| .b false=>DC E n b st|_=>none:=by
 refine oI fun r=> ?_
 grind [dg,fG,dg.2,dg.1]
def xI(id:Nat)(x:Option (Out×St)):Option (Out×St):=
 match x with
 |some (.ext PD,D)=>if PD=id then some (.nrm,D)else some (.ext PD,D)
 |r=>r
theorem PU{id:Nat}{st:St}:xI id (some (.nrm,st))=some (.nrm,st):=rfl
theorem PV{id:Nat}{st:St}:xI id (some (.ret,st))=some (.ret,st):=rfl
theorem PW{id PD:Nat}{st:St}:xI id (some (.ext PD,st))=if PD=id then some (.nrm,st)else some (.ext PD,st):=rfl
theorem KV{id:Nat}:xI id none=none:=rfl
theorem UZ{n id:Nat}{a:ak}{st:St}:DC E n (.block id a) st=xI id (DC E n a st):=by
 refine oI fun r=> ?_
 rw[dg]
 constructor
 ·rintro⟨m,h⟩
  simp only[fG]at h
  cases D:fG E (cO E m) m n a st with
  |none=>grind
  |some p=>
   rw[D]at h
   rw[dg.2 ⟨m,D⟩]
   exact h
 ·intro h
  cases D:DC E n a st with
  |none=>rw[D]at h;cases h
  |some p=>
   rw[D]at h
   obtain⟨H,h1⟩:=dg.1 D
   refine⟨H, ?_⟩
   simp only[fG,h1]
   exact h
theorem qY{n:Nat}{a:ak}{st:St}:DC E n (.loop a) st=andThen (DC E n a st) (DC E n (.loop a)):=by
 refine oI fun r=> ?_
 rw[dg]
 constructor
 ·rintro⟨m,h⟩
  simp only[fG]at h
  cases m with
  |zero=>simp[iter]at h
  |succ m=>
   rw[iter]at h
   cases H:fG E (cO E (m+1)) (m+1) n a st with
   |none=>grind
   |some p=>
    rw[H]at h
    rw[dg.2 ⟨m+1,H⟩]
    obtain⟨o,s⟩:=p
    cases o with
    |nrm=>
     refine dg.2 ⟨m+1, ?_⟩
     simp only[fG]
     exact qW (fun _ _ h=>h) (Nat.le_succ m) h
    |ext id=>exact h
    |ret=>exact h
 ·intro h
  cases H:DC E n a st with
  |none=>rw[H]at h;cases h
  |some p=>
   rw[H]at h
   obtain⟨D,h1⟩:=dg.1 H
   obtain⟨o,s⟩:=p
   cases o with
   |nrm=>
    obtain⟨I,h2⟩:=dg.1 h
    refine⟨max D I+1, ?_⟩
    have J:D≤max D I+1:=zZ
    have K:I≤max D I+1:=zZ
    have N:I≤max D I:=zZ
    simp only[fG]at h2
    simp only[fG]
    rw[iter,db (bM J) J a h1]
    exact qW (fun st r O=>db (bM K) K a O) N h2
   |ext id=>
    refine⟨D+1, ?_⟩
    simp only[fG]
    rw[iter,db (bM (Nat.le_succ D)) (Nat.le_succ D) a h1]
    exact h
   |ret=>
    refine⟨D+1, ?_⟩
    simp only[fG]
    rw[iter,db (bM (Nat.le_succ D)) (Nat.le_succ D) a h1]
    exact h
def ahf(af:aj)(x:Option (Out×St)):Option (T×List ah):=
 match x with
 |some (.ext _,_)=>none
 |some (_,st)=>match gV st af.res with
  |some r=>qK af.own af.eff r st
  |none=>none
 |none=>none
theorem U0{f:Nat}{af:aj}{args:List T}{sh:List ah}(D:E.fn f=some af)(H:args.length≤af.n):
  ae E f args sh=ahf af (DC E af.n af.code {fr:=kF args,lh:= .nil,sh}):=by
 refine oI fun r=> ?_
 rw[DCall_iff]
 constructor
 ·rintro⟨m,h⟩
  cases m with
  |zero=>simp[cO]at h
  |succ m=>
   simp only[cO,D,if_neg (Nat.not_lt.2 H)]at h
   cases hc:fG E (cO E m) m af.n af.code {fr:=kF args,lh:= .nil,sh}with
   |none=>grind
   |some p=>rw[hc]at h;rw[dg.2 ⟨m,hc⟩];exact h
 ·intro h
  cases hc:DC E af.n af.code {fr:=kF args,lh:= .nil,sh}with
  |none=>rw[hc]at h;cases h
  |some p=>
   rw[hc]at h
   obtain⟨m,I⟩:=dg.1 hc
   refine⟨m+1, ?_⟩
   simp only[cO,D,if_neg (Nat.not_lt.2 H),I]
   exact h
end
end Go.Ev
namespace Go.Ev
open Go
theorem nr{α:Sort _}{a b:α}(h:a=b):a=b:=h
def rd(fr:Fr):aP→T
 | .t k=>aa fr k
 | .c v=>v
theorem aBD(fr:Fr)(k:Nat):rd fr (.t k)=aa fr k:=nr rfl
theorem aBE(fr:Fr)(v:T):rd fr (.c v)=v:=nr rfl
theorem dh(fr:Fr)(lh:aE ah)(sh:List ah):(St.mk fr lh sh).rho=rd fr:=by funext x;cases x <;> rfl
theorem U1(fr:Fr)(d:Nat)(v:T):aa (cL fr d v) d=v:=by rw[kY,if_pos rfl]
theorem U2(fr:Fr){d m:Nat}(v:T)(h:m≠d):aa (cL fr d v) m=aa fr m:=by rw[kY,if_neg h]
def ab(lh:aE ah)(k:Nat):ah:=aE.get eB lh k
def iR(lh:aE ah)(k:Nat)(e:ah):aE ah:=aE.set eB lh k e
theorem wM(lh:aE ah)(k:Nat)(e:ah):ab (iR lh k e) k=e:=by grind [ab,iR,aE.get_set]
theorem bq(lh:aE ah){k m:Nat}(e:ah)(h:m≠k):ab (iR lh k e) m=ab lh m:=by grind [ab,iR,aE.get_set]
theorem U3(k:Nat):ab .nil k=eB:=by unfold ab;exact aE.get_nil _ _
theorem get_nil(k:Nat):aa .nil k=aO:=by unfold aa;exact aE.get_nil _ _
theorem Nb(fr:Fr)(lh:aE ah)(sh:List ah)(k:Nat):(St.mk fr lh sh).get .L k=ab lh k:=rfl
theorem yu(st:St):st.ups []=st:=rfl
theorem ahg(fr:Fr)(lh:aE ah)(sh:List ah)(k:Nat)(e:ah)(us:List Up):(St.mk fr lh sh).ups ((.L,k,e)::us)=(St.mk fr (iR lh k e) sh).ups us:=rfl
def kl:Option zF→Option (T×List Up)
 |some (.val v r)=>some (v,r)
 |none=>none
def one(fr:Fr)(lh:aE ah)(sh:List ah)(d:Nat)(op:lX):Option (T×List Up):=
 kl ((bt d (rd fr) op).run (St.mk fr lh sh).get sh.length)
def rG(fr:Fr):Option Nat→T→Fr
 |some d,v=>cL fr d v
 |none,_=>fr
def B6(n:Nat):Option Nat→Prop
 |some d=>d<n
 |none=>True
section
variable{E:Env}{call:jB}{n:Nat}{fr:Fr}{lh:aE ah}{sh:List ah}{os:List aF}
theorem avs{st:St}:ai E call n [] st=some st:=rfl
theorem ko{d:Option Nat}{op:lX}(hc:bw (rd fr) op=none)(D:B6 n d):
  ai E call n (⟨d,op,none⟩::os) ⟨fr,lh,sh⟩=(one fr lh sh (d.getD 0) op).bind fun r=>ai E call n os {(St.mk fr lh sh).ups r.2 with fr:=rG fr d r.1}:=by
 simp only[ai,bg,dh,hc]
 unfold one
 cases h:(bt (d.getD 0) (rd fr) op).run (St.mk fr lh sh).get sh.length with
 |none=>rfl
 |some r=>
  obtain⟨v,ups⟩:=r
  simp only[Option.bind_some,kl]
  cases d with
  |none=>rfl
  |some d=>simp only[gf,if_pos (show d<n from D),rG,Option.map_some]
theorem dm{d:Option Nat}{op:lX}(hc:bw (rd fr) op=none)(r:B6 n d){v:Option T}(h1:one fr lh sh (d.getD 0) op=v.map fun v=>(v,[])):
  ai E call n (⟨d,op,none⟩::os) ⟨fr,lh,sh⟩=v.bind fun v=>ai E call n os ⟨rG fr d v,lh,sh⟩:=by
 rw[ko hc r,h1]
 cases v <;> rfl
theorem iK{o:Option T}{h:Sp→Nat→ah}{nx:Nat}:kl ((val o).run h nx)=o.map fun v=>(v,([]:List Up)):=by
 cases o <;> rfl
variable{d:Nat}
theorem aBF{x:aP}(r:d<n):ai E call n (⟨some d,.mv x,none⟩::os) ⟨fr,lh,sh⟩=ai E call n os ⟨cL fr d (rd fr x),lh,sh⟩:=
 dm (d:=some d) (v:=some (rd fr x)) (by rfl) r rfl
def Nc(c a b:T):Option T:=match c with| .b x=>some (if x=true then a else b)|_=>none
theorem abk(x:Bool)(a b:T):Nc (.b x) a b=some (if x=true then a else b):=rfl
theorem ajS{c a b:aP}(r:d<n):ai E call n (⟨some d,.pick c a b,none⟩::os) ⟨fr,lh,sh⟩=(Nc (rd fr c) (rd fr a) (rd fr b)).bind fun v=>ai E call n os ⟨cL fr d v,lh,sh⟩:=by
 refine dm (d:=some d) (by rfl) r ?_
 unfold one Nc
 simp only[bt]
 cases h:rd fr c <;> try rfl
 rename_i x
 cases x <;> rfl
theorem avt{op:BinOp}{x y:aP}(r:d<n):ai E call n (⟨some d,.bin op x y,none⟩::os) ⟨fr,lh,sh⟩=(Ev.bin op (rd fr x) (rd fr y)).bind fun v=>ai E call n os ⟨cL fr d v,lh,sh⟩:=
 dm (d:=some d) (by rfl) r iK
theorem aBG{neg:Bool}{k:EK}{x y:aP}(D:d<n):ai E call n (⟨some d,.eq neg k x y,none⟩::os) ⟨fr,lh,sh⟩=((rD k (rd fr x) (rd fr y)).map fun r=>T.b (r != neg)).bind fun v=>ai E call n os ⟨cL fr d v,lh,sh⟩:=
 dm (d:=some d) (by rfl) D iK
theorem aBH{op:UnOp}{x:aP}(r:d<n):ai E call n (⟨some d,.un op x,none⟩::os) ⟨fr,lh,sh⟩=(Ev.un op (rd fr x)).bind fun v=>ai E call n os ⟨cL fr d v,lh,sh⟩:=
 dm (d:=some d) (by rfl) r iK
def abl(k:IntKind):T→Option T
 | .i _ n=>some (.i k (wr k n))
 |_=>none
theorem avu{k:IntKind}{x:aP}(r:d<n):ai E call n (⟨some d,.cvi k x,none⟩::os) ⟨fr,lh,sh⟩=(abl k (rd fr x)).bind fun v=>ai E call n os ⟨cL fr d v,lh,sh⟩:=by
 refine dm (d:=some d) (by rfl) r ?_
 unfold one abl
 simp only[bt]
 cases h:rd fr x <;> rfl
def abm:T→Option T
 | .sl [.i .u8 (.ofNat k)] 1 _=>if k<256 then some (.s [k])else none
 |_=>none
theorem avv{x:aP}(r:d<n):ai E call n (⟨some d,.b2s x,none⟩::os) ⟨fr,lh,sh⟩=(abm (rd fr x)).bind fun v=>ai E call n os ⟨cL fr d v,lh,sh⟩:=by
 refine dm (d:=some d) (by rfl) r ?_
 unfold one abm
 simp only[bt]
 generalize rd fr x=y
 split
 ·rename_i k ex
  by_cases hk:k<256
  ·rw[if_pos hk];simp only[hk,if_true];rfl
  ·rw[if_neg hk];simp only[hk,if_false];rfl
 ·rename_i h
  split
  ·rename_i k ex;exact absurd rfl (h k ex)
  ·rfl
theorem ajT{f:Nat}{a c:List aP}(r:d<n):ai E call n (⟨some d,.mkfn f a c,none⟩::os) ⟨fr,lh,sh⟩=ai E call n os ⟨cL fr d (.fn f (a.map (rd fr)) (c.map (rd fr))),lh,sh⟩:=
 dm (d:=some d) (v:=some _) (by rfl) r rfl
def Ey(fr:Fr)(z:List T)(r:List (Nat×Nat×aP)):Option T:=
 if(r.all fun p=>(cellsOf (rd fr p.2.2)).length=p.2.1&&noTup (rd fr p.2.2))=true then(kg z (r.map fun p=>(p.1,cellsOf (rd fr p.2.2)))).map .agg else none
theorem abn{z:List T}{r:List (Nat×Nat×aP)}(D:d<n):ai E call n (⟨some d,.build z r,none⟩::os) ⟨fr,lh,sh⟩=(Ey fr z r).bind fun v=>ai E call n os ⟨cL fr d v,lh,sh⟩:=by
 refine dm (d:=some d) (by rfl) D ?_
 unfold one Ey
 simp only[bt]
 split
 ·exact iK
 ·rfl
def sH(fr:Fr)(x:T)(l h:Option aP):Option T:=
 match x with
 | .s r=>match dx (rd fr) 0 l,dx (rd fr) r.length h with
   |some l,some h=>if l≤h∧h≤r.length then some (.s ((r.drop l).take (h-l)))else none
   |_,_=>none
 |_=>none
theorem avw{x:aP}{l h:Option aP}(H:d<n):ai E call n (⟨some d,.slS x l h,none⟩::os) ⟨fr,lh,sh⟩=(sH fr (rd fr x) l h).bind fun v=>ai E call n os ⟨cL fr d v,lh,sh⟩:=by
 refine dm (d:=some d) (by rfl) H ?_
 unfold one sH
 simp only[bt]
 cases hx:rd fr x <;> try rfl
 rename_i r
 simp only[]
 cases h1:dx (rd fr) 0 l <;> cases h2:dx (rd fr) r.length h <;> try rfl
 rename_i a b
 simp only[Bool.and_eq_true,decide_eq_true_eq]
 by_cases D:a≤b∧b≤r.length
 ·simp only[if_pos D];rfl
 ·simp only[if_neg D];rfl
def faV(x:T)(off:Nat):Option T:=
 match x with
 | .vp cs=>if off≤cs.length then some (.vp (cs.drop off))else none
 | .ptr sp k g o=>some (.ptr sp k g (o+off))
 |_=>none
theorem aBI{x:aP}{off:Nat}(r:d<n):ai E call n (⟨some d,.fa x off,none⟩::os) ⟨fr,lh,sh⟩=(faV (rd fr x) off).bind fun v=>ai E call n os ⟨cL fr d v,lh,sh⟩:=by
 refine dm (d:=some d) (by rfl) r ?_
 unfold one faV
 simp only[bt]
 cases hx:rd fr x <;> try rfl
 rename_i cs
 simp only[]
 split <;> rfl
def abo(x:T)(off n:Nat)(r:Bool):Option T:=match x with| .agg cs=>part cs off n r|_=>none
theorem avy{x:aP}{off m:Nat}{r:Bool}(D:d<n):ai E call n (⟨some d,.fld x off m r,none⟩::os) ⟨fr,lh,sh⟩=(abo (rd fr x) off m r).bind fun v=>ai E call n os ⟨cL fr d v,lh,sh⟩:=by
 refine dm (d:=some d) (by rfl) D ?_
 unfold one abo
 simp only[bt]
 cases hx:rd fr x <;> try rfl
 exact iK
def iaV(x r:T)(sz:Nat):Option T:=
 match asNat r,x with
 |some j,.sl cs len _=>if j<len∧(j+1)*sz≤cs.length then some (.vp (cs.drop (j*sz)))else none
 |some j,.isl sp k g off len D=>if j<len∧D=sz then some (.ptr sp k g (off+j*sz))else none
 |_,_=>none
theorem aBJ{x r:aP}{sz:Nat}(D:d<n):ai E call n (⟨some d,.ia x r sz,none⟩::os) ⟨fr,lh,sh⟩=(iaV (rd fr x) (rd fr r) sz).bind fun v=>ai E call n os ⟨cL fr d v,lh,sh⟩:=by
 refine dm (d:=some d) (by rfl) D ?_
 unfold one iaV
 simp only[bt]
 cases h1:asNat (rd fr r)with
 |none=>rfl
 |some j=>
  cases hx:rd fr x <;> try rfl
  ·simp only[Bool.and_eq_true,decide_eq_true_eq];split <;> rfl
  ·simp only[Bool.and_eq_true,decide_eq_true_eq];split <;> rfl
def eI(x r:T)(len sz:Nat):Option T:=
 match asNat r,x with
 |some j,.vp cs=>if j<len∧(j+1)*sz≤cs.length then some (.vp (cs.drop (j*sz)))else none
 |some j,.ptr sp k g off=>if j<len then some (.ptr sp k g (off+j*sz))else none
 |_,_=>none
theorem avz{x r:aP}{len sz:Nat}(D:d<n):ai E call n (⟨some d,.iaA x r len sz,none⟩::os) ⟨fr,lh,sh⟩=(eI (rd fr x) (rd fr r) len sz).bind fun v=>ai E call n os ⟨cL fr d v,lh,sh⟩:=by
 refine dm (d:=some d) (by rfl) D ?_
 unfold one eI
 simp only[bt]
 cases h1:asNat (rd fr r)with
 |none=>rfl
 |some j=>
  cases hx:rd fr x <;> try rfl
  ·simp only[Bool.and_eq_true,decide_eq_true_eq];split <;> rfl
  ·simp only[];split <;> rfl
def B7(x r:T):Option T:=
 match asNat r,x with
 |some j,.s D=>D[j]?.map fun c=> .i .u8 c
 |_,_=>none
theorem avA{x r:aP}(D:d<n):ai E call n (⟨some d,.ixS x r,none⟩::os) ⟨fr,lh,sh⟩=(B7 (rd fr x) (rd fr r)).bind fun v=>ai E call n os ⟨cL fr d v,lh,sh⟩:=by
 refine dm (d:=some d) (by rfl) D ?_
 unfold one B7
 simp only[bt]
 cases h1:asNat (rd fr r)with
 |none=>rfl
 |some j=>
  cases hx:rd fr x <;> try rfl
  rename_i H
  simp only[]
  cases I:H[j]? <;> rfl
def abp(x r:T)(len sz:Nat)(D:Bool):Option T:=
 match asNat r,x with
 |some j,.agg cs=>if j<len then part cs (j*sz) sz D else none
 |_,_=>none
theorem avB{x r:aP}{len sz:Nat}{D:Bool}(H:d<n):ai E call n (⟨some d,.ixA x r len sz D,none⟩::os) ⟨fr,lh,sh⟩=(abp (rd fr x) (rd fr r) len sz D).bind fun v=>ai E call n os ⟨cL fr d v,lh,sh⟩:=by
 refine dm (d:=some d) (by rfl) H ?_
 unfold one abp
 simp only[bt]
 cases h1:asNat (rd fr r)with
 |none=>rfl
 |some j=>
  cases hx:rd fr x <;> try rfl
  simp only[]
  split
  ·exact iK
  ·rfl
def abq(x:T)(j:Nat):Option T:=match x with| .tup vs=>vs[j]? |_=>none
theorem avC{x:aP}{j:Nat}(r:d<n):ai E call n (⟨some d,.ext x j,none⟩::os) ⟨fr,lh,sh⟩=(abq (rd fr x) j).bind fun v=>ai E call n os ⟨cL fr d v,lh,sh⟩:=by
 refine dm (d:=some d) (by rfl) r ?_
 unfold one abq
 simp only[bt]
 cases hx:rd fr x <;> try rfl
 exact iK
def Nd(x:T):Option T:=match x with| .s bs=>some (.i .i64 bs.length)|_=>none
theorem ajU{x:aP}(r:d<n):ai E call n (⟨some d,.lenS x,none⟩::os) ⟨fr,lh,sh⟩=(Nd (rd fr x)).bind fun v=>ai E call n os ⟨cL fr d v,lh,sh⟩:=by
 refine dm (d:=some d) (by rfl) r ?_
 unfold one Nd
 simp only[bt]
 cases hx:rd fr x <;> rfl
theorem ajV{x:aP}(r:d<n):ai E call n (⟨some d,.lenV x,none⟩::os) ⟨fr,lh,sh⟩=((kH (rd fr x)).map fun m=>T.i .i64 m).bind fun v=>ai E call n os ⟨cL fr d v,lh,sh⟩:=
 dm (d:=some d) (by rfl) r iK
theorem ajW{m:Nat}(r:d<n):ai E call n (⟨some d,.lenC m,none⟩::os) ⟨fr,lh,sh⟩=ai E call n os ⟨cL fr d (.i .i64 m),lh,sh⟩:=
 dm (d:=some d) (v:=some _) (by rfl) r rfl
def mmV(r:Bool)(l:List T):Option T:=match l with|x::rest=>gb r x rest| []=>none
theorem aBK{r:Bool}{args:List aP}(H:d<n):ai E call n (⟨some d,.mm r args,none⟩::os) ⟨fr,lh,sh⟩=(mmV r (args.map (rd fr))).bind fun v=>ai E call n os ⟨cL fr d v,lh,sh⟩:=by
 refine dm (d:=some d) (by rfl) H ?_
 unfold one mmV
 simp only[bt]
 cases hx:args.map (rd fr)with
 |nil=>rfl
 |cons x D=>exact iK
def Ez(x:T):Option T:=match x with| .vp cs=>some (.vp cs)| .ptr sp k g off=>some (.ptr sp k g off)| .fn f a c=>some (.fn f a c)|_=>none
theorem Nf{x:aP}:one fr lh sh d (.nck x)=(Ez (rd fr x)).map fun v=>(v,[]):=by
 unfold one Ez
 simp only[bt]
 cases hx:rd fr x <;> rfl
theorem avE{x:aP}(r:d<n):ai E call n (⟨some d,.nck x,none⟩::os) ⟨fr,lh,sh⟩=(Ez (rd fr x)).bind fun v=>ai E call n os ⟨cL fr d v,lh,sh⟩:=
 dm (d:=some d) (by rfl) r Nf
theorem ajX{x:aP}:ai E call n (⟨none,.nck x,none⟩::os) ⟨fr,lh,sh⟩=(Ez (rd fr x)).bind fun v=>ai E call n os ⟨fr,lh,sh⟩:=
 dm (d:=none) (by rfl) trivial Nf
def ldE(e:ah)(g off m:Nat)(r:Bool):Option T:=
 match e with
 |⟨D,.cells cs _ _⟩=>if D=g then part cs off m r else none
 |_=>none
theorem PX{g r off m H:Nat}{D bx:Bool}{cs:List T}:ldE ⟨r,.cells cs H bx⟩ g off m D=if r=g then part cs off m D else none:=rfl
def ZU(lh:aE ah)(sh:List ah)(x:T)(m:Nat)(r:Bool):Option T:=
 match x with
 | .vp cs=>part cs 0 m r
 | .ptr .L k g off=>ldE (ab lh k) g off m r
 | .ptr .S k g off=>ldE (aI sh k) g off m r
 |_=>none
theorem U4{α:Type}{o:Option α}{h:Sp→Nat→ah}{nx:Nat}:(Q.of o).run h nx=o:=by cases o <;> rfl
theorem ldQ{h:Sp→Nat→ah}{nx g off m:Nat}{r:Bool}(e:ah):Q.run h nx (if e.g=g then(match e.ob with| .cells cs _ _=>Q.of (part cs off m r)|_=> .fail)else .fail)=ldE e g off m r:=by
 obtain⟨H,ob⟩:=e
 unfold ldE
 by_cases D:H=g
 ·cases ob <;> simp only[D,if_true] <;> first|rfl|exact U4
 ·cases ob <;> simp only[D,if_false] <;> rfl
theorem Ng{x:T}{m:Nat}{r:Bool}:(D6 x m r).run (St.mk fr lh sh).get sh.length=ZU lh sh x m r:=by
 unfold D6 ZU
 cases x <;> try rfl
 ·exact U4
 ·rename_i sp k g off
  cases sp
  ·exact ldQ (ab lh k)
  ·exact ldQ (aI sh k)
theorem bp{α β:Type}{h:Sp→Nat→ah}{nx:Nat}{f:α→Q β}: ∀(q:Q α),(q.bind f).run h nx=(q.run h nx).bind fun a=>(f a).run h nx
 | .ret a=>rfl
 | .fail=>rfl
 | .rd sp k g=>bp (g (h sp k))
 | .new g=>bp (g nx)
theorem aBL{x:aP}{m:Nat}{r:Bool}(D:d<n):ai E call n (⟨some d,.ld x m r,none⟩::os) ⟨fr,lh,sh⟩=(ZU lh sh (rd fr x) m r).bind fun v=>ai E call n os ⟨cL fr d v,lh,sh⟩:=by
 refine dm (d:=some d) (by rfl) D ?_
 unfold one
 simp only[bt,bp,Ng]
 cases ZU lh sh (rd fr x) m r <;> rfl
theorem abr{z:List T}(r:d<n):ai E call n (⟨some d,.alloc z false,none⟩::os) ⟨fr,lh,sh⟩=ai E call n os ⟨cL fr d (.ptr .L d ((ab lh d).g+1) 0),iR lh d ⟨(ab lh d).g+1,.cells z 0 true⟩,sh⟩:=by
 rw[ko (by rfl) (show B6 n (some d)from r)];rfl
theorem avF{x:aP}(r:d<n)(D:noTup (rd fr x)=true):ai E call n (⟨some d,.box x false,none⟩::os) ⟨fr,lh,sh⟩=ai E call n os ⟨cL fr d (.ptr .L d ((ab lh d).g+1) 0),iR lh d ⟨(ab lh d).g+1,.cells (cellsOf (rd fr x)) 0 true⟩,sh⟩:=by
 rw[ko (by rfl) (show B6 n (some d)from r)]
 unfold one
 simp only[bt,D]
 rfl
theorem abt(r:d<n):ai E call n (⟨some d,.mkmap false,none⟩::os) ⟨fr,lh,sh⟩=ai E call n os ⟨cL fr d (.mp .L d ((ab lh d).g+1)),iR lh d ⟨(ab lh d).g+1,.map [] [] false⟩,sh⟩:=by
 rw[ko (by rfl) (show B6 n (some d)from r)];rfl
def KW(x:T)(bytes:Nat):Option Nat:=match asNat x with|some m=>if m*bytes≤roomy∧m≤roomy then some m else none|none=>none
theorem ajZ{z:List T}{bytes:Nat}{x:aP}(r:d<n):ai E call n (⟨some d,.mksl z bytes x false,none⟩::os) ⟨fr,lh,sh⟩=
  (KW (rd fr x) bytes).bind fun m=>ai E call n os ⟨cL fr d (.isl .L d ((ab lh d).g+1) 0 m z.length),iR lh d ⟨(ab lh d).g+1,.cells (repl z m) 0 (RG z)⟩,sh⟩:=by
 rw[ko (by rfl) (show B6 n (some d)from r)]
 unfold one KW
 simp only[bt]
 cases asNat (rd fr x)with
 |none=>rfl
 |some m=>
  simp only[Bool.and_eq_true,decide_eq_true_eq]
  split <;> rfl
end
end Go.Ev
namespace Go.Ev
open Go
def froz1:T→Bool
 | .b _| .i .. | .s _| .nilsl| .sl .. | .nilptr| .vp _| .nilmp| .vm .. | .nilfn=>true
 |_=>false
def froz:T→Bool
 | .agg cs=>cs.all froz1
 | .tup cs=>cs.all froz1
 | .fn _ a c=>a.all froz1&&c.all froz1
 |t=>froz1 t
theorem qc{keep:Bool}{n:Nat}{t:T}(h:froz1 t=true):fz keep (n+1) t= .ret (t,[]):=by
 cases t <;> first|rfl|(simp[froz1]at h)
theorem gY{keep:Bool}{n:Nat}: ∀(ts:List T),ts.all froz1=true→bf (fz keep (n+1)) ts= .ret (ts,[])
 | [],_=>rfl
 |t::ts,h=>by
  simp_all[List.all_cons,Bool.and_eq_true,bf,qc,gY,Q.bind,List.append_nil]
theorem EA{keep:Bool}{n:Nat}{cs:List T}:fz keep (n+1) (.agg cs)=(bf (fz keep n) cs).bind fun q=> .ret (.agg q.1,q.2):=rfl
theorem KX{keep:Bool}{n:Nat}{cs:List T}:fz keep (n+1) (.tup cs)=(bf (fz keep n) cs).bind fun q=> .ret (.tup q.1,q.2):=rfl
theorem ahh{keep:Bool}{n f:Nat}{a c:List T}:fz keep (n+1) (.fn f a c)=(bf (fz keep n) a).bind fun p=>(bf (fz keep n) c).bind fun q=> .ret (.fn f p.1 q.1,p.2++q.2):=rfl
theorem jv{keep:Bool}{n:Nat}{t:T}(h:froz t=true):fz keep (n+2) t= .ret (t,[]):=by
 cases t with
 |agg cs=>simp only[froz]at h;rw[EA,gY cs h];rfl
 |tup cs=>simp only[froz]at h;rw[KX,gY cs h];rfl
 |fn f a c=>simp only[froz,Bool.and_eq_true]at h;rw[ahh,gY a h.1,gY c h.2];rfl
 |_=>exact qc h
def fzV(lh:aE ah)(sh:List ah)(keep:Bool)(v:T):Option (T×List Up):=(fz keep aJ v).run (St.mk .nil lh sh).get sh.length
def yn(lh:aE ah)(sh:List ah)(keep:Bool)(r:List T):Option (List T×List Up):=(bf (fz keep aJ) r).run (St.mk .nil lh sh).get sh.length
section
variable{lh:aE ah}{sh:List ah}{keep:Bool}
theorem qd{v:T}(h:froz v=true):fzV lh sh keep v=some (v,[]):=by
 unfold fzV aJ;rw[jv h];rfl
theorem EB:yn lh sh keep []=some ([],[]):=rfl
theorem np{v:T}{r:List T}:yn lh sh keep (v::r)=(fzV lh sh keep v).bind fun p=>(yn lh sh keep r).bind fun q=>some (p.1::q.1,p.2++q.2):=by
 unfold yn fzV
 rw[bf,bp]
 congr 1
 funext p
 rw[bp]
 rfl
theorem uC{r:List T}(h:r.all froz=true):yn lh sh keep r=some (r,[]):=by
 induction r with
 |nil=>rfl
 |cons v r ih=>
  simp_all[List.all_cons,Bool.and_eq_true,np,qd]
def U5(m:Nat)(lh:aE ah)(sh:List ah)(k:Nat)(e:ah)(g off len sz:Nat):Option (T×List Up):=
 match e with
 |⟨r,.cells cs _ false⟩=>if r=g∧off+len*sz≤cs.length then some (.sl ((cs.drop off).take (len*sz)) len false,[(.L,k,⟨g,.cells cs cs.length false⟩)])else none
 |⟨r,.cells cs _ true⟩=>if r=g∧off+len*sz≤cs.length then((bf (fz false m) ((cs.drop off).take (len*sz))).run (St.mk .nil lh sh).get sh.length).map fun q=>(.sl q.1 len false,q.2++ [(.L,k,⟨g,.cells cs cs.length true⟩)])else none
 |_=>none
theorem avG{m k g off len sz:Nat}(e:ah):Q.run (St.mk .nil lh sh).get sh.length (if e.g=g then(match e.ob with
        | .cells cs _ false=>if off+len*sz≤cs.length then .ret (T.sl ((cs.drop off).take (len*sz)) len false,[(Sp.L,k,(⟨g,.cells cs cs.length false⟩:ah))])else .fail
        | .cells cs _ true=>if off+len*sz≤cs.length then(bf (fz false m) ((cs.drop off).take (len*sz))).bind fun q=> .ret (T.sl q.1 len false,q.2++ [(Sp.L,k,(⟨g,.cells cs cs.length true⟩:ah))])else .fail
        |_=> .fail)else .fail)=U5 m lh sh k e g off len sz:=by
 obtain⟨H,ob⟩:=e
 unfold U5
 by_cases r:H=g
 ·cases ob with
  |cells cs I bx=>
   cases bx
   ·grind [Q.run]
   ·by_cases D:off+len*sz≤cs.length
    ·simp only[r,D,if_true,and_self,bp]
     cases (bf (fz false m) ((cs.drop off).take (len*sz))).run (St.mk .nil lh sh).get sh.length <;> rfl
    ·simp[r,D,Q.run]
  |_=>simp[r,Q.run]
 grind [Q.run]
theorem Nh{k g off len sz:Nat}:fzV lh sh keep (.isl .L k g off len sz)=U5 7 lh sh k (ab lh k) g off len sz:=by
 cases keep <;> exact avG (ab lh k)
def mpV(k:Nat)(e:ah)(g:Nat):Option (T×List Up):=
 match e with
 |⟨D,.map ks r _⟩=>if D=g then some (.vm ks r,[(.L,k,⟨g,.map ks r true⟩)])else none
 |_=>none
theorem mpQ{h:Sp→Nat→ah}{nx k g:Nat}(e:ah):Q.run h nx (if e.g=g then(match e.ob with
        | .map ks r _=> .ret (T.vm ks r,[(Sp.L,k,(⟨g,.map ks r true⟩:ah))])
        |_=> .fail)else .fail)=mpV k e g:=by
 obtain⟨D,ob⟩:=e
 unfold mpV
 grind [Q.run]
theorem aj0{k g:Nat}:fzV lh sh keep (.mp .L k g)=mpV k (ab lh k) g:=by
 cases keep <;> exact mpQ (ab lh k)
theorem PY{k g off len sz:Nat}:fzV lh sh true (.isl .S k g off len sz)=some (.isl .S k g off len sz,[]):=rfl
theorem PZ{k g off:Nat}:fzV lh sh true (.ptr .S k g off)=some (.ptr .S k g off,[]):=rfl
theorem P0{k g:Nat}:fzV lh sh true (.mp .S k g)=some (.mp .S k g,[]):=rfl
theorem abu{cs:List T}:fzV lh sh keep (.agg cs)=((bf (fz keep 7) cs).run (St.mk .nil lh sh).get sh.length).map fun q=>(.agg q.1,q.2):=by
 unfold fzV aJ
 rw[EA,bp]
 cases (bf (fz keep 7) cs).run (St.mk .nil lh sh).get sh.length <;> rfl
theorem abv{cs:List T}:fzV lh sh keep (.tup cs)=((bf (fz keep 7) cs).run (St.mk .nil lh sh).get sh.length).map fun q=>(.tup q.1,q.2):=by
 unfold fzV aJ
 rw[KX,bp]
 cases (bf (fz keep 7) cs).run (St.mk .nil lh sh).get sh.length <;> rfl
end
section
variable{E:Env}{call:jB}{n:Nat}{fr:Fr}{lh:aE ah}{sh:List ah}{os:List aF}{d:Nat}
theorem lE:(St.mk fr lh sh).get=(St.mk .nil lh sh).get:=by funext sp k;cases sp <;> rfl
theorem lb: ∀(us:List Up) (lh:aE ah) (sh:List ah),(St.mk fr lh sh).ups us={(St.mk .nil lh sh).ups us with fr:=fr}
 | [],lh,sh=>rfl
 |(.L,k,e)::us,lh,sh=>lb us (iR lh k e) sh
 |(.S,k,e)::us,lh,sh=>lb us lh (bD sh k e)
def stV(lh:aE ah)(sh:List ah)(x v:T)(m:Nat):Option (aE ah×List ah):=
 match(mY x v m).run (St.mk .nil lh sh).get sh.length with
 |some (.val _ us)=>some (((St.mk .nil lh sh).ups us).lh,((St.mk .nil lh sh).ups us).sh)
 |none=>none
theorem aBM{x v:aP}{m:Nat}:ai E call n (⟨none,.st x v m,none⟩::os) ⟨fr,lh,sh⟩=(stV lh sh (rd fr x) (rd fr v) m).bind fun r=>ai E call n os ⟨fr,r.1,r.2⟩:=by
 rw[ko (by rfl) (show B6 n none from trivial)]
 grind [one,stV,bt,lE,rG,kl,lb]
def EC(lh:aE ah)(sh:List ah)(k:Nat)(e:ah)(g off:Nat)(v:T)(m:Nat):Option (aE ah×List ah):=
 match e with
 |⟨D,.cells cs r true⟩=>if D=g∧(cellsOf v).length=m∧noTup v=true∧r≤off∧off+m≤cs.length then some (iR lh k ⟨g,.cells (splice cs off (cellsOf v)) r true⟩,sh)else none
 |⟨D,.cells cs r false⟩=>if D=g∧(cellsOf v).length=m∧noTup v=true∧r≤off∧off+m≤cs.length then
    (fzV lh sh false v).bind fun p=>if jh p.2 .L k=true∨noTup p.1=false∨(cellsOf p.1).length≠m then none else some (((St.mk .nil lh sh).ups (p.2++ [(.L,k,⟨g,.cells (splice cs off (cellsOf p.1)) r false⟩)])).lh,((St.mk .nil lh sh).ups (p.2++ [(.L,k,⟨g,.cells (splice cs off (cellsOf p.1)) r false⟩)])).sh)
  else none
 |_=>none
def gp(lh:aE ah)(sh:List ah):Option zF→Option (aE ah×List ah)
 |some (.val _ us)=>some (((St.mk .nil lh sh).ups us).lh,((St.mk .nil lh sh).ups us).sh)
 |none=>none
def abw(k g off m:Nat)(v:T)(e:ah):Q zF:=if e.g=g then match e.ob with
     | .cells cs r bx=>if r≤off&&off+m≤cs.length then
         (if bx&&Sp.L== .L then .ret (.val aO [(Sp.L,k,⟨g,.cells (splice cs off (cellsOf v)) r bx⟩)])
         else(fz (bx&&Sp.L== .S) aJ v).bind fun p=>if jh p.2 .L k|| !noTup p.1||(cellsOf p.1).length≠m then .fail else .ret (.val aO (p.2++ [(Sp.L,k,⟨g,.cells (splice cs off (cellsOf p.1)) r bx⟩)])))
       else .fail
     |_=> .fail
    else .fail
theorem stQ{k g off m:Nat}{v:T}(e:ah)(h1:(cellsOf v).length=m)(h2:noTup v=true):gp lh sh (Q.run (St.mk .nil lh sh).get sh.length (abw k g off m v e))=EC lh sh k e g off v m:=by
 obtain⟨I,ob⟩:=e
 unfold EC abw
 by_cases J:I=g
 ·subst J
  cases ob with
  |none=>simp[Q.run,gp]
  |map ks K z=>simp[Q.run,gp]
  |cells cs r bx=>
   by_cases D:r≤off∧off+m≤cs.length
   ·cases bx with
    |true=>grind [Q.run,ahg,yu,gp]
    |false=>
     have H:(decide (r≤off)&&decide (off+m≤cs.length))=true:=by simp[D.1,D.2]
     simp only[if_true,H,Bool.false_and,Bool.false_eq_true,if_false,bp]
     rw[if_pos (show True∧(cellsOf v).length=m∧noTup v=true∧r≤off∧off+m≤cs.length from⟨trivial,h1,h2,D⟩)]
     show gp lh sh (Option.bind (fzV lh sh false v) _)=_
     cases N:fzV lh sh false v with
     |none=>rfl
     |some p=>
      simp only[Option.bind_some]
      by_cases O:(jh p.2 .L k=true∨noTup p.1=false∨(cellsOf p.1).length≠m)
      ·grind [Q.run,gp]
      simp_all[Bool.false_eq_true,Q.run,gp,Classical.byContradiction]
   grind [Bool.false_eq_true,Q.run,gp]
 grind [Q.run,gp]
theorem avI{k g off m:Nat}{v:T}:stV lh sh (.ptr .L k g off) v m=EC lh sh k (ab lh k) g off v m:=by
 by_cases h1:(cellsOf v).length=m
 ·cases h2:noTup v with
  |false=>
   unfold stV mY
   have:(decide ((cellsOf v).length≠m)|| !noTup v)=true:=by simp[h2]
   simp only[this,if_true,Q.run]
   unfold EC
   grind
  |true=>
   unfold stV mY
   have:(decide ((cellsOf v).length≠m)|| !noTup v)=false:=by simp[h1,h2]
   simp only[this,Bool.false_eq_true,if_false]
   exact stQ (ab lh k) h1 h2
 ·unfold stV mY
  have:(decide ((cellsOf v).length≠m)|| !noTup v)=true:=by simp[h1]
  simp only[this,if_true,Q.run]
  unfold EC
  grind
theorem abx{k g D off m r:Nat}{cs:List T}{v:T}:EC lh sh k ⟨D,.cells cs r true⟩ g off v m=if D=g∧(cellsOf v).length=m∧noTup v=true∧r≤off∧off+m≤cs.length then some (iR lh k ⟨g,.cells (splice cs off (cellsOf v)) r true⟩,sh)else none:=rfl
theorem aby{k g D off m r:Nat}{cs:List T}{v:T}(H:froz v=true):EC lh sh k ⟨D,.cells cs r false⟩ g off v m=if D=g∧(cellsOf v).length=m∧noTup v=true∧r≤off∧off+m≤cs.length then some (iR lh k ⟨g,.cells (splice cs off (cellsOf v)) r false⟩,sh)else none:=by
 unfold EC
 simp only[qd H,Option.bind_some,jh,List.any_nil,Bool.false_eq_true,false_or]
 by_cases h:D=g∧(cellsOf v).length=m∧noTup v=true∧r≤off∧off+m≤cs.length
 ·rw[if_pos h,if_pos h,if_neg (by rintro(hc|hc) <;> simp_all)]
  rfl
 ·grind
def slC(lh:aE ah)(sh:List ah)(sz:Nat)(x:T):Option (Nat×List T):=(cp sz x).run (St.mk .nil lh sh).get sh.length
theorem abz{sz:Nat}:slC lh sh sz .nilsl=some (0,[]):=rfl
theorem ED{sz len:Nat}{cs:List T}{ex:Bool}:slC lh sh sz (.sl cs len ex)=if cs.length=len*sz then some (len,cs)else none:=by
 unfold slC cp;simp only[];split <;> rfl
theorem avJ{l:List Nat}:slC lh sh 1 (.s l)=some (l.length,l.map fun(n:Nat)=>T.i .u8 (n:Int)):=rfl
def slE(sz:Nat)(e:ah)(g off len:Nat):Option (Nat×List T):=
 match e with
 |⟨r,.cells cs _ false⟩=>if r=g∧off+len*sz≤cs.length then some (len,(cs.drop off).take (len*sz))else none
 |_=>none
theorem slQ{h:Sp→Nat→ah}{nx sz g off len:Nat}(e:ah):Q.run h nx (if e.g=g then(match e.ob with
        | .cells cs _ false=>if off+len*sz≤cs.length then .ret (len,(cs.drop off).take (len*sz))else .fail
        |_=> .fail)
   else .fail)=slE sz e g off len:=by
 obtain⟨r,ob⟩:=e
 unfold slE
 grind [Q.run]
theorem Ni{sz r k g off len:Nat}:slC lh sh sz (.isl .L k g off len r)=if r=sz then slE sz (ab lh k) g off len else none:=by
 unfold slC cp
 simp only[]
 by_cases hs:r=sz
 ·simp only[if_pos hs]
  exact slQ (ab lh k)
 ·simp only[if_neg hs];rfl
def P1(lh:aE ah)(k:Nat)(e:ah)(g off len sz r bytes:Nat)(p:Nat×List T):Option (T×aE ah):=
 match e with
 |⟨D,.cells cs H false⟩=>if r=sz∧off=0∧(len+p.1)*bytes≤roomy∧D=g∧len*sz=cs.length then some (.isl .L k (g+1) 0 (len+p.1) sz,iR lh k ⟨g+1,.cells (cs++p.2) H false⟩)else none
 |_=>none
def At(lh:aE ah)(d sz bytes:Nat)(s:T)(p:Nat×List T):Option (T×aE ah):=
 if p.1=0 then(match s with| .nilsl| .sl .. | .isl .. =>some (s,lh)|_=>none)else
 match s with
 | .nilsl=>if p.1*bytes≤roomy then some (.isl .L d ((ab lh d).g+1) 0 p.1 sz,iR lh d ⟨(ab lh d).g+1,.cells p.2 0 false⟩)else none
 | .sl cs len true=>if cs.length=len*sz∧(len+p.1)*bytes≤roomy then some (.isl .L d ((ab lh d).g+1) 0 (len+p.1) sz,iR lh d ⟨(ab lh d).g+1,.cells (cs++p.2) 0 false⟩)else none
 | .isl .L k g off len r=>P1 lh k (ab lh k) g off len sz r bytes p
 |_=>none
def ahi(k g off len sz D bytes:Nat)(p:Nat×List T)(e:ah):Q zF:=
     if e.g=g then match e.ob with
      | .cells cs r false=>if len*sz=cs.length then .ret (.val (.isl .L k (g+1) 0 (len+p.1) sz) [(.L,k,⟨g+1,.cells (cs++p.2) r false⟩)])else .fail
      |_=> .fail
     else .fail
theorem aBN{k g off len sz D bytes:Nat}{p:Nat×List T}(e:ah)(h1:D=sz∧off=0∧(len+p.1)*bytes≤roomy):
  ((kl (Q.run (St.mk .nil lh sh).get sh.length (ahi k g off len sz D bytes p e))).bind fun r=>ai E call n os {(St.mk fr lh sh).ups r.2 with fr:=cL fr d r.1})=
    (P1 lh k e g off len sz D bytes p).bind fun q=>ai E call n os ⟨cL fr d q.1,q.2,sh⟩:=by
 obtain⟨H,ob⟩:=e
 unfold ahi P1
 by_cases I:H=g
 ·cases ob with
  |cells cs K bx=>
   cases bx
   ·by_cases J:len*sz=cs.length
    ·simp only[I,J,if_true,Q.run,kl,h1,and_self,Option.bind_some]
     rfl
    ·grind [Q.run,kl]
   ·grind [Q.run,kl]
  |_=>grind [Q.run,kl]
 grind [Q.run,kl]
theorem avK{sz bytes:Nat}{s x:aP}(D:d<n)(hs: ∀k g off len sz,rd fr s≠ .isl .S k g off len sz):ai E call n (⟨some d,.app sz bytes s x false false,none⟩::os) ⟨fr,lh,sh⟩=
  (slC lh sh sz (rd fr x)).bind fun p=>(At lh d sz bytes (rd fr s) p).bind fun q=>ai E call n os ⟨cL fr d q.1,q.2,sh⟩:=by
 rw[ko (by rfl) (show B6 n (some d)from D)]
 unfold one slC
 simp only[bt,jA,bp,lE]
 cases hx:(cp sz (rd fr x)).run (St.mk .nil lh sh).get sh.length with
 |none=>rfl
 |some p=>
  simp only[Option.bind_some]
  unfold At
  by_cases r:p.1=0
  ·simp only[if_pos r]
   cases P2:rd fr s <;> rfl
  ·simp only[if_neg r]
   cases P2:rd fr s <;> try rfl
   ·simp only[]
    split <;> rfl
   ·rename_i cs len ex
    cases ex
    ·rfl
    ·simp only[Bool.and_eq_true,decide_eq_true_eq]
     split <;> rfl
   ·rename_i sp k g off len H
    cases sp
    ·simp only[Bool.and_eq_true,decide_eq_true_eq]
     by_cases h1:(H=sz∧off=0)∧(len+p.1)*bytes≤roomy
     ·simp only[if_pos h1]
      exact aBN (ab lh k) ⟨h1.1.1,h1.1.2,h1.2⟩
     ·simp only[if_neg h1,Q.run,kl]
      unfold P1
      grind
    ·grind
def sI(sz:Nat)(x:T)(l h:Nat):Option T:=
 match x with
 | .nilsl=>if l=0∧h=0 then some .nilsl else none
 | .sl cs len ex=>if l≤h∧h≤len∧cs.length=len*sz then some (.sl ((cs.drop (l*sz)).take ((h-l)*sz)) (h-l) (ex&&decide (h=len)))else none
 | .isl sp k g off len r=>if l≤h∧h≤len∧r=sz then some (if l=h then(if sp= .S∧h=0∧off=0 then .isl sp k g 0 0 sz else .sl [] 0 false)else .isl sp k g (off+l*sz) (h-l) sz)else none
 |_=>none
def U6(fr:Fr)(sz:Nat)(x:T)(l h:Option aP):Option T:=
 (kH x).bind fun m=>(dx (rd fr) 0 l).bind fun l=>(dx (rd fr) m h).bind fun h=>sI sz x l h
theorem P3{sz l h nx:Nat}{x:T}{r:Sp→Nat→ah}:(xp sz x l h).run r nx=sI sz x l h:=by
 unfold xp sI
 cases x <;> try rfl
 ·simp only[Bool.and_eq_true,decide_eq_true_eq];split <;> rfl
 ·simp only[Bool.and_eq_true,decide_eq_true_eq,and_assoc];split <;> rfl
 ·simp only[Bool.and_eq_true,decide_eq_true_eq,and_assoc];split <;> rfl
theorem avL{sz:Nat}{x:aP}{l h:Option aP}(r:d<n):ai E call n (⟨some d,.slV sz x l h none,none⟩::os) ⟨fr,lh,sh⟩=(U6 fr sz (rd fr x) l h).bind fun v=>ai E call n os ⟨cL fr d v,lh,sh⟩:=by
 refine dm (d:=some d) (by rfl) r ?_
 unfold one U6
 simp only[bt]
 cases kH (rd fr x)with
 |none=>rfl
 |some m=>
  simp only[Option.bind_some]
  cases dx (rd fr) 0 l with
  |none=>rfl
  |some l=>
   cases dx (rd fr) m h with
   |none=>rfl
   |some h=>
    simp only[bp,P3,Option.bind_some]
    cases sI sz (rd fr x) l h <;> rfl
def lkE(e:ah)(g:Nat)(r:EK)(k z:T)(D:Bool):Option T:=
 match e with
 |⟨H,.map ks I _⟩=>if H=g then iq r ks I k z D else none
 |_=>none
def lkV(lh:aE ah)(sh:List ah)(r:EK)(m k z:T)(D:Bool):Option T:=
 match m with
 | .nilmp=>if isKey r k=true then some (if D=true then .tup [z,.b false]else z)else none
 | .vm ks H=>iq r ks H k z D
 | .mp .L kk g=>lkE (ab lh kk) g r k z D
 | .mp .S kk g=>lkE (aI sh kk) g r k z D
 |_=>none
theorem lkQ{h:Sp→Nat→ah}{nx g:Nat}{r:EK}{k z:T}{D:Bool}(e:ah):kl (Q.run h nx (if e.g=g then(match e.ob with| .map ks vs _=>val (iq r ks vs k z D)|_=> .fail)else .fail))=(lkE e g r k z D).map fun v=>(v,[]):=by
 obtain⟨I,ob⟩:=e
 unfold lkE
 by_cases H:I=g
 ·cases ob <;> simp only[H,if_true] <;> first|rfl|exact iK
 ·cases ob <;> simp only[H,if_false] <;> rfl
theorem aBO{r:EK}{m k:aP}{z:T}{D:Bool}(H:d<n):ai E call n (⟨some d,.lk r m k z D,none⟩::os) ⟨fr,lh,sh⟩=(lkV lh sh r (rd fr m) (rd fr k) z D).bind fun v=>ai E call n os ⟨cL fr d v,lh,sh⟩:=by
 refine dm (d:=some d) (by rfl) H ?_
 unfold one lkV
 simp only[bt]
 cases I:rd fr m <;> try rfl
 ·simp only[];split <;> rfl
 ·exact iK
 ·rename_i sp kk g
  cases sp
  ·exact lkQ (ab lh kk)
  ·exact lkQ (aI sh kk)
def muE(lh:aE ah)(kk:Nat)(e:ah)(g:Nat)(r:EK)(k v:T):Option (aE ah):=
 match e with
 |⟨D,.map ks H false⟩=>if D=g∧isKey r k=true then(lq r k v ks H).map fun q=>iR lh kk ⟨g,.map q.1 q.2 false⟩else none
 |_=>none
def abA(kk g:Nat)(r:EK)(k v:T)(e:ah):Q zF:=if e.g=g&&isKey r k then match e.ob with
      | .map ks D false=>(fz false aJ v).bind fun p=>match lq r k p.1 ks D with
        |some q=>if jh p.2 .L kk then .fail else .ret (.val aO (p.2++ [(.L,kk,⟨g,.map q.1 q.2 false⟩)]))
        |none=> .fail
      |_=> .fail
     else .fail
theorem muQ{kk g:Nat}{D:EK}{k v:T}(e:ah)(J:froz v=true):((kl (Q.run (St.mk fr lh sh).get sh.length (abA kk g D k v e))).bind fun r=>ai E call n os {(St.mk fr lh sh).ups r.2 with fr:=fr})=
  (muE lh kk e g D k v).bind fun aU=>ai E call n os ⟨fr,aU,sh⟩:=by
 obtain⟨I,ob⟩:=e
 unfold abA muE
 by_cases H:I=g∧isKey D k=true
 ·have:(decide (I=g)&&isKey D k)=true:=by simp[H.1,H.2]
  simp only[this,if_true]
  cases ob with
  |none=>rfl
  |cells cs N bx=>rfl
  |map ks K z=>
   cases z with
   |true=>rfl
   |false=>
    simp only[if_pos H]
    unfold aJ
    rw[jv J]
    simp only[Q.bind]
    cases lq D k v ks K with
    |none=>rfl
    |some q=>simp only[jh,List.any_nil,Bool.false_eq_true,if_false,Q.run,List.nil_append];rfl
 grind [Bool.false_eq_true,Q.run,kl]
theorem avM{r:EK}{m k v:aP}{kk g:Nat}(D:rd fr m= .mp .L kk g)(H:froz (rd fr v)=true):ai E call n (⟨none,.mu r m k v,none⟩::os) ⟨fr,lh,sh⟩=(muE lh kk (ab lh kk) g r (rd fr k) (rd fr v)).bind fun aU=>ai E call n os ⟨fr,aU,sh⟩:=by
 rw[ko (by rfl) (show B6 n none from trivial)]
 unfold one
 simp only[bt,D]
 exact muQ (ab lh kk) H
def muV(lh:aE ah)(r:EK)(m k v:T):Option (aE ah):=
 match m with
 | .mp .L kk g=>muE lh kk (ab lh kk) g r k v
 |_=>none
theorem aBP{r:EK}{m k v:aP}(H: ∀kk g,rd fr m≠ .mp .S kk g)(D:froz (rd fr v)=true):ai E call n (⟨none,.mu r m k v,none⟩::os) ⟨fr,lh,sh⟩=(muV lh r (rd fr m) (rd fr k) (rd fr v)).bind fun aU=>ai E call n os ⟨fr,aU,sh⟩:=by
 cases h:rd fr m with
 |mp sp kk g=>
  cases sp with
  |L=>rw[avM h D];rfl
  |S=>grind
 |_=>
  rw[ko (by rfl) (show B6 n none from trivial)]
  unfold one
  simp only[bt,h]
  rfl
def P4(z:List T)(len:Nat)(D:List Nat)(r:List T):Option T:=
 if(r.all fun v=>(cellsOf v).length=z.length&&noTup v)=true then(kg (repl z len) ((D.map fun i=>i*z.length).zip (r.map cellsOf))).map fun cs=> .sl cs len true else none
theorem avO{z:List T}{len:Nat}{r:List (Nat×aP)}(D:d<n):ai E call n (⟨some d,.bsl z len r,none⟩::os) ⟨fr,lh,sh⟩=
  (yn lh sh false (r.map fun p=>rd fr p.2)).bind fun q=>(P4 z len (r.map (·.1)) q.1).bind fun v=>ai E call n os {(St.mk fr lh sh).ups q.2 with fr:=cL fr d v}:=by
 rw[ko (by rfl) (show B6 n (some d)from D)]
 unfold one yn P4
 simp only[bt,bp,lE]
 cases (bf (fz false aJ) (r.map fun p=>rd fr p.2)).run (St.mk .nil lh sh).get sh.length with
 |none=>rfl
 |some q=>
  simp only[Option.bind_some]
  have e:(r.map (·.1)).map (fun i=>i*z.length)=r.map fun p=>p.1*z.length:=by rw[List.map_map];rfl
  rw[e]
  split
  ·cases kg (repl z len) ((r.map fun p=>p.1*z.length).zip (q.1.map cellsOf)) <;> rfl
  ·rfl
theorem KY{d:Option Nat}{op:lX}{f:Nat}{args:List T}(hc:bw (rd fr) op=some (some (f,args)))(D:B6 n d):
  ai E call n (⟨d,op,none⟩::os) ⟨fr,lh,sh⟩=(br E call (d.getD 0) ⟨fr,lh,sh⟩ f args).bind fun r=>ai E call n os ⟨rG fr d r.1,r.2.lh,r.2.sh⟩:=by
 simp only[ai,bg,dh,hc]
 cases br E call (d.getD 0) ⟨fr,lh,sh⟩ f args with
 |none=>rfl
 |some r=>
  simp only[Option.bind_some]
  cases d with
  |none=>rfl
  |some d=>simp only[gf,if_pos (show d<n from D),rG,Option.map_some]
theorem aj1{f:Nat}{as:List aP}(D:d<n):ai E call n (⟨some d,.callf f as,none⟩::os) ⟨fr,lh,sh⟩=(br E call d ⟨fr,lh,sh⟩ f (as.map (rd fr))).bind fun r=>ai E call n os ⟨cL fr d r.1,r.2.lh,r.2.sh⟩:=
 KY (d:=some d) rfl D
theorem abB{f:Nat}{as:List aP}:ai E call n (⟨none,.callf f as,none⟩::os) ⟨fr,lh,sh⟩=(br E call 0 ⟨fr,lh,sh⟩ f (as.map (rd fr))).bind fun r=>ai E call n os ⟨fr,r.2.lh,r.2.sh⟩:=
 KY (d:=none) rfl trivial
def uD(E:Env)(call:jB)(d:Nat)(st:St)(f:T)(args:List T):Option (T×St):=
 match f with
 | .fn f a c=>br E call d st f (a++args++c)
 |_=>none
theorem abC{f:aP}{as:List aP}(D:d<n):ai E call n (⟨some d,.callv f as,none⟩::os) ⟨fr,lh,sh⟩=(uD E call d ⟨fr,lh,sh⟩ (rd fr f) (as.map (rd fr))).bind fun r=>ai E call n os ⟨cL fr d r.1,r.2.lh,r.2.sh⟩:=by
 unfold uD
 cases H:rd fr f with
 |fn I a c=>exact KY (d:=some d) (by simp only[bw,H]) D
 |_=>simp_all[ai,bg,dh,bw]
theorem Hq{D:Nat}{af:aj}{f:Nat}{args:List T}(H:E.fn f=some af)(I:af.eff=false)(J:af.own=none):br E call D ⟨fr,lh,sh⟩ f args=
  (yn lh sh false args).bind fun q=>(call f q.1 []).bind fun r=>some (r.1,if scalar r.1=true then⟨fr,lh,sh⟩else(St.mk fr lh sh).ups q.2):=by
 grind [br,yn,lE,Bool.false_eq_true]
theorem Hp{D:Nat}{af:aj}{f:Nat}{args:List T}(H:E.fn f=some af)(I:af.eff=false)(J:af.own=none)(K:args.all froz=true):br E call D ⟨fr,lh,sh⟩ f args=
  (call f args []).bind fun r=>some (r.1,⟨fr,lh,sh⟩):=by
 grind [Hq,uC,yu]
theorem TA{D:Nat}{af:aj}{f:Nat}{args:List T}(H:E.fn f=some af)(I:af.eff=true):br E call D ⟨fr,lh,sh⟩ f args=
  (yn lh sh true args).bind fun q=>(call f q.1 ((St.mk fr lh sh).ups q.2).sh).bind fun r=>some (r.1,{(St.mk fr lh sh).ups q.2 with sh:=r.2}):=by
 unfold br yn
 simp only[H,I,lE]
 cases (bf (fz true aJ) args).run (St.mk .nil lh sh).get sh.length with
 |none=>rfl
 |some q=>
  simp only[if_true,Option.bind_some]
  cases call f q.1 ((St.mk fr lh sh).ups q.2).sh <;> rfl
theorem U7{D:Nat}{g:List T→Option T}{f:Nat}{args:List T}(H:E.fn f=none)(I:E.ext f=some g):br E call D ⟨fr,lh,sh⟩ f args=
  (yn lh sh false args).bind fun q=>(g q.1).bind fun r=>some (r,⟨fr,lh,sh⟩):=by
 unfold br yn
 simp only[H,I,lE]
 cases (bf (fz false aJ) args).run (St.mk .nil lh sh).get sh.length with
 |none=>rfl
 |some q=>
  simp only[Option.bind_some]
  cases g q.1 <;> rfl
theorem U8{d:Option Nat}{op:lX}{j:Nat}{w:Bool}(h:aa fr j= .b w):ai E call n (⟨d,op,some (j,w)⟩::os) ⟨fr,lh,sh⟩=ai E call n (⟨d,op,none⟩::os) ⟨fr,lh,sh⟩:=by
 grind [ai,bg]
theorem Au{d:Option Nat}{op:lX}{j:Nat}{w:Bool}(r:B6 n d)(h:aa fr j= .b (!w)):ai E call n (⟨d,op,some (j,w)⟩::os) ⟨fr,lh,sh⟩=ai E call n os ⟨rG fr d aO,lh,sh⟩:=by
 simp only[ai,bg,h]
 rw[if_neg (by cases w <;> simp)]
 cases d with
 |none=>rfl
 |some d=>simp only[gf,if_pos (show d<n from r),rG,Option.map_some]
theorem Nj{d:Option Nat}{op:lX}{j:Nat}{w:Bool}(r:B6 n d)(h:aa fr j=aO):ai E call n (⟨d,op,some (j,w)⟩::os) ⟨fr,lh,sh⟩=ai E call n os ⟨rG fr d aO,lh,sh⟩:=by
 simp only[ai,bg,h,aO]
 cases d with
 |none=>rfl
 |some d=>simp only[gf,if_pos (show d<n from r),rG,Option.map_some]
theorem avP{bo:List FP}{st:St}:aK E call n [] bo st=some st:=rfl
end
section
variable{E:Env}{n:Nat}{fr:Fr}{lh:aE ah}{sh:List ah}
def ahk(t:T)(x y:Option (Out×St)):Option (Out×St):=match t with| .b c=>if c=true then x else y|_=>none
theorem U9{c:aP}{a b:ak}:DC E n (.cond c a b) ⟨fr,lh,sh⟩=ahk (rd fr c) (DC E n a ⟨fr,lh,sh⟩) (DC E n b ⟨fr,lh,sh⟩):=by
 rw[abj,dh]
 unfold ahk
 grind
theorem andThen_ite{c:Prop}[Decidable c]{x y:Option (Out×St)}{f:St→Option (Out×St)}:andThen (if c then x else y) f=if c then andThen x f else andThen y f:=by split <;> rfl
theorem P5{c:Prop}[Decidable c]{id:Nat}{x y:Option (Out×St)}:xI id (if c then x else y)=if c then xI id x else xI id y:=by split <;> rfl
theorem abD{α β:Type}{c:Prop}[Decidable c]{x y:Option α}{f:α→β}:(if c then x else y).map f=if c then x.map f else y.map f:=by split <;> rfl
theorem Va{α β:Type}{c:Prop}[Decidable c]{x y:Option α}{f:α→Option β}:(if c then x else y).bind f=if c then x.bind f else y.bind f:=by split <;> rfl
def uE(fr:Fr)(lh:aE ah)(sh:List ah):List sA→Option (List T)
 | []=>some []
 | .tmp t::rs=>(uE fr lh sh rs).map fun r=>aa fr t::r
 | .cell t m D::rs=>(ZU lh sh (aa fr t) m D).bind fun v=>(uE fr lh sh rs).map fun r=>v::r
theorem lj: ∀rs,gV ⟨fr,lh,sh⟩ rs=uE fr lh sh rs
 | []=>rfl
 | .tmp t::rs=>by
   rw[gV,uE,lj rs]
   simp only[Hw]
   cases uE fr lh sh rs <;> rfl
 | .cell t m r::rs=>by
   rw[gV,uE,lj rs]
   simp only[Hw,Ng]
   cases ZU lh sh (aa fr t) m r <;> cases uE fr lh sh rs <;> rfl
def P6(lh:aE ah)(sh:List ah)(r:Bool)(vs:List T):Option (T×List ah):=
 (fzV lh sh r (match vs with| [v]=>v|vs=> .tup vs)).map fun p=>(p.1,((St.mk .nil lh sh).ups p.2).sh)
theorem wN{r:Bool}{D:List T}:answer r D ⟨fr,lh,sh⟩=P6 lh sh r D:=by
 unfold answer P6 fzV
 grind [lE,lb]
end
theorem wO{fr r:Fr}{n:Nat}{d:Option Nat}{v:T}(h:gf fr n d v=some r){s:Nat}(hs:some s≠d):aa r s=aa fr s:=by
 cases d with
 |none=>grind [gf]
 |some d=>
  grind [gf,U2]
theorem xJ{E:Env}{call:jB}{n:Nat}{o:aF}{st H:St}(h:bg E call n o st=some H){s:Nat}(hs:some s≠o.d):aa H.fr s=aa st.fr s:=by
 have J: ∀H,(match bw st.rho o.op with
  |some (some I)=>match br E call (o.d.getD 0) st I.1 I.2 with
   |some r=>(gf st.fr n o.d r.1).map fun fr=>{r.2 with fr}
   |none=>none
  |some none=>none
  |none=>match(bt (o.d.getD 0) st.rho o.op).run st.get st.sh.length with
   |some (.val v ups)=>(gf st.fr n o.d v).map fun fr=>{st.ups ups with fr}
   |none=>none)=some H→aa H.fr s=aa st.fr s:=by
  intro H D
  split at D
  ·split at D
   ·simp only[Option.map_eq_some_iff]at D
    obtain⟨fr,h1,rfl⟩:=D
    exact wO h1 hs
   ·cases D
  ·cases D
  ·split at D
   ·simp only[Option.map_eq_some_iff]at D
    obtain⟨fr,h1,rfl⟩:=D
    exact wO h1 hs
   ·cases D
 grind [bg,Option.map_eq_some_iff,wO]
theorem oJ{E:Env}{call:jB}{n:Nat}: ∀(os:List aF) {st r:St},ai E call n os st=some r→ ∀s,s∉wz os→aa r.fr s=aa st.fr s
 | [],st,r,h,s,_=>by cases h;rfl
 |o::os,st,r,h,s,hs=>by
  simp only[ai]at h
  cases H:bg E call n o st with
  |none=>grind
  |some J=>
   simp only[H]at h
   have h1:s∉wz os:=fun D=>hs (by
    unfold wz at D ⊢
    rw[List.filterMap_cons]
    split
    ·exact D
    ·exact List.mem_cons_of_mem _ D)
   have h2:some s≠o.d:=fun I=>hs (by
    unfold wz
    rw[List.filterMap_cons]
    rw[←I]
    exact List.mem_cons_self)
   rw[oJ os h s h1,xJ H h2]
theorem xK{E:Env}{call:jB}{n:Nat}: ∀(os:List (List Nat×aF)) {bo:List FP} {st r:St},aK E call n os bo st=some r→ ∀s,s∉wz (os.map (·.2))→aa r.fr s=aa st.fr s
 | [],bo,st,r,h,s,_=>by cases h;rfl
 |(u,o)::os,bo,st,r,h,s,hs=>by
  simp only[aK]at h
  split at h
  ·cases h
  ·split at h
   ·cases H:bg E call n o st with
    |none=>grind
    |some J=>
     simp only[H]at h
     have h1:s∉wz (os.map (·.2)):=fun D=>hs (by
      unfold wz at D ⊢
      rw[List.map_cons,List.filterMap_cons]
      split
      ·exact D
      ·exact List.mem_cons_of_mem _ D)
     have h2:some s≠o.d:=fun I=>hs (by
      unfold wz
      rw[List.map_cons,List.filterMap_cons]
      rw[←I]
      exact List.mem_cons_self)
     rw[xK os h s h1,xJ H h2]
   ·cases h
theorem C6{f:St→Option (Out×St)}{s:Nat}(D: ∀st r,f st=some r→aa r.2.fr s=aa st.fr s): ∀(k:Nat) {st:St} {r:Out×St},iter f k st=some r→aa r.2.fr s=aa st.fr s
 |0,st,r,h=>by simp[iter]at h
 |k+1,st,r,h=>by
  simp only[iter]at h
  cases H:f st with
  |none=>grind
  |some p=>
   rw[H]at h
   obtain⟨o,I⟩:=p
   have h1:=D _ _ H
   cases o with
   |nrm=>rw[C6 D k h];exact h1
   |ext id=>grind
   |ret=>grind
theorem abE{ks:List Nat}{t u:St}{k:Nat}(h:k∉ks):aa (mZ ks t u).fr k=aa t.fr k:=by
 show aa (tW ks t.fr) k=_
 rw[nl,if_neg h]
theorem jG{E:Env}{call:jB}{fl n:Nat}: ∀(code:ak) {st:St} {r:Out×St},fG E call fl n code st=some r→ ∀s,s∉bX code→aa r.2.fr s=aa st.fr s
 | .skip,st,r,h,s,_=>by cases h;rfl
 | .region ops,st,r,h,s,hs=>by
   simp only[fG,Option.map_eq_some_iff]at h
   obtain⟨a,h1,rfl⟩:=h
   exact oJ ops h1 s hs
 | .draws ops,st,r,h,s,hs=>by
   simp only[fG,Option.map_eq_some_iff]at h
   obtain⟨a,h1,rfl⟩:=h
   exact xK ops h1 s hs
 | .seq a b,st,r,h,s,hs=>by
   simp only[bX,List.mem_append,not_or]at hs
   simp only[fG]at h
   cases D:fG E call fl n a st with
   |none=>grind
   |some p=>
    rw[D]at h
    obtain⟨o,I⟩:=p
    have h1:=jG a D s hs.1
    cases o with
    |nrm=>rw[jG b h s hs.2];exact h1
    |ext id=>grind
    |ret=>grind
 | .fork os BC b,st,r,h,s,hs=>by
   simp only[fG]at h
   cases h1:ai E call n os st with
   |none=>grind
   |some I=>
    cases h2:ai E call n BC st with
    |none=>grind
    |some s2=>
     rw[h1,h2]at h
     simp only[]at h
     obtain⟨o,N⟩:=r
     obtain⟨O,R,J,U,V,rfl⟩:=sF h
     have H:s∉wz os++bX b:=hs
     rw[abE H]
     simp only[List.mem_append,not_or]at H
     rw[jG b J s H.2]
     grind [oJ]
 | .cond x a b,st,r,h,s,hs=>by
   simp only[bX,List.mem_append,not_or]at hs
   simp only[fG]at h
   split at h
   ·exact jG a h s hs.1
   ·exact jG b h s hs.2
   ·cases h
 | .block id a,st,r,h,s,hs=>by
   simp only[fG]at h
   cases D:fG E call fl n a st with
   |none=>grind
   |some p=>
    rw[D]at h
    obtain⟨o,I⟩:=p
    have h1:=jG a D s hs
    grind
 | .loop a,st,r,h,s,hs=>by
   simp only[fG]at h
   exact C6 (fun st r K=>jG a K s hs) fl h
 | .exit id,st,r,h,s,_=>by cases h;rfl
 | .ret,st,r,h,s,_=>by cases h;rfl
theorem fV{E:Env}{n:Nat}{code:ak}{st r:St}{o:Out}(h:DC E n code st=some (o,r))(s:Nat)(hs:(bX code).contains s=false):aa r.fr s=aa st.fr s:=by
 obtain⟨m,D⟩:=dg.1 h
 exact jG code D s (by intro hc;simp[hc]at hs)
end Go.Ev
namespace Go.Ev
open Go
def Q.calm:Q zF→Prop
 | .ret (.val _ r)=>r= []
 | .fail=>True
 | .rd _ _ f=> ∀e,(f e).calm
 | .new _=>False
theorem Q.calm_run{h:Sp→Nat→ah}{nx:Nat}: ∀(q:Q zF),q.calm→ ∀{v:T} {r:List Up},q.run h nx=some (.val v r)→r= []∧q.asks h nx=false
 | .ret (.val _ _),hc,v,r,hr=>by simp[Q.run]at hr;obtain⟨rfl,rfl⟩:=hr;exact⟨hc,rfl⟩
 | .fail,hc,v,r,hr=>by simp[Q.run]at hr
 | .rd sp k f,hc,v,r,hr=>Q.calm_run (f (h sp k)) (hc _) hr
 | .new f,hc,v,r,hr=>hc.elim
theorem gq{o:Option T}:(val o).calm:=by cases o <;> simp[val,Q.calm]
def bZ:lX→Bool
 | .mv _| .pick .. | .bin .. | .eq .. | .un .. | .cvi .. | .b2s _| .mkfn .. | .build .. | .slS .. | .fa .. | .fld .. | .ia .. | .iaA .. | .ixS .. | .ixA .. | .ext .. | .lenS _| .lenV _| .lenC _| .mm .. | .nck _| .ld .. | .lk .. | .lenM _=>true
 | .slV _ _ _ _ none=>true
 |_=>false
theorem EE{d:Nat}{ρ:aP→T}{op:lX}(h:bZ op=true):(bt d ρ op).calm∧bw ρ op=none:=by
 refine⟨?_,by cases op <;> first|rfl|(simp[bZ]at h)⟩
 cases op with
 |mv x=>exact rfl
 |pick c a b=>grind [bt,Q.calm]
 |bin op x y=>exact gq
 |eq neg k x y=>exact gq
 |un op x=>exact gq
 |cvi k x=>grind [bt,Q.calm]
 |b2s x=>simp only[bt];repeat' split
         all_goals trivial
 |mkfn f a c=>exact rfl
 |build z J=>
  simp only[bt]
  by_cases K:(J.all fun p=>decide ((cellsOf (ρ p.2.2)).length=p.2.1)&&noTup (ρ p.2.2))=true
  ·grind [gq]
  ·rw[if_neg K];trivial
 |slS x l h=>
  grind [bt,Q.calm]
 |fa x off=>
  grind [bt,Q.calm]
 |fld x off m D=>
  simp only[bt]
  split
  ·exact gq
  ·trivial
 |ia x H sz=>
  grind [bt,Q.calm]
 |iaA x H len sz=>
  grind [bt,Q.calm]
 |ixS x H=>
  grind [bt,Q.calm]
 |ixA x H len sz D=>
  simp only[bt]
  split
  ·split
   ·exact gq
   ·trivial
  ·trivial
 |ext x j=>
  simp only[bt]
  split
  ·exact gq
  ·trivial
 |lenS x=>grind [bt,Q.calm]
 |lenV x=>exact gq
 |lenC m=>exact rfl
 |mm b as=>
  simp only[bt]
  split
  ·exact gq
  ·trivial
 |nck x=>grind [bt,Q.calm]
 |ld x m D=>
  simp only[bt,D6]
  split
  ·rename_i cs _
   cases part cs 0 m D <;> simp[Q.of,Q.bind,Q.calm]
  ·rename_i g off _
   intro e
   obtain⟨I,ob⟩:=e
   by_cases r:I=g
   ·cases ob with
    |cells cs O bx=>
     simp only[r,if_true]
     generalize part cs _ m D=o
     cases o <;> simp[Q.of,Q.bind,Q.calm]
    |_=>simp only[r,if_true];trivial
   ·simp only[r,if_false];trivial
  ·trivial
 |lk R m k z U=>
  grind [bt,Q.calm,gq]
 |lenM x=>
  simp only[bt]
  split
  ·exact rfl
  ·exact rfl
  ·rename_i g _
   intro e
   obtain⟨I,ob⟩:=e
   by_cases r:I=g
   ·cases ob with
    |map ks V z=>simp only[r,if_true];exact rfl
    |_=>simp only[r,if_true];trivial
   ·simp only[r,if_false];trivial
  ·trivial
 |slV sz x l h N=>
  cases N with
  |some m=>simp[bZ]at h
  |none=>
   simp only[bt]
   split
   ·trivial
   ·split
    ·rename_i W X _ _ _
     unfold xp
     grind [Q.bind,Q.calm]
    ·grind
    ·trivial
 |_=>simp[bZ]at h
def Calm(fp:FP):Prop:=fp.all=false∧fp.w= []
theorem Av{x y:FP}(hx:Calm x)(D:Calm y):apart x y=true:=by
 obtain⟨a,r,w⟩:=x
 obtain⟨H,I,w'⟩:=y
 obtain⟨rfl,rfl⟩:=hx
 obtain⟨rfl,rfl⟩:=D
 simp[apart,eu]
section
variable{E:Env}{call:jB}{n:Nat}
theorem abF{o:aF}{st H:St}(hc:bZ o.op=true)(hr:bg E call n o st=some H): ∃fp,bL E call o st=some fp∧Calm fp:=by
 obtain⟨J,K⟩:=EE (d:=o.d.getD 0) (ρ:=st.rho) hc
 have N: ∀H,(match(bt (o.d.getD 0) st.rho o.op).run st.get st.sh.length with
   |some (.val v ups)=>(gf st.fr n o.d v).map fun fr=>{st.ups ups with fr}
   |none=>none)=some H→ ∃fp,(match(bt (o.d.getD 0) st.rho o.op).run st.get st.sh.length with
   |some (.val _ ups)=>if((bt (o.d.getD 0) st.rho o.op).asks st.get st.sh.length||inB st ups)=true then some (⟨(bt (o.d.getD 0) st.rho o.op).asks st.get st.sh.length,(bt (o.d.getD 0) st.rho o.op).log st.get st.sh.length,cS ups⟩:FP)else none
   |none=>none)=some fp∧Calm fp:=by
  intro H h
  cases I:(bt (o.d.getD 0) st.rho o.op).run st.get st.sh.length with
  |none=>rw[I]at h;cases h
  |some r=>
   obtain⟨v,ups⟩:=r
   obtain⟨rfl,O⟩:=Q.calm_run _ J I
   refine⟨⟨false,(bt (o.d.getD 0) st.rho o.op).log st.get st.sh.length,[]⟩, ?_,rfl,rfl⟩
   simp only[O,inB,List.all_nil,Bool.or_true,if_true,cS,List.map_nil]
 unfold bg at hr
 unfold bL
 simp only[K]at hr ⊢
 cases R:o.gd with
 |none=>grind
 |some p=>
  obtain⟨j,D⟩:=p
  simp only[R]at hr ⊢
  split at hr
  ·rename_i x hx
   simp only[hx]
   by_cases U:x=D
   ·grind
   ·rw[if_neg U];exact⟨fF,rfl,rfl,rfl⟩
  ·cases hr
  ·split
   ·grind
   ·exact⟨fF,rfl,rfl,rfl⟩
theorem C7: ∀(ds:List (List Nat×aF)) (bo:List FP) (st:St),(ds.all fun p=>bZ p.2.op&&p.1.all fun i=>decide (i<bo.length+ds.length))=true→(∀fp∈bo,Calm fp)→
  (∀(k:Nat) (u:List Nat) (o:aF),ds[k]? =some (u,o)→ ∀i∈u,i<bo.length+k)→
  aK E call n ds bo st=ai E call n (ds.map (·.2)) st
 | [],bo,st,_,_,_=>rfl
 |(u,o)::ds,bo,st,h,K,hi=>by
  simp only[List.all_cons,Bool.and_eq_true]at h
  simp only[aK,List.map_cons,ai]
  cases D:bg E call n o st with
  |none=>
   grind
  |some s=>
   obtain⟨fp,h1,h2⟩:=abF h.1.1 D
   simp only[h1]
   have H:(u.all fun i=>apart (aH ⟨true,[],[]⟩ bo i) fp)=true:=by
    rw[List.all_eq_true]
    intro i r
    have:=hi 0 u o rfl i r
    have N:aH ⟨true,[],[]⟩ bo i∈bo:=by
     have: ∀(l:List FP) (j:Nat),j<l.length→aH ⟨true,[],[]⟩ l j∈l:=by
      intro l
      induction l with
      |nil=>grind
      |cons x xs ih=>
       intro j I
       cases j with
       |zero=>exact List.mem_cons_self
       |succ j=>exact List.mem_cons_of_mem _ (ih j (by simpa using I))
     grind
    grind [Av]
   simp only[H,if_true]
   refine C7 ds (bo++ [fp]) s ?_ ?_ ?_
   ·grind
   ·grind
   ·intro k J o' hk i r
    have:=hi (k+1) J o' hk i r
    grind
def C8:Nat→List (List Nat×aF)→Bool
 |_,[]=>true
 |k,(u,o)::ds=>bZ o.op&&(u.all fun i=>decide (i<k))&&C8 (k+1) ds
theorem C9: ∀(ds:List (List Nat×aF)) (m:Nat),C8 m ds=true→(∀(k:Nat) (u:List Nat) (o:aF),ds[k]? =some (u,o)→bZ o.op=true∧ ∀i∈u,i<m+k)
 | [],m,_,k,u,o,hk=>by simp at hk
 |(r,D)::ds,m,h,k,u,o,hk=>by
  simp only[C8,Bool.and_eq_true]at h
  cases k with
  |zero=>
   grind
  |succ k=>
   obtain⟨h1,h2⟩:=C9 ds (m+1) h.2 k u o (by simpa using hk)
   grind
theorem abG{E:Env}{n:Nat}{ds:List (List Nat×aF)}{st:St}(h:C8 0 ds=true):DC E n (.draws ds) st=(ai E (ae E) n (ds.map (·.2)) st).map fun D=>(.nrm,D):=by
 rw[HZ]
 congr 1
 have r:=C9 ds 0 h
 refine C7 ds [] st ?_ zP (fun k u o hk i hi=>by have:=(r k u o hk).2 i hi;simpa using this)
 rw[List.all_eq_true]
 intro p H
 obtain⟨k,hk,I⟩:=List.getElem_of_mem H
 obtain⟨u,o⟩:=p
 obtain⟨h1,h2⟩:=r k u o (by rw[List.getElem?_eq_getElem hk,I])
 grind
end
end Go.Ev
namespace Go.Ev
open Go
def kv(F:St→Option St)(fr:Fr)(lh:aE ah)(sh:List ah)(d:Nat)(v:Option T):Option St:=v.bind fun v=>F ⟨cL fr d v,lh,sh⟩
def kn(F:St→Option St)(st:St)(v:Option T):Option St:=v.bind fun _=>F st
def ks(F:St→Option St)(fr:Fr)(r:Option (aE ah×List ah)):Option St:=r.bind fun r=>F ⟨fr,r.1,r.2⟩
def ka(F:St→Option St)(fr:Fr)(sh:List ah)(d:Nat)(r:Option (T×aE ah)):Option St:=r.bind fun q=>F ⟨cL fr d q.1,q.2,sh⟩
def kc(F:St→Option St)(fr:Fr)(d:Option Nat)(r:Option (T×St)):Option St:=r.bind fun r=>F ⟨rG fr d r.1,r.2.lh,r.2.sh⟩
section
variable{F:St→Option St}{fr:Fr}{lh:aE ah}{sh:List ah}{d:Nat}{v:T}
theorem abH:kv F fr lh sh d (some v)=F ⟨cL fr d v,lh,sh⟩:=rfl
theorem abI:kv F fr lh sh d none=none:=rfl
theorem aj2{c:Prop}[Decidable c]{x y:Option T}:kv F fr lh sh d (if c then x else y)=if c then kv F fr lh sh d x else kv F fr lh sh d y:=by split <;> rfl
theorem abJ{st:St}:kn F st (some v)=F st:=rfl
theorem abK{st:St}:kn F st none=none:=rfl
theorem abL{r:aE ah×List ah}:ks F fr (some r)=F ⟨fr,r.1,r.2⟩:=rfl
theorem abM:ks F fr none=none:=rfl
theorem aj3{c:Prop}[Decidable c]{x y:Option (aE ah×List ah)}:ks F fr (if c then x else y)=if c then ks F fr x else ks F fr y:=by split <;> rfl
theorem abN{q:T×aE ah}:ka F fr sh d (some q)=F ⟨cL fr d q.1,q.2,sh⟩:=rfl
theorem abO:ka F fr sh d none=none:=rfl
theorem aj4{c:Prop}[Decidable c]{x y:Option (T×aE ah)}:ka F fr sh d (if c then x else y)=if c then ka F fr sh d x else ka F fr sh d y:=by split <;> rfl
theorem abP{D:Option Nat}{r:T×St}:kc F fr D (some r)=F ⟨rG fr D r.1,r.2.lh,r.2.sh⟩:=rfl
theorem abQ{r:Option Nat}:kc F fr r none=none:=rfl
theorem aj5{c:Prop}[Decidable c]{r:Option Nat}{x y:Option (T×St)}:kc F fr r (if c then x else y)=if c then kc F fr r x else kc F fr r y:=by split <;> rfl
end
def isB:T→Bool
 | .b _=>true
 |_=>false
def isT:T→Bool
 | .b x=>x
 |_=>false
theorem avQ{x:Bool}:isB (.b x)=true:=nr rfl
theorem avR{x:Bool}:isT (.b x)=x:=nr rfl
theorem abR{t:T}(h:isB t=true):t= .b (isT t):=by cases t <;> first|rfl|(simp[isB]at h)
section
variable{E:Env}{call:jB}{n:Nat}{fr:Fr}{lh:aE ah}{sh:List ah}{os:List aF}{d:Nat}
theorem aj6{c a b:aP}(r:d<n):ai E call n (⟨some d,.pick c a b,none⟩::os) ⟨fr,lh,sh⟩=kv (ai E call n os) fr lh sh d (Nc (rd fr c) (rd fr a) (rd fr b)):=ajS r
theorem avS{op:BinOp}{x y:aP}(r:d<n):ai E call n (⟨some d,.bin op x y,none⟩::os) ⟨fr,lh,sh⟩=kv (ai E call n os) fr lh sh d (Ev.bin op (rd fr x) (rd fr y)):=avt r
theorem aBS{neg:Bool}{k:EK}{x y:aP}(D:d<n):ai E call n (⟨some d,.eq neg k x y,none⟩::os) ⟨fr,lh,sh⟩=kv (ai E call n os) fr lh sh d ((rD k (rd fr x) (rd fr y)).map fun r=>T.b (r != neg)):=aBG D
theorem aBT{op:UnOp}{x:aP}(r:d<n):ai E call n (⟨some d,.un op x,none⟩::os) ⟨fr,lh,sh⟩=kv (ai E call n os) fr lh sh d (Ev.un op (rd fr x)):=aBH r
theorem avT{k:IntKind}{x:aP}(r:d<n):ai E call n (⟨some d,.cvi k x,none⟩::os) ⟨fr,lh,sh⟩=kv (ai E call n os) fr lh sh d (abl k (rd fr x)):=avu r
theorem xL{x:aP}(r:d<n):ai E call n (⟨some d,.b2s x,none⟩::os) ⟨fr,lh,sh⟩=kv (ai E call n os) fr lh sh d (abm (rd fr x)):=avv r
theorem abS{z:List T}{r:List (Nat×Nat×aP)}(D:d<n):ai E call n (⟨some d,.build z r,none⟩::os) ⟨fr,lh,sh⟩=kv (ai E call n os) fr lh sh d (Ey fr z r):=abn D
theorem avU{x:aP}{l h:Option aP}(r:d<n):ai E call n (⟨some d,.slS x l h,none⟩::os) ⟨fr,lh,sh⟩=kv (ai E call n os) fr lh sh d (sH fr (rd fr x) l h):=avw r
theorem aBU{x:aP}{off:Nat}(r:d<n):ai E call n (⟨some d,.fa x off,none⟩::os) ⟨fr,lh,sh⟩=kv (ai E call n os) fr lh sh d (faV (rd fr x) off):=aBI r
theorem avV{x:aP}{off m:Nat}{r:Bool}(D:d<n):ai E call n (⟨some d,.fld x off m r,none⟩::os) ⟨fr,lh,sh⟩=kv (ai E call n os) fr lh sh d (abo (rd fr x) off m r):=avy D
theorem aBV{x r:aP}{sz:Nat}(D:d<n):ai E call n (⟨some d,.ia x r sz,none⟩::os) ⟨fr,lh,sh⟩=kv (ai E call n os) fr lh sh d (iaV (rd fr x) (rd fr r) sz):=aBJ D
theorem avW{x r:aP}{len sz:Nat}(D:d<n):ai E call n (⟨some d,.iaA x r len sz,none⟩::os) ⟨fr,lh,sh⟩=kv (ai E call n os) fr lh sh d (eI (rd fr x) (rd fr r) len sz):=avz D
theorem avX{x r:aP}(D:d<n):ai E call n (⟨some d,.ixS x r,none⟩::os) ⟨fr,lh,sh⟩=kv (ai E call n os) fr lh sh d (B7 (rd fr x) (rd fr r)):=avA D
theorem avY{x r:aP}{len sz:Nat}{D:Bool}(H:d<n):ai E call n (⟨some d,.ixA x r len sz D,none⟩::os) ⟨fr,lh,sh⟩=kv (ai E call n os) fr lh sh d (abp (rd fr x) (rd fr r) len sz D):=avB H
theorem avZ{x:aP}{j:Nat}(r:d<n):ai E call n (⟨some d,.ext x j,none⟩::os) ⟨fr,lh,sh⟩=kv (ai E call n os) fr lh sh d (abq (rd fr x) j):=avC r
theorem aj7{x:aP}(r:d<n):ai E call n (⟨some d,.lenS x,none⟩::os) ⟨fr,lh,sh⟩=kv (ai E call n os) fr lh sh d (Nd (rd fr x)):=ajU r
def lenI(x:T):Option T:=match kH x with|some m=>some (.i .i64 ((m:Nat):Int))|none=>none
theorem abT{x:T}{m:Nat}(h:kH x=some m):lenI x=some (.i .i64 (m:Int)):=by unfold lenI;rw[h]
theorem aj8{x:aP}(r:d<n):ai E call n (⟨some d,.lenV x,none⟩::os) ⟨fr,lh,sh⟩=kv (ai E call n os) fr lh sh d (lenI (rd fr x)):=by
 grind [kv,lenI,ajV]
theorem aBW{r:Bool}{args:List aP}(D:d<n):ai E call n (⟨some d,.mm r args,none⟩::os) ⟨fr,lh,sh⟩=kv (ai E call n os) fr lh sh d (mmV r (args.map (rd fr))):=aBK D
theorem av0{x:aP}(r:d<n):ai E call n (⟨some d,.nck x,none⟩::os) ⟨fr,lh,sh⟩=kv (ai E call n os) fr lh sh d (Ez (rd fr x)):=avE r
theorem aj9{x:aP}:ai E call n (⟨none,.nck x,none⟩::os) ⟨fr,lh,sh⟩=kn (ai E call n os) ⟨fr,lh,sh⟩ (Ez (rd fr x)):=ajX
theorem aBX{x:aP}{m:Nat}{r:Bool}(D:d<n):ai E call n (⟨some d,.ld x m r,none⟩::os) ⟨fr,lh,sh⟩=kv (ai E call n os) fr lh sh d (ZU lh sh (rd fr x) m r):=aBL D
theorem av1{sz:Nat}{x:aP}{l h:Option aP}(r:d<n):ai E call n (⟨some d,.slV sz x l h none,none⟩::os) ⟨fr,lh,sh⟩=kv (ai E call n os) fr lh sh d (U6 fr sz (rd fr x) l h):=avL r
theorem aBY{r:EK}{m k:aP}{z:T}{D:Bool}(H:d<n):ai E call n (⟨some d,.lk r m k z D,none⟩::os) ⟨fr,lh,sh⟩=kv (ai E call n os) fr lh sh d (lkV lh sh r (rd fr m) (rd fr k) z D):=aBO H
theorem av2{k:IntKind}{n:Int}:RG [.i k n]=false:=nr rfl
theorem av3{x:Bool}:RG [.b x]=false:=nr rfl
theorem av4{l:List Nat}:RG [.s l]=false:=nr rfl
theorem abU:RG [.nilsl]=true:=nr rfl
theorem Vb{a b:T}{l:List T}:RG (a::b::l)=false:=by cases a <;> rfl
def Vc(lh:aE ah)(d:Nat)(z:List T)(x:T)(bytes:Nat):Option (T×aE ah):=
 (KW x bytes).map fun m=>(.isl .L d ((ab lh d).g+1) 0 m z.length,iR lh d ⟨(ab lh d).g+1,.cells (repl z m) 0 (RG z)⟩)
theorem aka{z:List T}{bytes:Nat}{x:aP}(r:d<n):ai E call n (⟨some d,.mksl z bytes x false,none⟩::os) ⟨fr,lh,sh⟩=ka (ai E call n os) fr sh d (Vc lh d z (rd fr x) bytes):=by
 rw[ajZ r];unfold Vc ka;cases KW (rd fr x) bytes <;> rfl
theorem aBZ{x v:aP}{m:Nat}:ai E call n (⟨none,.st x v m,none⟩::os) ⟨fr,lh,sh⟩=ks (ai E call n os) fr (stV lh sh (rd fr x) (rd fr v) m):=aBM
def appW(lh:aE ah)(sh:List ah)(d sz bytes:Nat)(s x:T):Option (T×aE ah):=(slC lh sh sz x).bind (At lh d sz bytes s)
def notS:T→Bool
 | .isl .S .. =>false
 | .mp .S .. =>false
 |_=>true
theorem av5{sz bytes:Nat}{s x:aP}(r:d<n)(hs:notS (rd fr s)=true):ai E call n (⟨some d,.app sz bytes s x false false,none⟩::os) ⟨fr,lh,sh⟩=ka (ai E call n os) fr sh d (appW lh sh d sz bytes (rd fr s) (rd fr x)):=by
 rw[avK r (fun k g off len sz D=>by rw[D]at hs;simp[notS]at hs)]
 grind [appW,ka]
theorem aB0{r:EK}{m k v:aP}(D:notS (rd fr m)=true)(H:froz (rd fr v)=true):ai E call n (⟨none,.mu r m k v,none⟩::os) ⟨fr,lh,sh⟩=ks (ai E call n os) fr ((muV lh r (rd fr m) (rd fr k) (rd fr v)).map fun aU=>(aU,sh)):=by
 rw[aBP (fun kk g I=>by rw[I]at D;simp[notS]at D) H]
 unfold ks
 cases muV lh r (rd fr m) (rd fr k) (rd fr v) <;> rfl
def Vd(lh:aE ah)(sh:List ah)(z:List T)(len:Nat)(r:List Nat)(D:List T):Option (T×St):=
 (yn lh sh false D).bind fun q=>(P4 z len r q.1).map fun v=>(v,(St.mk .nil lh sh).ups q.2)
theorem av6{z:List T}{len:Nat}{r:List (Nat×aP)}(D:d<n):ai E call n (⟨some d,.bsl z len r,none⟩::os) ⟨fr,lh,sh⟩=kc (ai E call n os) fr (some d) (Vd lh sh z len (r.map (·.1)) (r.map fun p=>rd fr p.2)):=by
 rw[avO D]
 unfold kc Vd
 cases yn lh sh false (r.map fun p=>rd fr p.2)with
 |none=>rfl
 |some q=>
  simp only[Option.bind_some]
  cases P4 z len (r.map (·.1)) q.1 with
  |none=>rfl
  |some v=>grind [rG,lb]
theorem P7{z:List T}{len:Nat}{D:List Nat}{r:List T}(h:r.all froz=true):Vd lh sh z len D r=(P4 z len D r).map fun v=>(v,⟨.nil,lh,sh⟩):=by
 unfold Vd
 rw[uC h];rfl
theorem akb{f:Nat}{as:List aP}(r:d<n):ai E call n (⟨some d,.callf f as,none⟩::os) ⟨fr,lh,sh⟩=kc (ai E call n os) fr (some d) (br E call d ⟨fr,lh,sh⟩ f (as.map (rd fr))):=aj1 r
theorem abV{f:Nat}{as:List aP}:ai E call n (⟨none,.callf f as,none⟩::os) ⟨fr,lh,sh⟩=kc (ai E call n os) fr none (br E call 0 ⟨fr,lh,sh⟩ f (as.map (rd fr))):=abB
theorem abW{f:aP}{as:List aP}(r:d<n):ai E call n (⟨some d,.callv f as,none⟩::os) ⟨fr,lh,sh⟩=kc (ai E call n os) fr (some d) (uD E call d ⟨fr,lh,sh⟩ (rd fr f) (as.map (rd fr))):=abC r
theorem abX{r:Option Nat}{op:lX}{j:Nat}(h:aa fr j= .b true):ai E call n (⟨r,op,some (j,true)⟩::os) ⟨fr,lh,sh⟩=ai E call n (⟨r,op,none⟩::os) ⟨fr,lh,sh⟩:=U8 h
theorem abY{r:Option Nat}{op:lX}{j:Nat}(h:aa fr j= .b false):ai E call n (⟨r,op,some (j,false)⟩::os) ⟨fr,lh,sh⟩=ai E call n (⟨r,op,none⟩::os) ⟨fr,lh,sh⟩:=U8 h
theorem abZ{op:lX}{j:Nat}(r:d<n)(h:aa fr j= .b false):ai E call n (⟨some d,op,some (j,true)⟩::os) ⟨fr,lh,sh⟩=ai E call n os ⟨cL fr d aO,lh,sh⟩:=Au (d:=some d) r h
theorem ab0{op:lX}{j:Nat}(r:d<n)(h:aa fr j= .b true):ai E call n (⟨some d,op,some (j,false)⟩::os) ⟨fr,lh,sh⟩=ai E call n os ⟨cL fr d aO,lh,sh⟩:=Au (d:=some d) r h
theorem Ve{op:lX}{j:Nat}{w:Bool}(r:d<n)(h:aa fr j=aO):ai E call n (⟨some d,op,some (j,w)⟩::os) ⟨fr,lh,sh⟩=ai E call n os ⟨cL fr d aO,lh,sh⟩:=Nj (d:=some d) r h
theorem Vf{op:lX}{j:Nat}(h:aa fr j= .b false):ai E call n (⟨none,op,some (j,true)⟩::os) ⟨fr,lh,sh⟩=ai E call n os ⟨fr,lh,sh⟩:=Au (d:=none) trivial h
theorem Vg{op:lX}{j:Nat}(h:aa fr j= .b true):ai E call n (⟨none,op,some (j,false)⟩::os) ⟨fr,lh,sh⟩=ai E call n os ⟨fr,lh,sh⟩:=Au (d:=none) trivial h
end
section
variable{E:Env}{n:Nat}{fr:Fr}{lh:aE ah}{sh:List ah}
theorem akc{c:aP}{a b:ak}(h:isB (rd fr c)=true):DC E n (.cond c a b) ⟨fr,lh,sh⟩=if isT (rd fr c)=true then DC E n a ⟨fr,lh,sh⟩else DC E n b ⟨fr,lh,sh⟩:=by
 rw[U9,abR h];rfl
def uF(r:List sA)(D:Bool)(x:Option (Out×St)):Option (T×List ah):=
 match x with
 |some (.ext _,_)=>none
 |some (_,st)=>(gV st r).bind fun H=>answer D H st
 |none=>none
theorem av{f:Nat}{af:aj}{args:List T}{sh:List ah}(r:E.fn f=some af)(D:(af.n<args.length)=False)(H:af.own=none:=by rfl):
  ae E f args sh=uF af.res af.eff (DC E af.n af.code {fr:=kF args,lh:= .nil,sh}):=by
 rw[U0 r (Nat.le_of_not_lt (of_eq_false D))]
 generalize DC E af.n af.code {fr:=kF args,lh:= .nil,sh}=x
 unfold ahf uF
 rw[H]
 cases x with
 |none=>rfl
 |some p=>
  obtain⟨o,st⟩:=p
  cases o with
  |ext id=>rfl
  |nrm=>simp only[];cases gV st af.res <;> rfl
  |ret=>simp only[];cases gV st af.res <;> rfl
def KZ(r:List sA)(j:Nat)(x:Option (Out×St)):Option (T×List ah):=
 match x with
 |some (.ext _,_)=>none
 |some (_,st)=>(gV st r).bind fun D=>oq j D st
 |none=>none
def ab1(lh:aE ah)(sh:List ah)(j:Nat)(r:List T):Option (T×List ah):=oq j r ⟨.nil,lh,sh⟩
theorem Aw{j:Nat}{r:List T}:oq j r ⟨fr,lh,sh⟩=ab1 lh sh j r:=by
 unfold ab1 oq
 simp only[wN,lE]
 split
 ·rfl
 ·split
  ·rename_i p _
   rw[lb p.2 lh sh]
   rfl
  ·rfl
 ·rfl
theorem Vh{r:List sA}{j:Nat}:KZ r j (some (.ret,⟨fr,lh,sh⟩))=(uE fr lh sh r).bind (ab1 lh sh j):=by
 simp_all[KZ,lj,Aw]
theorem Vi{r:List sA}{j:Nat}:KZ r j (some (.nrm,⟨fr,lh,sh⟩))=(uE fr lh sh r).bind (ab1 lh sh j):=by
 simp_all[KZ,lj,Aw]
theorem Vj{c:Prop}[Decidable c]{r:List sA}{j:Nat}{x y:Option (Out×St)}:KZ r j (if c then x else y)=if c then KZ r j x else KZ r j y:=by split <;> rfl
theorem Vk{r:List sA}{D:Bool}:uF r D (some (.ret,⟨fr,lh,sh⟩))=(uE fr lh sh r).bind (P6 lh sh D):=by
 simp_all[uF,lj,wN]
theorem Vl{r:List sA}{D:Bool}:uF r D (some (.nrm,⟨fr,lh,sh⟩))=(uE fr lh sh r).bind (P6 lh sh D):=by
 simp_all[uF,lj,wN]
theorem Vm{c:Prop}[Decidable c]{r:List sA}{D:Bool}{x y:Option (Out×St)}:uF r D (if c then x else y)=if c then uF r D x else uF r D y:=by split <;> rfl
end
section
variable{k:IntKind}{a b:Int}{x y:Bool}{s t:List Nat}
theorem ab2:Ev.bin .add (.i k a) (.i k b)=some (.i k (wr k (a+b))):=by simp[Ev.bin,lR]
theorem ab3:Ev.bin .sub (.i k a) (.i k b)=some (.i k (wr k (a-b))):=by simp[Ev.bin,lR]
theorem ab4:Ev.bin .mul (.i k a) (.i k b)=some (.i k (wr k (a*b))):=by simp[Ev.bin,lR]
theorem ab5:Ev.bin .quo (.i k a) (.i k b)=if b=0 then none else some (.i k (wr k (a.tdiv b))):=by simp[Ev.bin,lR]
theorem ab6:Ev.bin .rem (.i k a) (.i k b)=if b=0 then none else some (.i k (a.tmod b)):=by simp[Ev.bin,lR]
theorem Nk:Ev.bin .eql (.i k a) (.i k b)=some (.b (decide (a=b))):=by simp[Ev.bin,lR];exact Bool.beq_eq_decide_eq a b
theorem Nl:Ev.bin .neq (.i k a) (.i k b)=some (.b (!decide (a=b))):=by simp[Ev.bin,lR];rw[bne,Bool.beq_eq_decide_eq]
theorem Nm:Ev.bin .lss (.i k a) (.i k b)=some (.b (decide (a<b))):=by simp[Ev.bin,lR]
theorem Nn:Ev.bin .leq (.i k a) (.i k b)=some (.b (decide (a≤b))):=by simp[Ev.bin,lR]
theorem No:Ev.bin .gtr (.i k a) (.i k b)=some (.b (decide (b<a))):=by simp[Ev.bin,lR]
theorem Np:Ev.bin .geq (.i k a) (.i k b)=some (.b (decide (b≤a))):=by simp[Ev.bin,lR]
theorem H3:Ev.bin .eql (.s s) (.s t)=some (.b (decide (s=t))):=by simp[Ev.bin,Ky];exact Bool.beq_eq_decide_eq s t
theorem H4:Ev.bin .neq (.s s) (.s t)=some (.b (!decide (s=t))):=by simp[Ev.bin,Ky];rw[bne,Bool.beq_eq_decide_eq]
theorem H5:Ev.bin .lss (.s s) (.s t)=some (.b (lessN s t)):=by simp[Ev.bin,Ky]
theorem Vn:Ev.bin .add (.s s) (.s t)=if s.length+t.length≤1099511627776 then some (.s (s++t))else none:=by simp[Ev.bin,Ky]
theorem akd:Ev.un .not (.b x)=some (.b (!x)):=rfl
theorem ake:Ev.un .neg (.i k a)=some (.i k (wr k (0-a))):=rfl
theorem akf{cs:List T}{off m:Nat}:Ev.part cs off m false=cs[off]? :=rfl
theorem akg{cs:List T}{off m:Nat}:Ev.part cs off m true=if off+m≤cs.length then some (.agg ((cs.drop off).take m))else none:=rfl
theorem bI{n:Int}(h: -9223372036854775808≤n∧n≤9223372036854775807):wr .i64 n=n:=by grind [wr,lo,hi]
theorem cT{cs:List T}{len sz:Nat}{ex:Bool}{kk:IntKind}{j:Int}:iaV (.sl cs len ex) (.i kk j) sz=if 0≤j∧j.toNat<len∧(j.toNat+1)*sz≤cs.length then some (.vp (cs.drop (j.toNat*sz)))else none:=by
 unfold iaV asNat
 grind
theorem ab7{sp:Sp}{i g off len sz r:Nat}{kk:IntKind}{j:Int}:iaV (.isl sp i g off len r) (.i kk j) sz=if 0≤j∧j.toNat<len∧r=sz then some (.ptr sp i g (off+j.toNat*sz))else none:=by
 unfold iaV asNat
 grind
theorem K0{r:List Nat}{kk:IntKind}{j:Int}:B7 (.s r) (.i kk j)=if 0≤j then r[j.toNat]?.map fun c=>T.i .u8 c else none:=by
 unfold B7 asNat
 grind
theorem ab8{kk:IntKind}{j:Int}:asNat (.i kk j)=if 0≤j then some j.toNat else none:=rfl
end
end Go.Ev
