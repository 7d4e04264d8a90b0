/- A tree evaluator over the model, proved against it (part E): where it answers, the call returns that answer. Conditions: none beyond its theorems' own. -/
import Derived.Test.YtnkgnjecmfkcfaaGreatEvD
set_option linter.all false
namespace Go.Ev
open Go
section
variable{E:Env}{call:ku}{fl n:Nat}
end
def qZ(c D:ku):Prop:= ∀f a sh r,c f a sh=some r→D f a sh=some r
section
variable{E:Env}
theorem zI{c D:ku}(h:qZ c D){H:Nat}{st:St}{f:Nat}{args:List T}{r:T×St}(hr:br E c H st f args=some r):br E D H st f args=some r:=by
 unfold br at hr ⊢
 cases J:E.fn f with
 |none=>grind
 |some af=>
  simp only[J]at hr ⊢
  cases K:(bo (fz af.eff aJ) args).run st.get st.sh.length with
  |none=>grind
  |some q=>
   simp only[K]at hr ⊢
   cases I:af.eff with
   |true=>
    simp only[I,if_true,Option.map_eq_some_iff]at hr ⊢
    obtain⟨a,h1,h2⟩:=hr
    exact⟨a,h _ _ _ _ h1,h2⟩
   |false=>
    simp only[I]at hr ⊢
    cases hc:c f q.1 []with
    |none=>grind
    |some a=>
     simp only[hc]at hr
     simp only[h _ _ _ _ hc]
     exact hr
theorem mW{c J:ku}(h:qZ c J){n:Nat}{o:aG}{st H:St}(hr:bp E c n o st=some H):bp E J n o st=some H:=by
 unfold bp at hr ⊢
 have N: ∀H,(match bD st.rho o.op with
  |some (some D)=>match br E c (o.d.getD 0) st D.1 D.2 with
   |some r=>(im st.fr n o.d r.1).map fun fr=>{r.2 with fr}
   |none=>none
  |some none=>none
  |none=>match(bB (o.d.getD 0) st.rho o.op).run st.get st.sh.length with
   |some (.val v ups)=>(im st.fr n o.d v).map fun fr=>{st.ups ups with fr}
   |none=>none)=some H→(match bD st.rho o.op with
  |some (some D)=>match br E J (o.d.getD 0) st D.1 D.2 with
   |some r=>(im st.fr n o.d r.1).map fun fr=>{r.2 with fr}
   |none=>none
  |some none=>none
  |none=>match(bB (o.d.getD 0) st.rho o.op).run st.get st.sh.length with
   |some (.val v ups)=>(im st.fr n o.d v).map fun fr=>{st.ups ups with fr}
   |none=>none)=some H:=by
  intro H hs
  cases hc:bD st.rho o.op with
  |none=>simp only[hc]at hs ⊢; exact hs
  |some x=>
   cases x with
   |none=>simp only[hc]at hs;cases hs
   |some D=>
    simp only[hc]at hs ⊢
    cases K:br E c (o.d.getD 0) st D.1 D.2 with
    |none=>simp only[K]at hs;cases hs
    |some r=>
     simp only[K]at hs
     simp only[zI h K]
     exact hs
 cases O:o.gd with
 |none=>grind
 |some p=>
  obtain⟨j,I⟩:=p
  simp only[O]at hr ⊢
  split at hr
  ·rename_i x hx
   by_cases U:x=I
   ·grind
   ·grind
  ·cases hr
  ·exact hr
theorem gf{c D:ku}(h:qZ c D){n:Nat}: ∀(os:List aG) {st r:St},aj E c n os st=some r→aj E D n os st=some r
 | [],st,r,hr=>hr
 |o::os,st,r,hr=>by
  simp only[aj]at hr ⊢
  cases H:bp E c n o st with
  |none=>grind
  |some s=>
   simp only[H]at hr
   simp only[mW h H]
   exact gf h os hr
theorem zJ{c D:ku}(h:qZ c D){H:Nat}{st:St}{f:Nat}{args:List T}{r:FP}(hr:eN E c H st f args=some r):eN E D H st f args=some r:=by
 unfold eN at hr ⊢
 cases I:E.fn f with
 |none=>grind
 |some af=>
  simp only[I]at hr ⊢
  cases J:(bo (fz af.eff aJ) args).run st.get st.sh.length with
  |none=>grind
  |some q=>
   simp only[J]at hr ⊢
   by_cases hi:(!inB st q.2)=true
   ·grind
   ·rw[if_neg hi]at hr ⊢
    cases K:af.eff with
    |true=>grind
    |false=>
     simp only[K]at hr ⊢
     cases hc:c f q.1 []with
     |none=>simp[hc]at hr
     |some a=>
      simp only[hc]at hr
      simp only[h _ _ _ _ hc]
      exact hr
theorem zK{c I:ku}(h:qZ c I){o:aG}{st:St}{r:FP}(hr:bU E c o st=some r):bU E I o st=some r:=by
 unfold bU at hr ⊢
 have J: ∀r,(match bD st.rho o.op with
  |some (some H)=>eN E c (o.d.getD 0) st H.1 H.2
  |some none=>none
  |none=>
   let q:=bB (o.d.getD 0) st.rho o.op
   match q.run st.get st.sh.length with
   |some (.val _ D)=>if q.asks st.get st.sh.length||inB st D then some ⟨q.asks st.get st.sh.length,q.log st.get st.sh.length,cW D⟩else none
   |none=>none)=some r→(match bD st.rho o.op with
  |some (some H)=>eN E I (o.d.getD 0) st H.1 H.2
  |some none=>none
  |none=>
   let q:=bB (o.d.getD 0) st.rho o.op
   match q.run st.get st.sh.length with
   |some (.val _ D)=>if q.asks st.get st.sh.length||inB st D then some ⟨q.asks st.get st.sh.length,q.log st.get st.sh.length,cW D⟩else none
   |none=>none)=some r:=by
  intro r hs
  cases hc:bD st.rho o.op with
  |none=>simp only[hc]at hs ⊢; exact hs
  |some x=>
   cases x with
   |none=>simp only[hc]at hs;cases hs
   |some H=>simp only[hc]at hs ⊢; exact zJ h hs
 cases K:o.gd with
 |none=>grind
 |some p=>
  grind
theorem mX{c D:ku}(h:qZ c D){n:Nat}: ∀(os:List (List Nat×aG)) {bu:List FP} {st r:St},aK E c n os bu st=some r→aK E D n os bu st=some r
 | [],bu,st,r,hr=>hr
 |(u,o)::os,bu,st,r,hr=>by
  simp only[aK]at hr ⊢
  cases H:bU E c o st with
  |none=>grind
  |some fp=>
   simp only[H]at hr
   simp only[zK h H]
   split at hr
   ·rename_i J
    rw[if_pos J]
    cases I:bp E c n o st with
    |none=>grind
    |some s=>
     simp only[I]at hr
     simp only[mW h I]
     exact mX h os hr
   ·cases hr
theorem sA{f g:St→Option (Out×St)}(h: ∀st r,f st=some r→g st=some r): ∀{k k':Nat},k≤k'→ ∀{st:St} {r:Out×St},iter f k st=some r→iter g k' st=some r
 |0,_,_,st,r,hr=>by simp[iter]at hr
 |k+1,0,hk,_,_,_=>by omega
 |k+1,k'+1,hk,st,r,hr=>by
  simp only[iter]at hr ⊢
  cases D:f st with
  |none=>grind
  |some p=>
   rw[h _ _ D]
   rw[D]at hr
   obtain⟨o,s⟩:=p
   cases o with
   |nrm=>exact sA h zV hr
   |ext id=>exact hr
   |ret=>exact hr
theorem dm{c J:ku}(h:qZ c J){n:Nat}{fl H:Nat}(D:fl≤H): ∀(code:ak) {st:St} {r:Out×St},fX E c fl n code st=some r→fX E J H n code st=some r
 | .skip,st,r,hr=>hr
 | .region ops,st,r,hr=>by
   simp only[fX,Option.map_eq_some_iff]at hr ⊢
   obtain⟨a,h1,h2⟩:=hr
   exact⟨a,gf h ops h1,h2⟩
 | .draws ops,st,r,hr=>by
   simp only[fX,Option.map_eq_some_iff]at hr ⊢
   obtain⟨a,h1,h2⟩:=hr
   exact⟨a,mX h ops h1,h2⟩
 | .seq a b,st,r,hr=>by
   simp only[fX]at hr ⊢
   cases I:fX E c fl n a st with
   |none=>grind
   |some p=>
    rw[dm h D a I]
    rw[I]at hr
    obtain⟨o,s⟩:=p
    cases o with
    |nrm=>exact dm h D b hr
    |ext id=>exact hr
    |ret=>exact hr
 | .fork os DD b,st,r,hr=>by
   simp only[fX]at hr ⊢
   cases h1:aj E c n os st with
   |none=>grind
   |some U=>
    cases h2:aj E c n DD st with
    |none=>grind
    |some s2=>
     rw[gf h os h1,gf h DD h2]
     rw[h1,h2]at hr
     simp only[]at hr ⊢
     obtain⟨o,s⟩:=r
     obtain⟨V,W,K,N,X,rfl⟩:=tX hr
     rw[K,N]at hr
     rw[dm h D b K,dm h D b N]
     exact hr
 | .cond x a b,st,r,hr=>by
   simp only[fX]at hr ⊢
   split at hr
   ·exact dm h D a hr
   ·exact dm h D b hr
   ·cases hr
 | .block id a,st,r,hr=>by
   simp only[fX]at hr ⊢
   cases I:fX E c fl n a st with
   |none=>grind
   |some p=>
    rw[dm h D a I]
    grind
 | .loop a,st,r,hr=>by
   simp only[fX]at hr ⊢
   exact sA (fun st r O=>dm h D a O) D hr
 | .exit id,st,r,hr=>hr
 | .ret,st,r,hr=>hr
theorem bV: ∀{m D:Nat},m≤D→qZ (cQ E m) (cQ E D)
 |0,D,_=>fun f a sh r h=>by simp[cQ]at h
 |m+1,0,h=>by omega
 |m+1,D+1,h=>fun f a sh r hr=>by
  simp only[cQ]at hr ⊢
  cases H:E.fn f with
  |none=>grind
  |some af=>
   simp only[H]at hr ⊢
   split at hr
   ·cases hr
   ·rename_i I
    rw[if_neg I]
    cases hc:fX E (cQ E m) m af.n af.code {fr:=lI a,lh:= .nil,sh}with
    |none=>grind
    |some p=>
     rw[dm (bV (Nat.le_of_succ_le_succ h)) (Nat.le_of_succ_le_succ h) af.code hc]
     grind
end
noncomputable def lim{α:Type}(F:Nat→Option α):Option α:=
 open Classical in if h: ∃m,(F m).isSome=true then F (Classical.choose h)else none
def aAq{α:Type}(F:Nat→Option α):Prop:= ∀m D r,m≤D→F m=some r→F D=some r
def PJ{α:Type}{F:Nat→Option α}(H:aAq F)(r:α):lim F=some r↔ ∃m,F m=some r:=by
 unfold lim
 constructor
 ·intro h
  split at h
  ·grind
  ·cases h
 ·rintro⟨m,I⟩
  have D: ∃m,(F m).isSome=true:=⟨m,by rw[I];rfl⟩
  rw[dif_pos D]
  have hs:=Classical.choose_spec D
  generalize Classical.choose D=k at hs
  cases hk:F k with
  |none=>grind
  |some a=>
   have h1:=H k (max k m) a (Nat.le_max_left _ _) hk
   have h2:=H m (max k m) r (Nat.le_max_right _ _) I
   grind
section
variable(E:Env)
noncomputable def ae:ku:=fun f a sh=>lim fun m=>cQ E m f a sh
noncomputable def DC(n:Nat)(code:ak)(st:St):Option (Out×St):=lim fun m=>fX E (cQ E m) m n code st
end
section
variable{E:Env}
theorem DCall_iff{f:Nat}{a:List T}{sh:List ah}{r:T×List ah}:ae E f a sh=some r↔ ∃m,cQ E m f a sh=some r:=
 PJ (fun m D r h hr=>bV h _ _ _ _ hr) r
theorem dt{n:Nat}{code:ak}{st:St}{r:Out×St}:DC E n code st=some r↔ ∃m,fX E (cQ E m) m n code st=some r:=
 PJ (fun m D r h hr=>dm (bV h) h code hr) r
theorem pD(m:Nat):qZ (cQ E m) (ae E):=fun f a sh r h=>DCall_iff.2 ⟨m,h⟩
theorem Na{D:Nat}{st:St}{f:Nat}{args:List T}{r:T×St}(hr:br E (ae E) D st f args=some r): ∃m,br E (cQ E m) D st f args=some r:=by
 unfold br at hr
 cases H:E.fn f with
 |none=>refine⟨0, ?_⟩;unfold br;cases hx:E.ext f <;> simp only[H,hx]at hr ⊢ <;> exact hr
 |some af=>
  simp only[H]at hr
  grind [br,Option.map_eq_some_iff,DCall_iff.1]
theorem Nb{D:Nat}{st:St}{f:Nat}{args:List T}{r:FP}(hr:eN E (ae E) D st f args=some r): ∃m,eN E (cQ E m) D st f args=some r:=by
 unfold eN at hr
 cases H:E.fn f with
 |none=>refine⟨0, ?_⟩;unfold eN;cases hx:E.ext f <;> simp only[H,hx]at hr ⊢ <;> exact hr
 |some af=>
  simp only[H]at hr
  cases I:(bo (fz af.eff aJ) args).run st.get st.sh.length with
  |none=>grind
  |some q=>
   simp only[I]at hr
   by_cases hi:(!inB st q.2)=true
   ·grind
   ·rw[if_neg hi]at hr
    cases J:af.eff with
    |true=>
     simp_all[eN]
    |false=>
     grind [eN,DCall_iff.1]
def Ch{n:Nat}{o:aG}{st H:St}(hr:bp E (ae E) n o st=some H): ∃m,bp E (cQ E m) n o st=some H:=by
 cases hc:bD st.rho o.op with
 |none=>
  simp_all[bp]
 |some x=>
  cases x with
  |none=>
   simp_all[bp]
  |some D=>
   cases I:br E (ae E) (o.d.getD 0) st D.1 D.2 with
   |none=>
    refine⟨0, ?_⟩
    have h0:br E (cQ E 0) (o.d.getD 0) st D.1 D.2=none:=by
     cases h0:br E (cQ E 0) (o.d.getD 0) st D.1 D.2 with
     |none=>rfl
     |some r=>rw[zI (pD 0) h0]at I;cases I
    grind [bp]
   |some r=>
    grind [bp,Na]
def Nc{o:aG}{st:St}{r:FP}(hr:bU E (ae E) o st=some r): ∃m,bU E (cQ E m) o st=some r:=by
 cases hc:bD st.rho o.op with
 |none=>
  simp_all[bU]
 |some x=>
  cases x with
  |none=>
   simp_all[bU]
  |some D=>
   cases H:eN E (ae E) (o.d.getD 0) st D.1 D.2 with
   |none=>
    refine⟨0, ?_⟩
    have h0:eN E (cQ E 0) (o.d.getD 0) st D.1 D.2=none:=by
     cases h0:eN E (cQ E 0) (o.d.getD 0) st D.1 D.2 with
     |none=>rfl
     |some r=>rw[zJ (pD 0) h0]at H;cases H
    grind [bU]
   |some r=>
    grind [bU,Nb]
theorem sC{n:Nat}: ∀(os:List aG) {st r:St},aj E (ae E) n os st=some r→ ∃m,aj E (cQ E m) n os st=some r
 | [],st,r,hr=>⟨0,hr⟩
 |o::os,st,r,hr=>by
  simp only[aj]at hr
  cases I:bp E (ae E) n o st with
  |none=>grind
  |some s=>
   simp only[I]at hr
   obtain⟨D,h1⟩:=Ch I
   obtain⟨H,h2⟩:=sC os hr
   refine⟨max D H, ?_⟩
   simp only[aj,mW (bV (Nat.le_max_left D H)) h1]
   exact gf (bV (Nat.le_max_right D H)) os h2
theorem Ci{n:Nat}: ∀(os:List (List Nat×aG)) {bu:List FP} {st H:St},aK E (ae E) n os bu st=some H→ ∃m,aK E (cQ E m) n os bu st=some H
 | [],bu,st,H,hr=>⟨0,hr⟩
 |(u,o)::os,bu,st,H,hr=>by
  simp only[aK]at hr
  cases I:bU E (ae E) o st with
  |none=>grind
  |some fp=>
   simp only[I]at hr
   split at hr
   ·rename_i K
    cases J:bp E (ae E) n o st with
    |none=>grind
    |some s=>
     simp only[J]at hr
     obtain⟨r,h1⟩:=Ch J
     obtain⟨D,h2⟩:=Ci os hr
     obtain⟨m3,h3⟩:=Nc I
     refine⟨max m3 (max r D), ?_⟩
     have N:r≤max m3 (max r D):=zV
     have O:D≤max m3 (max r D):=zV
     have U:m3≤max m3 (max r D):=zV
     simp only[aK,zK (bV U) h3,mW (bV N) h1]
     rw[if_pos K]
     exact mX (bV O) os h2
   ·cases hr
def pF{α:Type}{x y:Option α}(h: ∀r,x=some r↔y=some r):x=y:=Option.ext h
def aeQ{n:Nat}{st:St}:DC E n .skip st=some (.nrm,st):=dt.2 ⟨0,rfl⟩
def aeR{n id:Nat}{st:St}:DC E n (.exit id) st=some (.ext id,st):=dt.2 ⟨0,rfl⟩
def an4{n:Nat}{st:St}:DC E n .ret st=some (.ret,st):=dt.2 ⟨0,rfl⟩
theorem Fb{n:Nat}{ops:List aG}{st:St}:DC E n (.region ops) st=(aj E (ae E) n ops st).map fun D=>(.nrm,D):=by
 refine pF fun r=> ?_
 rw[dt,Option.map_eq_some_iff]
 constructor
 ·rintro⟨m,h⟩
  simp only[fX,Option.map_eq_some_iff]at h
  obtain⟨a,h1,h2⟩:=h
  exact⟨a,gf (pD m) ops h1,h2⟩
 grind [fX,Option.map_eq_some_iff,sC]
theorem J7{n:Nat}{ops:List (List Nat×aG)}{st:St}:DC E n (.draws ops) st=(aK E (ae E) n ops [] st).map fun D=>(.nrm,D):=by
 refine pF fun r=> ?_
 rw[dt,Option.map_eq_some_iff]
 constructor
 ·rintro⟨m,h⟩
  simp only[fX,Option.map_eq_some_iff]at h
  obtain⟨a,h1,h2⟩:=h
  exact⟨a,mX (pD m) ops h1,h2⟩
 grind [fX,Option.map_eq_some_iff,Ci]
def andThen(x:Option (Out×St))(f:St→Option (Out×St)):Option (Out×St):=
 match x with
 |some (.nrm,D)=>f D
 |r=>r
theorem mY{st:St}{f:St→Option (Out×St)}:andThen (some (.nrm,st)) f=f st:=rfl
def J8{id:Nat}{st:St}{f:St→Option (Out×St)}:andThen (some (.ext id,st)) f=some (.ext id,st):=rfl
def J9{st:St}{f:St→Option (Out×St)}:andThen (some (.ret,st)) f=some (.ret,st):=rfl
def GK{f:St→Option (Out×St)}:andThen none f=none:=rfl
theorem GL{n:Nat}{a b:ak}{st:St}:DC E n (.seq a b) st=andThen (DC E n a st) (DC E n b):=by
 refine pF fun r=> ?_
 rw[dt]
 constructor
 ·rintro⟨m,h⟩
  simp only[fX]at h
  cases D:fX E (cQ E m) m n a st with
  |none=>grind
  |some p=>
   rw[D]at h
   rw[dt.2 ⟨m,D⟩]
   obtain⟨o,s⟩:=p
   cases o with
   |nrm=>exact dt.2 ⟨m,h⟩
   |ext id=>exact h
   |ret=>exact h
 ·intro h
  cases D:DC E n a st with
  |none=>rw[D]at h;cases h
  |some p=>
   rw[D]at h
   obtain⟨H,h1⟩:=dt.1 D
   obtain⟨o,s⟩:=p
   cases o with
   |nrm=>
    obtain⟨I,h2⟩:=dt.1 h
    refine⟨max H I, ?_⟩
    have J:=Nat.le_max_left H I
    have K:=Nat.le_max_right H I
    simp only[fX,dm (bV J) J a h1]
    exact dm (bV K) K b h2
   |ext id=>refine⟨H, ?_⟩;simp only[fX,h1];exact h
   |ret=>refine⟨H, ?_⟩;simp only[fX,h1];exact h
theorem aeS{n:Nat}{c:aV}{a b:ak}{st:St}:DC E n (.cond c a b) st=match st.rho c with| .b true=>DC E n a st| .b false=>DC E n b st|_=>none:=by
 refine pF fun r=> ?_
 grind [dt,fX,dt.2,dt.1]
def zL(id:Nat)(x:Option (Out×St)):Option (Out×St):=
 match x with
 |some (.ext SA,D)=>if SA=id then some (.nrm,D)else some (.ext SA,D)
 |r=>r
def SR{id:Nat}{st:St}:zL id (some (.nrm,st))=some (.nrm,st):=rfl
def SU{id:Nat}{st:St}:zL id (some (.ret,st))=some (.ret,st):=rfl
def SV{id SA:Nat}{st:St}:zL id (some (.ext SA,st))=if SA=id then some (.nrm,st)else some (.ext SA,st):=rfl
def Nd{id:Nat}:zL id none=none:=rfl
def Yp{n id:Nat}{a:ak}{st:St}:DC E n (.block id a) st=zL id (DC E n a st):=by
 refine pF fun r=> ?_
 rw[dt]
 constructor
 ·rintro⟨m,h⟩
  simp only[fX]at h
  cases D:fX E (cQ E m) m n a st with
  |none=>grind
  |some p=>
   rw[D]at h
   rw[dt.2 ⟨m,D⟩]
   exact h
 ·intro h
  cases D:DC E n a st with
  |none=>rw[D]at h;cases h
  |some p=>
   rw[D]at h
   obtain⟨H,h1⟩:=dt.1 D
   refine⟨H, ?_⟩
   simp only[fX,h1]
   exact h
theorem sD{n:Nat}{a:ak}{st:St}:DC E n (.loop a) st=andThen (DC E n a st) (DC E n (.loop a)):=by
 refine pF fun r=> ?_
 rw[dt]
 constructor
 ·rintro⟨m,h⟩
  simp only[fX]at h
  cases m with
  |zero=>simp[iter]at h
  |succ m=>
   rw[iter]at h
   cases H:fX E (cQ E (m+1)) (m+1) n a st with
   |none=>grind
   |some p=>
    rw[H]at h
    rw[dt.2 ⟨m+1,H⟩]
    obtain⟨o,s⟩:=p
    cases o with
    |nrm=>
     refine dt.2 ⟨m+1, ?_⟩
     simp only[fX]
     exact sA (fun _ _ h=>h) (Nat.le_succ m) h
    |ext id=>exact h
    |ret=>exact h
 ·intro h
  cases H:DC E n a st with
  |none=>rw[H]at h;cases h
  |some p=>
   rw[H]at h
   obtain⟨D,h1⟩:=dt.1 H
   obtain⟨o,s⟩:=p
   cases o with
   |nrm=>
    obtain⟨I,h2⟩:=dt.1 h
    refine⟨max D I+1, ?_⟩
    have J:D≤max D I+1:=zV
    have K:I≤max D I+1:=zV
    have N:I≤max D I:=zV
    simp only[fX]at h2
    simp only[fX]
    rw[iter,dm (bV J) J a h1]
    exact sA (fun st r O=>dm (bV K) K a O) N h2
   |ext id=>
    refine⟨D+1, ?_⟩
    simp only[fX]
    rw[iter,dm (bV (Nat.le_succ D)) (Nat.le_succ D) a h1]
    exact h
   |ret=>
    refine⟨D+1, ?_⟩
    simp only[fX]
    rw[iter,dm (bV (Nat.le_succ D)) (Nat.le_succ D) a h1]
    exact h
def ale(af:ai)(x:Option (Out×St)):Option (T×List ah):=
 match x with
 |some (.ext _,_)=>none
 |some (_,st)=>match iO st af.res with
  |some r=>sg af.own af.eff r st
  |none=>none
 |none=>none
theorem Yq{f:Nat}{af:ai}{args:List T}{sh:List ah}(D:E.fn f=some af)(H:args.length≤af.n):
  ae E f args sh=ale af (DC E af.n af.code {fr:=lI args,lh:= .nil,sh}):=by
 refine pF fun r=> ?_
 rw[DCall_iff]
 constructor
 ·rintro⟨m,h⟩
  cases m with
  |zero=>simp[cQ]at h
  |succ m=>
   simp only[cQ,D,if_neg (Nat.not_lt.2 H)]at h
   cases hc:fX E (cQ E m) m af.n af.code {fr:=lI args,lh:= .nil,sh}with
   |none=>grind
   |some p=>rw[hc]at h;rw[dt.2 ⟨m,hc⟩];exact h
 ·intro h
  cases hc:DC E af.n af.code {fr:=lI args,lh:= .nil,sh}with
  |none=>rw[hc]at h;cases h
  |some p=>
   rw[hc]at h
   obtain⟨m,I⟩:=dt.1 hc
   refine⟨m+1, ?_⟩
   simp only[cQ,D,if_neg (Nat.not_lt.2 H),I]
   exact h
end
def nr{α:Sort _}{a b:α}(h:a=b):a=b:=h
def rd(fr:Fr):aV→T
 | .t k=>aa fr k
 | .c v=>v
def aG7(fr:Fr)(k:Nat):rd fr (.t k)=aa fr k:=nr rfl
def aG8(fr:Fr)(v:T):rd fr (.c v)=v:=nr rfl
theorem dw(fr:Fr)(lh:aE ah)(sh:List ah):(St.mk fr lh sh).rho=rd fr:=by funext x;cases x <;> rfl
def Yr(fr:Fr)(d:Nat)(v:T):aa (cN fr d v) d=v:=by rw[lU,if_pos rfl]
theorem Ys(fr:Fr){d m:Nat}(v:T)(h:m≠d):aa (cN fr d v) m=aa fr m:=by rw[lU,if_neg h]
def ab(lh:aE ah)(k:Nat):ah:=aE.get eS lh k
def jB(lh:aE ah)(k:Nat)(e:ah):aE ah:=aE.set eS lh k e
def oy(lh:aE ah)(k:Nat)(e:ah):ab (jB lh k e) k=e:=by grind [ab,jB,aE.get_set]
theorem bq(lh:aE ah){k m:Nat}(e:ah)(h:m≠k):ab (jB lh k e) m=ab lh m:=by grind [ab,jB,aE.get_set]
def Yt(k:Nat):ab .nil k=eS:=by unfold ab;exact aE.get_nil _ _
theorem PK(fr:Fr)(lh:aE ah)(sh:List ah)(k:Nat):(St.mk fr lh sh).get .L k=ab lh k:=rfl
theorem Ay(st:St):st.ups []=st:=rfl
theorem alf(fr:Fr)(lh:aE ah)(sh:List ah)(k:Nat)(e:ah)(us:List Up):(St.mk fr lh sh).ups ((.L,k,e)::us)=(St.mk fr (jB lh k e) sh).ups us:=rfl
def lz:Option BB→Option (T×List Up)
 |some (.val v r)=>some (v,r)
 |none=>none
def one(fr:Fr)(lh:aE ah)(sh:List ah)(d:Nat)(op:mP):Option (T×List Up):=
 lz ((bB d (rd fr) op).run (St.mk fr lh sh).get sh.length)
def sW(fr:Fr):Option Nat→T→Fr
 |some d,v=>cN fr d v
 |none,_=>fr
def D3(n:Nat):Option Nat→Prop
 |some d=>d<n
 |none=>True
section
variable{E:Env}{call:ku}{n:Nat}{fr:Fr}{lh:aE ah}{sh:List ah}{os:List aG}
def aAr{st:St}:aj E call n [] st=some st:=rfl
theorem lA{d:Option Nat}{op:mP}(hc:bD (rd fr) op=none)(D:D3 n d):
  aj E call n (⟨d,op,none⟩::os) ⟨fr,lh,sh⟩=(one fr lh sh (d.getD 0) op).bind fun r=>aj E call n os {(St.mk fr lh sh).ups r.2 with fr:=sW fr d r.1}:=by
 simp only[aj,bp,dw,hc]
 unfold one
 cases h:(bB (d.getD 0) (rd fr) op).run (St.mk fr lh sh).get sh.length with
 |none=>rfl
 |some r=>
  obtain⟨v,ups⟩:=r
  simp only[Option.bind_some,lz]
  cases d with
  |none=>rfl
  |some d=>simp only[im,if_pos (show d<n from D),sW,Option.map_some]
def dC{d:Option Nat}{op:mP}(hc:bD (rd fr) op=none)(r:D3 n d){v:Option T}(h1:one fr lh sh (d.getD 0) op=v.map fun v=>(v,[])):
  aj E call n (⟨d,op,none⟩::os) ⟨fr,lh,sh⟩=v.bind fun v=>aj E call n os ⟨sW fr d v,lh,sh⟩:=by
 rw[lA hc r,h1]
 cases v <;> rfl
def jr{o:Option T}{h:Sp→Nat→ah}{nx:Nat}:lz ((val o).run h nx)=o.map fun v=>(v,([]:List Up)):=by
 cases o <;> rfl
variable{d:Nat}
def aG9{x:aV}(r:d<n):aj E call n (⟨some d,.mv x,none⟩::os) ⟨fr,lh,sh⟩=aj E call n os ⟨cN fr d (rd fr x),lh,sh⟩:=
 dC (d:=some d) (v:=some (rd fr x)) (by rfl) r rfl
def PL(c a b:T):Option T:=match c with| .b x=>some (if x=true then a else b)|_=>none
def aeT(x:Bool)(a b:T):PL (.b x) a b=some (if x=true then a else b):=rfl
def an5{c a b:aV}(r:d<n):aj E call n (⟨some d,.pick c a b,none⟩::os) ⟨fr,lh,sh⟩=(PL (rd fr c) (rd fr a) (rd fr b)).bind fun v=>aj E call n os ⟨cN fr d v,lh,sh⟩:=by
 refine dC (d:=some d) (by rfl) r ?_
 unfold one PL
 simp only[bB]
 cases h:rd fr c <;> try rfl
 rename_i x
 cases x <;> rfl
def aAs{op:BinOp}{x y:aV}(r:d<n):aj E call n (⟨some d,.bin op x y,none⟩::os) ⟨fr,lh,sh⟩=(Ev.bin op (rd fr x) (rd fr y)).bind fun v=>aj E call n os ⟨cN fr d v,lh,sh⟩:=
 dC (d:=some d) (by rfl) r jr
def aHa{neg:Bool}{k:EK}{x y:aV}(D:d<n):aj E call n (⟨some d,.eq neg k x y,none⟩::os) ⟨fr,lh,sh⟩=((sS k (rd fr x) (rd fr y)).map fun r=>T.b (r != neg)).bind fun v=>aj E call n os ⟨cN fr d v,lh,sh⟩:=
 dC (d:=some d) (by rfl) D jr
def aHb{op:UnOp}{x:aV}(r:d<n):aj E call n (⟨some d,.un op x,none⟩::os) ⟨fr,lh,sh⟩=(Ev.un op (rd fr x)).bind fun v=>aj E call n os ⟨cN fr d v,lh,sh⟩:=
 dC (d:=some d) (by rfl) r jr
def aeU(k:IntKind):T→Option T
 | .i _ n=>some (.i k (wr k n))
 |_=>none
def aAt{k:IntKind}{x:aV}(r:d<n):aj E call n (⟨some d,.cvi k x,none⟩::os) ⟨fr,lh,sh⟩=(aeU k (rd fr x)).bind fun v=>aj E call n os ⟨cN fr d v,lh,sh⟩:=by
 refine dC (d:=some d) (by rfl) r ?_
 unfold one aeU
 simp only[bB]
 cases h:rd fr x <;> rfl
def aeV:T→Option T
 | .sl [.i .u8 (.ofNat k)] 1 _=>if k<256 then some (.s [k])else none
 |_=>none
def aAu{x:aV}(r:d<n):aj E call n (⟨some d,.b2s x,none⟩::os) ⟨fr,lh,sh⟩=(aeV (rd fr x)).bind fun v=>aj E call n os ⟨cN fr d v,lh,sh⟩:=by
 refine dC (d:=some d) (by rfl) r ?_
 unfold one aeV
 simp only[bB]
 generalize rd fr x=y
 split
 ·rename_i k ex
  by_cases hk:k<256
  ·rw[if_pos hk];simp only[hk,if_true];rfl
  ·rw[if_neg hk];simp only[hk,if_false];rfl
 ·rename_i h
  split
  ·rename_i k ex;exact absurd rfl (h k ex)
  ·rfl
def GM(fr:Fr)(z:List T)(ps:List (Nat×Nat×aV)):Option T:=
 if(ps.all fun p=>(cellsOf (rd fr p.2.2)).length=p.2.1&&noTup (rd fr p.2.2))=true then(lu z (ps.map fun p=>(p.1,cellsOf (rd fr p.2.2)))).map .agg else none
def aeW{z:List T}{ps:List (Nat×Nat×aV)}(r:d<n):aj E call n (⟨some d,.build z ps,none⟩::os) ⟨fr,lh,sh⟩=(GM fr z ps).bind fun v=>aj E call n os ⟨cN fr d v,lh,sh⟩:=by
 refine dC (d:=some d) (by rfl) r ?_
 unfold one GM
 simp only[bB]
 split
 ·exact jr
 ·rfl
def tZ(fr:Fr)(x:T)(l h:Option aV):Option T:=
 match x with
 | .s r=>match dN (rd fr) 0 l,dN (rd fr) r.length h with
   |some l,some h=>if l≤h∧h≤r.length then some (.s ((r.drop l).take (h-l)))else none
   |_,_=>none
 |_=>none
def aAv{x:aV}{l h:Option aV}(H:d<n):aj E call n (⟨some d,.slS x l h,none⟩::os) ⟨fr,lh,sh⟩=(tZ fr (rd fr x) l h).bind fun v=>aj E call n os ⟨cN fr d v,lh,sh⟩:=by
 refine dC (d:=some d) (by rfl) H ?_
 unfold one tZ
 simp only[bB]
 cases hx:rd fr x <;> try rfl
 rename_i r
 simp only[]
 cases h1:dN (rd fr) 0 l <;> cases h2:dN (rd fr) r.length h <;> try rfl
 rename_i a b
 simp only[Bool.and_eq_true,decide_eq_true_eq]
 by_cases D:a≤b∧b≤r.length
 ·simp only[if_pos D];rfl
 ·simp only[if_neg D];rfl
def faV(x:T)(off:Nat):Option T:=
 match x with
 | .vp cs=>if off≤cs.length then some (.vp (cs.drop off))else none
 | .ptr sp k g o=>some (.ptr sp k g (o+off))
 |_=>none
def aHc{x:aV}{off:Nat}(r:d<n):aj E call n (⟨some d,.fa x off,none⟩::os) ⟨fr,lh,sh⟩=(faV (rd fr x) off).bind fun v=>aj E call n os ⟨cN fr d v,lh,sh⟩:=by
 refine dC (d:=some d) (by rfl) r ?_
 unfold one faV
 simp only[bB]
 cases hx:rd fr x <;> try rfl
 rename_i cs
 simp only[]
 split <;> rfl
def aeX(x:T)(off n:Nat)(r:Bool):Option T:=match x with| .agg cs=>part cs off n r|_=>none
def aAx{x:aV}{off m:Nat}{r:Bool}(D:d<n):aj E call n (⟨some d,.fld x off m r,none⟩::os) ⟨fr,lh,sh⟩=(aeX (rd fr x) off m r).bind fun v=>aj E call n os ⟨cN fr d v,lh,sh⟩:=by
 refine dC (d:=some d) (by rfl) D ?_
 unfold one aeX
 simp only[bB]
 cases hx:rd fr x <;> try rfl
 exact jr
def iaV(x r:T)(sz:Nat):Option T:=
 match asNat r,x with
 |some j,.sl cs len _=>if j<len∧(j+1)*sz≤cs.length then some (.vp (cs.drop (j*sz)))else none
 |some j,.isl sp k g off len D=>if j<len∧D=sz then some (.ptr sp k g (off+j*sz))else none
 |_,_=>none
def aHd{x r:aV}{sz:Nat}(D:d<n):aj E call n (⟨some d,.ia x r sz,none⟩::os) ⟨fr,lh,sh⟩=(iaV (rd fr x) (rd fr r) sz).bind fun v=>aj E call n os ⟨cN fr d v,lh,sh⟩:=by
 refine dC (d:=some d) (by rfl) D ?_
 unfold one iaV
 simp only[bB]
 cases h1:asNat (rd fr r)with
 |none=>rfl
 |some j=>
  cases hx:rd fr x <;> try rfl
  ·simp only[Bool.and_eq_true,decide_eq_true_eq];split <;> rfl
  ·simp only[Bool.and_eq_true,decide_eq_true_eq];split <;> rfl
def eY(x r:T)(len sz:Nat):Option T:=
 match asNat r,x with
 |some j,.vp cs=>if j<len∧(j+1)*sz≤cs.length then some (.vp (cs.drop (j*sz)))else none
 |some j,.ptr sp k g off=>if j<len then some (.ptr sp k g (off+j*sz))else none
 |_,_=>none
def aAy{x r:aV}{len sz:Nat}(D:d<n):aj E call n (⟨some d,.iaA x r len sz,none⟩::os) ⟨fr,lh,sh⟩=(eY (rd fr x) (rd fr r) len sz).bind fun v=>aj E call n os ⟨cN fr d v,lh,sh⟩:=by
 refine dC (d:=some d) (by rfl) D ?_
 unfold one eY
 simp only[bB]
 cases h1:asNat (rd fr r)with
 |none=>rfl
 |some j=>
  cases hx:rd fr x <;> try rfl
  ·simp only[Bool.and_eq_true,decide_eq_true_eq];split <;> rfl
  ·simp only[];split <;> rfl
def D4(x r:T):Option T:=
 match asNat r,x with
 |some j,.s D=>D[j]?.map fun c=> .i .u8 c
 |_,_=>none
def aAz{x r:aV}(D:d<n):aj E call n (⟨some d,.ixS x r,none⟩::os) ⟨fr,lh,sh⟩=(D4 (rd fr x) (rd fr r)).bind fun v=>aj E call n os ⟨cN fr d v,lh,sh⟩:=by
 refine dC (d:=some d) (by rfl) D ?_
 unfold one D4
 simp only[bB]
 cases h1:asNat (rd fr r)with
 |none=>rfl
 |some j=>
  cases hx:rd fr x <;> try rfl
  rename_i H
  simp only[]
  cases I:H[j]? <;> rfl
def aeY(x r:T)(len sz:Nat)(D:Bool):Option T:=
 match asNat r,x with
 |some j,.agg cs=>if j<len then part cs (j*sz) sz D else none
 |_,_=>none
def aAA{x r:aV}{len sz:Nat}{D:Bool}(H:d<n):aj E call n (⟨some d,.ixA x r len sz D,none⟩::os) ⟨fr,lh,sh⟩=(aeY (rd fr x) (rd fr r) len sz D).bind fun v=>aj E call n os ⟨cN fr d v,lh,sh⟩:=by
 refine dC (d:=some d) (by rfl) H ?_
 unfold one aeY
 simp only[bB]
 cases h1:asNat (rd fr r)with
 |none=>rfl
 |some j=>
  cases hx:rd fr x <;> try rfl
  simp only[]
  split
  ·exact jr
  ·rfl
def aeZ(x:T)(j:Nat):Option T:=match x with| .tup vs=>vs[j]? |_=>none
def aAB{x:aV}{j:Nat}(r:d<n):aj E call n (⟨some d,.ext x j,none⟩::os) ⟨fr,lh,sh⟩=(aeZ (rd fr x) j).bind fun v=>aj E call n os ⟨cN fr d v,lh,sh⟩:=by
 refine dC (d:=some d) (by rfl) r ?_
 unfold one aeZ
 simp only[bB]
 cases hx:rd fr x <;> try rfl
 exact jr
def PM(x:T):Option T:=match x with| .s bs=>some (.i .i64 bs.length)|_=>none
def an7{x:aV}(r:d<n):aj E call n (⟨some d,.lenS x,none⟩::os) ⟨fr,lh,sh⟩=(PM (rd fr x)).bind fun v=>aj E call n os ⟨cN fr d v,lh,sh⟩:=by
 refine dC (d:=some d) (by rfl) r ?_
 unfold one PM
 simp only[bB]
 cases hx:rd fr x <;> rfl
theorem an8{x:aV}(r:d<n):aj E call n (⟨some d,.lenV x,none⟩::os) ⟨fr,lh,sh⟩=((lK (rd fr x)).map fun m=>T.i .i64 m).bind fun v=>aj E call n os ⟨cN fr d v,lh,sh⟩:=
 dC (d:=some d) (by rfl) r jr
def mmV(r:Bool)(l:List T):Option T:=match l with|x::rest=>il r x rest| []=>none
def aHe{r:Bool}{args:List aV}(H:d<n):aj E call n (⟨some d,.mm r args,none⟩::os) ⟨fr,lh,sh⟩=(mmV r (args.map (rd fr))).bind fun v=>aj E call n os ⟨cN fr d v,lh,sh⟩:=by
 refine dC (d:=some d) (by rfl) H ?_
 unfold one mmV
 simp only[bB]
 cases hx:args.map (rd fr)with
 |nil=>rfl
 |cons x D=>exact jr
def GN(x:T):Option T:=match x with| .vp cs=>some (.vp cs)| .ptr sp k g off=>some (.ptr sp k g off)| .fn f a c=>some (.fn f a c)|_=>none
def PN{x:aV}:one fr lh sh d (.nck x)=(GN (rd fr x)).map fun v=>(v,[]):=by
 unfold one GN
 simp only[bB]
 cases hx:rd fr x <;> rfl
def aAD{x:aV}(r:d<n):aj E call n (⟨some d,.nck x,none⟩::os) ⟨fr,lh,sh⟩=(GN (rd fr x)).bind fun v=>aj E call n os ⟨cN fr d v,lh,sh⟩:=
 dC (d:=some d) (by rfl) r PN
def ldE(e:ah)(g off m:Nat)(r:Bool):Option T:=
 match e with
 |⟨D,.cells cs _ _⟩=>if D=g then part cs off m r else none
 |_=>none
def SW{g r off m H:Nat}{D bx:Bool}{cs:List T}:ldE ⟨r,.cells cs H bx⟩ g off m D=if r=g then part cs off m D else none:=rfl
def ldV(lh:aE ah)(sh:List ah)(x:T)(m:Nat)(r:Bool):Option T:=
 match x with
 | .vp cs=>part cs 0 m r
 | .ptr .L k g off=>ldE (ab lh k) g off m r
 | .ptr .S k g off=>ldE (aI sh k) g off m r
 |_=>none
def Yu{α:Type}{o:Option α}{h:Sp→Nat→ah}{nx:Nat}:(Q.of o).run h nx=o:=by cases o <;> rfl
def ldQ{h:Sp→Nat→ah}{nx g off m:Nat}{r:Bool}(e:ah):Q.run h nx (if e.g=g then(match e.ob with| .cells cs _ _=>Q.of (part cs off m r)|_=> .fail)else .fail)=ldE e g off m r:=by
 obtain⟨H,ob⟩:=e
 unfold ldE
 by_cases D:H=g
 ·cases ob <;> simp only[D,if_true] <;> first|rfl|exact Yu
 ·cases ob <;> simp only[D,if_false] <;> rfl
theorem PO{x:T}{m:Nat}{r:Bool}:(Gm x m r).run (St.mk fr lh sh).get sh.length=ldV lh sh x m r:=by
 unfold Gm ldV
 cases x <;> try rfl
 ·exact Yu
 ·rename_i sp k g off
  cases sp
  ·exact ldQ (ab lh k)
  ·exact ldQ (aI sh k)
theorem bz{α β:Type}{h:Sp→Nat→ah}{nx:Nat}{f:α→Q β}: ∀(q:Q α),(q.bind f).run h nx=(q.run h nx).bind fun a=>(f a).run h nx
 | .ret a=>rfl
 | .fail=>rfl
 | .rd sp k g=>bz (g (h sp k))
 | .new g=>bz (g nx)
def aHf{x:aV}{m:Nat}{r:Bool}(D:d<n):aj E call n (⟨some d,.ld x m r,none⟩::os) ⟨fr,lh,sh⟩=(ldV lh sh (rd fr x) m r).bind fun v=>aj E call n os ⟨cN fr d v,lh,sh⟩:=by
 refine dC (d:=some d) (by rfl) D ?_
 unfold one
 simp only[bB,bz,PO]
 cases ldV lh sh (rd fr x) m r <;> rfl
def ae0{z:List T}(r:d<n):aj E call n (⟨some d,.alloc z false,none⟩::os) ⟨fr,lh,sh⟩=aj E call n os ⟨cN fr d (.ptr .L d ((ab lh d).g+1) 0),jB lh d ⟨(ab lh d).g+1,.cells z 0 true⟩,sh⟩:=by
 rw[lA (by rfl) (show D3 n (some d)from r)];rfl
def aAE{x:aV}(r:d<n)(D:noTup (rd fr x)=true):aj E call n (⟨some d,.box x false,none⟩::os) ⟨fr,lh,sh⟩=aj E call n os ⟨cN fr d (.ptr .L d ((ab lh d).g+1) 0),jB lh d ⟨(ab lh d).g+1,.cells (cellsOf (rd fr x)) 0 true⟩,sh⟩:=by
 rw[lA (by rfl) (show D3 n (some d)from r)]
 unfold one
 simp only[bB,D]
 rfl
def ae1(r:d<n):aj E call n (⟨some d,.mkmap false,none⟩::os) ⟨fr,lh,sh⟩=aj E call n os ⟨cN fr d (.mp .L d ((ab lh d).g+1)),jB lh d ⟨(ab lh d).g+1,.map [] [] false⟩,sh⟩:=by
 rw[lA (by rfl) (show D3 n (some d)from r)];rfl
def Nf(x:T)(bytes:Nat):Option Nat:=match asNat x with|some m=>if m*bytes≤roomy∧m≤roomy then some m else none|none=>none
theorem aoc{z:List T}{bytes:Nat}{x:aV}(r:d<n):aj E call n (⟨some d,.mksl z bytes x false,none⟩::os) ⟨fr,lh,sh⟩=
  (Nf (rd fr x) bytes).bind fun m=>aj E call n os ⟨cN fr d (.isl .L d ((ab lh d).g+1) 0 m z.length),jB lh d ⟨(ab lh d).g+1,.cells (repl z m) 0 (UR z)⟩,sh⟩:=by
 rw[lA (by rfl) (show D3 n (some d)from r)]
 unfold one Nf
 simp only[bB]
 cases asNat (rd fr x)with
 |none=>rfl
 |some m=>
  simp only[Bool.and_eq_true,decide_eq_true_eq]
  split <;> rfl
end
def froz1:T→Bool
 | .b _| .i .. | .s _| .nilsl| .sl .. | .nilptr| .vp _| .nilmp| .vm .. | .nilfn=>true
 |_=>false
def froz:T→Bool
 | .agg cs=>cs.all froz1
 | .tup cs=>cs.all froz1
 | .fn _ a c=>a.all froz1&&c.all froz1
 |t=>froz1 t
theorem re{keep:Bool}{n:Nat}{t:T}(h:froz1 t=true):fz keep (n+1) t= .ret (t,[]):=by
 cases t <;> first|rfl|(simp[froz1]at h)
theorem iP{keep:Bool}{n:Nat}: ∀(ts:List T),ts.all froz1=true→bo (fz keep (n+1)) ts= .ret (ts,[])
 | [],_=>rfl
 |t::ts,h=>by
  simp_all[List.all_cons,Bool.and_eq_true,bo,re,iP,Q.bind,List.append_nil]
theorem GO{keep:Bool}{n:Nat}{cs:List T}:fz keep (n+1) (.agg cs)=(bo (fz keep n) cs).bind fun q=> .ret (.agg q.1,q.2):=rfl
theorem Ng{keep:Bool}{n:Nat}{cs:List T}:fz keep (n+1) (.tup cs)=(bo (fz keep n) cs).bind fun q=> .ret (.tup q.1,q.2):=rfl
theorem alg{keep:Bool}{n f:Nat}{a c:List T}:fz keep (n+1) (.fn f a c)=(bo (fz keep n) a).bind fun p=>(bo (fz keep n) c).bind fun q=> .ret (.fn f p.1 q.1,p.2++q.2):=rfl
theorem kb{keep:Bool}{n:Nat}{t:T}(h:froz t=true):fz keep (n+2) t= .ret (t,[]):=by
 cases t with
 |agg cs=>simp only[froz]at h;rw[GO,iP cs h];rfl
 |tup cs=>simp only[froz]at h;rw[Ng,iP cs h];rfl
 |fn f a c=>simp only[froz,Bool.and_eq_true]at h;rw[alg,iP a h.1,iP c h.2];rfl
 |_=>exact re h
def fzV(lh:aE ah)(sh:List ah)(keep:Bool)(v:T):Option (T×List Up):=(fz keep aJ v).run (St.mk .nil lh sh).get sh.length
def Aa(lh:aE ah)(sh:List ah)(keep:Bool)(r:List T):Option (List T×List Up):=(bo (fz keep aJ) r).run (St.mk .nil lh sh).get sh.length
section
variable{lh:aE ah}{sh:List ah}{keep:Bool}
theorem mi{v:T}(h:froz v=true):fzV lh sh keep v=some (v,[]):=by
 unfold fzV aJ;rw[kb h];rfl
theorem Az:Aa lh sh keep []=some ([],[]):=rfl
theorem js{v:T}{r:List T}:Aa lh sh keep (v::r)=(fzV lh sh keep v).bind fun p=>(Aa lh sh keep r).bind fun q=>some (p.1::q.1,p.2++q.2):=by
 unfold Aa fzV
 rw[bo,bz]
 congr 1
 funext p
 rw[bz]
 rfl
theorem wi{r:List T}(h:r.all froz=true):Aa lh sh keep r=some (r,[]):=by
 induction r with
 |nil=>rfl
 |cons v r ih=>
  simp_all[List.all_cons,Bool.and_eq_true,js,mi]
def Yv(m:Nat)(lh:aE ah)(sh:List ah)(k:Nat)(e:ah)(g off len sz:Nat):Option (T×List Up):=
 match e with
 |⟨r,.cells cs _ false⟩=>if r=g∧off+len*sz≤cs.length then some (.sl ((cs.drop off).take (len*sz)) len false,[(.L,k,⟨g,.cells cs cs.length false⟩)])else none
 |⟨r,.cells cs _ true⟩=>if r=g∧off+len*sz≤cs.length then((bo (fz false m) ((cs.drop off).take (len*sz))).run (St.mk .nil lh sh).get sh.length).map fun q=>(.sl q.1 len false,q.2++ [(.L,k,⟨g,.cells cs cs.length true⟩)])else none
 |_=>none
def aAF{m k g off len sz:Nat}(e:ah):Q.run (St.mk .nil lh sh).get sh.length (if e.g=g then(match e.ob with
        | .cells cs _ false=>if off+len*sz≤cs.length then .ret (T.sl ((cs.drop off).take (len*sz)) len false,[(Sp.L,k,(⟨g,.cells cs cs.length false⟩:ah))])else .fail
        | .cells cs _ true=>if off+len*sz≤cs.length then(bo (fz false m) ((cs.drop off).take (len*sz))).bind fun q=> .ret (T.sl q.1 len false,q.2++ [(Sp.L,k,(⟨g,.cells cs cs.length true⟩:ah))])else .fail
        |_=> .fail)else .fail)=Yv m lh sh k e g off len sz:=by
 obtain⟨H,ob⟩:=e
 unfold Yv
 by_cases r:H=g
 ·cases ob with
  |cells cs I bx=>
   cases bx
   ·grind [Q.run]
   ·by_cases D:off+len*sz≤cs.length
    ·simp only[r,D,if_true,and_self,bz]
     cases (bo (fz false m) ((cs.drop off).take (len*sz))).run (St.mk .nil lh sh).get sh.length <;> rfl
    ·simp[r,D,Q.run]
  |_=>simp[r,Q.run]
 grind [Q.run]
theorem PQ{k g off len sz:Nat}:fzV lh sh keep (.isl .L k g off len sz)=Yv 7 lh sh k (ab lh k) g off len sz:=by
 cases keep <;> exact aAF (ab lh k)
def mpV(k:Nat)(e:ah)(g:Nat):Option (T×List Up):=
 match e with
 |⟨D,.map ks r _⟩=>if D=g then some (.vm ks r,[(.L,k,⟨g,.map ks r true⟩)])else none
 |_=>none
def mpQ{h:Sp→Nat→ah}{nx k g:Nat}(e:ah):Q.run h nx (if e.g=g then(match e.ob with
        | .map ks r _=> .ret (T.vm ks r,[(Sp.L,k,(⟨g,.map ks r true⟩:ah))])
        |_=> .fail)else .fail)=mpV k e g:=by
 obtain⟨D,ob⟩:=e
 unfold mpV
 grind [Q.run]
def aod{k g:Nat}:fzV lh sh keep (.mp .L k g)=mpV k (ab lh k) g:=by
 cases keep <;> exact mpQ (ab lh k)
def SY{k g off:Nat}:fzV lh sh true (.ptr .S k g off)=some (.ptr .S k g off,[]):=rfl
def ae2{cs:List T}:fzV lh sh keep (.agg cs)=((bo (fz keep 7) cs).run (St.mk .nil lh sh).get sh.length).map fun q=>(.agg q.1,q.2):=by
 unfold fzV aJ
 rw[GO,bz]
 cases (bo (fz keep 7) cs).run (St.mk .nil lh sh).get sh.length <;> rfl
def ae3{cs:List T}:fzV lh sh keep (.tup cs)=((bo (fz keep 7) cs).run (St.mk .nil lh sh).get sh.length).map fun q=>(.tup q.1,q.2):=by
 unfold fzV aJ
 rw[Ng,bz]
 cases (bo (fz keep 7) cs).run (St.mk .nil lh sh).get sh.length <;> rfl
end
section
variable{E:Env}{call:ku}{n:Nat}{fr:Fr}{lh:aE ah}{sh:List ah}{os:List aG}{d:Nat}
theorem mj:(St.mk fr lh sh).get=(St.mk .nil lh sh).get:=by funext sp k;cases sp <;> rfl
theorem lW: ∀(us:List Up) (lh:aE ah) (sh:List ah),(St.mk fr lh sh).ups us={(St.mk .nil lh sh).ups us with fr:=fr}
 | [],lh,sh=>rfl
 |(.L,k,e)::us,lh,sh=>lW us (jB lh k e) sh
 |(.S,k,e)::us,lh,sh=>lW us lh (bI sh k e)
def stV(lh:aE ah)(sh:List ah)(x v:T)(m:Nat):Option (aE ah×List ah):=
 match(od x v m).run (St.mk .nil lh sh).get sh.length with
 |some (.val _ us)=>some (((St.mk .nil lh sh).ups us).lh,((St.mk .nil lh sh).ups us).sh)
 |none=>none
def aHg{x v:aV}{m:Nat}:aj E call n (⟨none,.st x v m,none⟩::os) ⟨fr,lh,sh⟩=(stV lh sh (rd fr x) (rd fr v) m).bind fun r=>aj E call n os ⟨fr,r.1,r.2⟩:=by
 rw[lA (by rfl) (show D3 n none from trivial)]
 grind [one,stV,bB,mj,sW,lz,lW]
def GP(lh:aE ah)(sh:List ah)(k:Nat)(e:ah)(g off:Nat)(v:T)(m:Nat):Option (aE ah×List ah):=
 match e with
 |⟨D,.cells cs r true⟩=>if D=g∧(cellsOf v).length=m∧noTup v=true∧r≤off∧off+m≤cs.length then some (jB lh k ⟨g,.cells (splice cs off (cellsOf v)) r true⟩,sh)else none
 |⟨D,.cells cs r false⟩=>if D=g∧(cellsOf v).length=m∧noTup v=true∧r≤off∧off+m≤cs.length then
    (fzV lh sh false v).bind fun p=>if jQ p.2 .L k=true∨noTup p.1=false∨(cellsOf p.1).length≠m then none else some (((St.mk .nil lh sh).ups (p.2++ [(.L,k,⟨g,.cells (splice cs off (cellsOf p.1)) r false⟩)])).lh,((St.mk .nil lh sh).ups (p.2++ [(.L,k,⟨g,.cells (splice cs off (cellsOf p.1)) r false⟩)])).sh)
  else none
 |_=>none
def iA(lh:aE ah)(sh:List ah):Option BB→Option (aE ah×List ah)
 |some (.val _ us)=>some (((St.mk .nil lh sh).ups us).lh,((St.mk .nil lh sh).ups us).sh)
 |none=>none
def ae4(k g off m:Nat)(v:T)(e:ah):Q BB:=if e.g=g then match e.ob with
     | .cells cs r bx=>if r≤off&&off+m≤cs.length then
         (if bx&&Sp.L== .L then .ret (.val aU [(Sp.L,k,⟨g,.cells (splice cs off (cellsOf v)) r bx⟩)])
         else(fz (bx&&Sp.L== .S) aJ v).bind fun p=>if jQ p.2 .L k|| !noTup p.1||(cellsOf p.1).length≠m then .fail else .ret (.val aU (p.2++ [(Sp.L,k,⟨g,.cells (splice cs off (cellsOf p.1)) r bx⟩)])))
       else .fail
     |_=> .fail
    else .fail
def stQ{k g off m:Nat}{v:T}(e:ah)(h1:(cellsOf v).length=m)(h2:noTup v=true):iA lh sh (Q.run (St.mk .nil lh sh).get sh.length (ae4 k g off m v e))=GP lh sh k e g off v m:=by
 obtain⟨I,ob⟩:=e
 unfold GP ae4
 by_cases J:I=g
 ·subst J
  cases ob with
  |none=>simp[Q.run,iA]
  |map ks K z=>simp[Q.run,iA]
  |cells cs r bx=>
   by_cases D:r≤off∧off+m≤cs.length
   ·cases bx with
    |true=>grind [Q.run,alf,Ay,iA]
    |false=>
     have H:(decide (r≤off)&&decide (off+m≤cs.length))=true:=by simp[D.1,D.2]
     simp only[if_true,H,Bool.false_and,Bool.false_eq_true,if_false,bz]
     rw[if_pos (show True∧(cellsOf v).length=m∧noTup v=true∧r≤off∧off+m≤cs.length from⟨trivial,h1,h2,D⟩)]
     show iA lh sh (Option.bind (fzV lh sh false v) _)=_
     cases N:fzV lh sh false v with
     |none=>rfl
     |some p=>
      simp only[Option.bind_some]
      by_cases O:(jQ p.2 .L k=true∨noTup p.1=false∨(cellsOf p.1).length≠m)
      ·grind [Q.run,iA]
      simp_all[Bool.false_eq_true,Q.run,iA,Classical.byContradiction]
   grind [Bool.false_eq_true,Q.run,iA]
 grind [Q.run,iA]
def aAH{k g off m:Nat}{v:T}:stV lh sh (.ptr .L k g off) v m=GP lh sh k (ab lh k) g off v m:=by
 by_cases h1:(cellsOf v).length=m
 ·cases h2:noTup v with
  |false=>
   unfold stV od
   have:(decide ((cellsOf v).length≠m)|| !noTup v)=true:=by simp[h2]
   simp only[this,if_true,Q.run]
   unfold GP
   grind
  |true=>
   unfold stV od
   have:(decide ((cellsOf v).length≠m)|| !noTup v)=false:=by simp[h1,h2]
   simp only[this,Bool.false_eq_true,if_false]
   exact stQ (ab lh k) h1 h2
 ·unfold stV od
  have:(decide ((cellsOf v).length≠m)|| !noTup v)=true:=by simp[h1]
  simp only[this,if_true,Q.run]
  unfold GP
  grind
def ae5{k g D off m r:Nat}{cs:List T}{v:T}:GP lh sh k ⟨D,.cells cs r true⟩ g off v m=if D=g∧(cellsOf v).length=m∧noTup v=true∧r≤off∧off+m≤cs.length then some (jB lh k ⟨g,.cells (splice cs off (cellsOf v)) r true⟩,sh)else none:=rfl
def ae6{k g D off m r:Nat}{cs:List T}{v:T}(H:froz v=true):GP lh sh k ⟨D,.cells cs r false⟩ g off v m=if D=g∧(cellsOf v).length=m∧noTup v=true∧r≤off∧off+m≤cs.length then some (jB lh k ⟨g,.cells (splice cs off (cellsOf v)) r false⟩,sh)else none:=by
 unfold GP
 simp only[mi H,Option.bind_some,jQ,List.any_nil,Bool.false_eq_true,false_or]
 by_cases h:D=g∧(cellsOf v).length=m∧noTup v=true∧r≤off∧off+m≤cs.length
 ·rw[if_pos h,if_pos h,if_neg (by rintro(hc|hc) <;> simp_all)]
  rfl
 ·grind
def slC(lh:aE ah)(sh:List ah)(sz:Nat)(x:T):Option (Nat×List T):=(cu sz x).run (St.mk .nil lh sh).get sh.length
def ae7{sz:Nat}:slC lh sh sz .nilsl=some (0,[]):=rfl
theorem Cj{sz len:Nat}{cs:List T}{ex:Bool}:slC lh sh sz (.sl cs len ex)=if cs.length=len*sz then some (len,cs)else none:=by
 unfold slC cu;simp only[];split <;> rfl
def S0(lh:aE ah)(k:Nat)(e:ah)(g off len sz r bytes:Nat)(p:Nat×List T):Option (T×aE ah):=
 match e with
 |⟨D,.cells cs H false⟩=>if r=sz∧off=0∧(len+p.1)*bytes≤roomy∧D=g∧len*sz=cs.length then some (.isl .L k (g+1) 0 (len+p.1) sz,jB lh k ⟨g+1,.cells (cs++p.2) H false⟩)else none
 |_=>none
def Ck(lh:aE ah)(d sz bytes:Nat)(s:T)(p:Nat×List T):Option (T×aE ah):=
 if p.1=0 then(match s with| .nilsl| .sl .. | .isl .. =>some (s,lh)|_=>none)else
 match s with
 | .nilsl=>if p.1*bytes≤roomy then some (.isl .L d ((ab lh d).g+1) 0 p.1 sz,jB lh d ⟨(ab lh d).g+1,.cells p.2 0 false⟩)else none
 | .sl cs len true=>if cs.length=len*sz∧(len+p.1)*bytes≤roomy then some (.isl .L d ((ab lh d).g+1) 0 (len+p.1) sz,jB lh d ⟨(ab lh d).g+1,.cells (cs++p.2) 0 false⟩)else none
 | .isl .L k g off len r=>S0 lh k (ab lh k) g off len sz r bytes p
 |_=>none
def alh(k g off len sz D bytes:Nat)(p:Nat×List T)(e:ah):Q BB:=
     if e.g=g then match e.ob with
      | .cells cs r false=>if len*sz=cs.length then .ret (.val (.isl .L k (g+1) 0 (len+p.1) sz) [(.L,k,⟨g+1,.cells (cs++p.2) r false⟩)])else .fail
      |_=> .fail
     else .fail
def aHh{k g off len sz D bytes:Nat}{p:Nat×List T}(e:ah)(h1:D=sz∧off=0∧(len+p.1)*bytes≤roomy):
  ((lz (Q.run (St.mk .nil lh sh).get sh.length (alh k g off len sz D bytes p e))).bind fun r=>aj E call n os {(St.mk fr lh sh).ups r.2 with fr:=cN fr d r.1})=
    (S0 lh k e g off len sz D bytes p).bind fun q=>aj E call n os ⟨cN fr d q.1,q.2,sh⟩:=by
 obtain⟨H,ob⟩:=e
 unfold alh S0
 by_cases I:H=g
 ·cases ob with
  |cells cs K bx=>
   cases bx
   ·by_cases J:len*sz=cs.length
    ·simp only[I,J,if_true,Q.run,lz,h1,and_self,Option.bind_some]
     rfl
    ·grind [Q.run,lz]
   ·grind [Q.run,lz]
  |_=>grind [Q.run,lz]
 grind [Q.run,lz]
theorem aAJ{sz bytes:Nat}{s x:aV}(D:d<n)(hs: ∀k g off len sz,rd fr s≠ .isl .S k g off len sz):aj E call n (⟨some d,.app sz bytes s x false false,none⟩::os) ⟨fr,lh,sh⟩=
  (slC lh sh sz (rd fr x)).bind fun p=>(Ck lh d sz bytes (rd fr s) p).bind fun q=>aj E call n os ⟨cN fr d q.1,q.2,sh⟩:=by
 rw[lA (by rfl) (show D3 n (some d)from D)]
 unfold one slC
 simp only[bB,kq,bz,mj]
 cases hx:(cu sz (rd fr x)).run (St.mk .nil lh sh).get sh.length with
 |none=>rfl
 |some p=>
  simp only[Option.bind_some]
  unfold Ck
  by_cases r:p.1=0
  ·simp only[if_pos r]
   cases GQ:rd fr s <;> rfl
  ·simp only[if_neg r]
   cases GQ:rd fr s <;> try rfl
   ·simp only[]
    split <;> rfl
   ·rename_i cs len ex
    cases ex
    ·rfl
    ·simp only[Bool.and_eq_true,decide_eq_true_eq]
     split <;> rfl
   ·rename_i sp k g off len H
    cases sp
    ·simp only[Bool.and_eq_true,decide_eq_true_eq]
     by_cases h1:(H=sz∧off=0)∧(len+p.1)*bytes≤roomy
     ·simp only[if_pos h1]
      exact aHh (ab lh k) ⟨h1.1.1,h1.1.2,h1.2⟩
     ·simp only[if_neg h1,Q.run,lz]
      unfold S0
      grind
    ·grind
def pG(sz:Nat)(x:T)(l h:Nat):Option T:=
 match x with
 | .nilsl=>if l=0∧h=0 then some .nilsl else none
 | .sl cs len ex=>if l≤h∧h≤len∧cs.length=len*sz then some (.sl ((cs.drop (l*sz)).take ((h-l)*sz)) (h-l) (ex&&decide (h=len)))else none
 | .isl sp k g off len r=>if l≤h∧h≤len∧r=sz then some (if l=h then(if sp= .S∧h=0∧off=0 then .isl sp k g 0 0 sz else .sl [] 0 false)else .isl sp k g (off+l*sz) (h-l) sz)else none
 |_=>none
def Yw(fr:Fr)(sz:Nat)(x:T)(l h:Option aV):Option T:=
 (lK x).bind fun m=>(dN (rd fr) 0 l).bind fun l=>(dN (rd fr) m h).bind fun h=>pG sz x l h
theorem S1{sz l h nx:Nat}{x:T}{r:Sp→Nat→ah}:(zp sz x l h).run r nx=pG sz x l h:=by
 unfold zp pG
 cases x <;> try rfl
 ·simp only[Bool.and_eq_true,decide_eq_true_eq];split <;> rfl
 ·simp only[Bool.and_eq_true,decide_eq_true_eq,and_assoc];split <;> rfl
 ·simp only[Bool.and_eq_true,decide_eq_true_eq,and_assoc];split <;> rfl
def aAK{sz:Nat}{x:aV}{l h:Option aV}(r:d<n):aj E call n (⟨some d,.slV sz x l h none,none⟩::os) ⟨fr,lh,sh⟩=(Yw fr sz (rd fr x) l h).bind fun v=>aj E call n os ⟨cN fr d v,lh,sh⟩:=by
 refine dC (d:=some d) (by rfl) r ?_
 unfold one Yw
 simp only[bB]
 cases lK (rd fr x)with
 |none=>rfl
 |some m=>
  simp only[Option.bind_some]
  cases dN (rd fr) 0 l with
  |none=>rfl
  |some l=>
   cases dN (rd fr) m h with
   |none=>rfl
   |some h=>
    simp only[bz,S1,Option.bind_some]
    cases pG sz (rd fr x) l h <;> rfl
def lkE(e:ah)(g:Nat)(r:EK)(k z:T)(D:Bool):Option T:=
 match e with
 |⟨H,.map ks I _⟩=>if H=g then iN r ks I k z D else none
 |_=>none
def lkV(lh:aE ah)(sh:List ah)(r:EK)(m k z:T)(D:Bool):Option T:=
 match m with
 | .nilmp=>if isKey r k=true then some (if D=true then .tup [z,.b false]else z)else none
 | .vm ks H=>iN r ks H k z D
 | .mp .L kk g=>lkE (ab lh kk) g r k z D
 | .mp .S kk g=>lkE (aI sh kk) g r k z D
 |_=>none
def lkQ{h:Sp→Nat→ah}{nx g:Nat}{r:EK}{k z:T}{D:Bool}(e:ah):lz (Q.run h nx (if e.g=g then(match e.ob with| .map ks vs _=>val (iN r ks vs k z D)|_=> .fail)else .fail))=(lkE e g r k z D).map fun v=>(v,[]):=by
 obtain⟨I,ob⟩:=e
 unfold lkE
 by_cases H:I=g
 ·cases ob <;> simp only[H,if_true] <;> first|rfl|exact jr
 ·cases ob <;> simp only[H,if_false] <;> rfl
def aHi{r:EK}{m k:aV}{z:T}{D:Bool}(H:d<n):aj E call n (⟨some d,.lk r m k z D,none⟩::os) ⟨fr,lh,sh⟩=(lkV lh sh r (rd fr m) (rd fr k) z D).bind fun v=>aj E call n os ⟨cN fr d v,lh,sh⟩:=by
 refine dC (d:=some d) (by rfl) H ?_
 unfold one lkV
 simp only[bB]
 cases I:rd fr m <;> try rfl
 ·simp only[];split <;> rfl
 ·exact jr
 ·rename_i sp kk g
  cases sp
  ·exact lkQ (ab lh kk)
  ·exact lkQ (aI sh kk)
def muE(lh:aE ah)(kk:Nat)(e:ah)(g:Nat)(r:EK)(k v:T):Option (aE ah):=
 match e with
 |⟨D,.map ks H false⟩=>if D=g∧isKey r k=true then(l8 r k v ks H).map fun q=>jB lh kk ⟨g,.map q.1 q.2 false⟩else none
 |_=>none
def ae8(kk g:Nat)(r:EK)(k v:T)(e:ah):Q BB:=if e.g=g&&isKey r k then match e.ob with
      | .map ks D false=>(fz false aJ v).bind fun p=>match l8 r k p.1 ks D with
        |some q=>if jQ p.2 .L kk then .fail else .ret (.val aU (p.2++ [(.L,kk,⟨g,.map q.1 q.2 false⟩)]))
        |none=> .fail
      |_=> .fail
     else .fail
def muQ{kk g:Nat}{D:EK}{k v:T}(e:ah)(J:froz v=true):((lz (Q.run (St.mk fr lh sh).get sh.length (ae8 kk g D k v e))).bind fun r=>aj E call n os {(St.mk fr lh sh).ups r.2 with fr:=fr})=
  (muE lh kk e g D k v).bind fun aN=>aj E call n os ⟨fr,aN,sh⟩:=by
 obtain⟨I,ob⟩:=e
 unfold ae8 muE
 by_cases H:I=g∧isKey D k=true
 ·have:(decide (I=g)&&isKey D k)=true:=by simp[H.1,H.2]
  simp only[this,if_true]
  cases ob with
  |none=>rfl
  |cells cs N bx=>rfl
  |map ks K z=>
   cases z with
   |true=>rfl
   |false=>
    simp only[if_pos H]
    unfold aJ
    rw[kb J]
    simp only[Q.bind]
    cases l8 D k v ks K with
    |none=>rfl
    |some q=>simp only[jQ,List.any_nil,Bool.false_eq_true,if_false,Q.run,List.nil_append];rfl
 grind [Bool.false_eq_true,Q.run,lz]
theorem aAL{r:EK}{m k v:aV}{kk g:Nat}(D:rd fr m= .mp .L kk g)(H:froz (rd fr v)=true):aj E call n (⟨none,.mu r m k v,none⟩::os) ⟨fr,lh,sh⟩=(muE lh kk (ab lh kk) g r (rd fr k) (rd fr v)).bind fun aN=>aj E call n os ⟨fr,aN,sh⟩:=by
 rw[lA (by rfl) (show D3 n none from trivial)]
 unfold one
 simp only[bB,D]
 exact muQ (ab lh kk) H
def muV(lh:aE ah)(r:EK)(m k v:T):Option (aE ah):=
 match m with
 | .mp .L kk g=>muE lh kk (ab lh kk) g r k v
 |_=>none
theorem aHj{r:EK}{m k v:aV}(H: ∀kk g,rd fr m≠ .mp .S kk g)(D:froz (rd fr v)=true):aj E call n (⟨none,.mu r m k v,none⟩::os) ⟨fr,lh,sh⟩=(muV lh r (rd fr m) (rd fr k) (rd fr v)).bind fun aN=>aj E call n os ⟨fr,aN,sh⟩:=by
 cases h:rd fr m with
 |mp sp kk g=>
  cases sp with
  |L=>rw[aAL h D];rfl
  |S=>grind
 |_=>
  rw[lA (by rfl) (show D3 n none from trivial)]
  unfold one
  simp only[bB,h]
  rfl
def S2(z:List T)(len:Nat)(D:List Nat)(r:List T):Option T:=
 if(r.all fun v=>(cellsOf v).length=z.length&&noTup v)=true then(lu (repl z len) ((D.map fun i=>i*z.length).zip (r.map cellsOf))).map fun cs=> .sl cs len true else none
theorem aAN{z:List T}{len:Nat}{ps:List (Nat×aV)}(r:d<n):aj E call n (⟨some d,.bsl z len ps,none⟩::os) ⟨fr,lh,sh⟩=
  (Aa lh sh false (ps.map fun p=>rd fr p.2)).bind fun q=>(S2 z len (ps.map (·.1)) q.1).bind fun v=>aj E call n os {(St.mk fr lh sh).ups q.2 with fr:=cN fr d v}:=by
 rw[lA (by rfl) (show D3 n (some d)from r)]
 unfold one Aa S2
 simp only[bB,bz,mj]
 cases (bo (fz false aJ) (ps.map fun p=>rd fr p.2)).run (St.mk .nil lh sh).get sh.length with
 |none=>rfl
 |some q=>
  simp only[Option.bind_some]
  have e:(ps.map (·.1)).map (fun i=>i*z.length)=ps.map fun p=>p.1*z.length:=by rw[List.map_map];rfl
  rw[e]
  split
  ·cases lu (repl z len) ((ps.map fun p=>p.1*z.length).zip (q.1.map cellsOf)) <;> rfl
  ·rfl
def Nh{d:Option Nat}{op:mP}{f:Nat}{args:List T}(hc:bD (rd fr) op=some (some (f,args)))(D:D3 n d):
  aj E call n (⟨d,op,none⟩::os) ⟨fr,lh,sh⟩=(br E call (d.getD 0) ⟨fr,lh,sh⟩ f args).bind fun r=>aj E call n os ⟨sW fr d r.1,r.2.lh,r.2.sh⟩:=by
 simp only[aj,bp,dw,hc]
 cases br E call (d.getD 0) ⟨fr,lh,sh⟩ f args with
 |none=>rfl
 |some r=>
  simp only[Option.bind_some]
  cases d with
  |none=>rfl
  |some d=>simp only[im,if_pos (show d<n from D),sW,Option.map_some]
def aoe{f:Nat}{as:List aV}(D:d<n):aj E call n (⟨some d,.callf f as,none⟩::os) ⟨fr,lh,sh⟩=(br E call d ⟨fr,lh,sh⟩ f (as.map (rd fr))).bind fun r=>aj E call n os ⟨cN fr d r.1,r.2.lh,r.2.sh⟩:=
 Nh (d:=some d) rfl D
theorem JD{D:Nat}{af:ai}{f:Nat}{args:List T}(H:E.fn f=some af)(I:af.eff=false)(J:af.own=none):br E call D ⟨fr,lh,sh⟩ f args=
  (Aa lh sh false args).bind fun q=>(call f q.1 []).bind fun r=>some (r.1,if scalar r.1=true then⟨fr,lh,sh⟩else(St.mk fr lh sh).ups q.2):=by
 grind [br,Aa,mj,Bool.false_eq_true]
theorem JC{D:Nat}{af:ai}{f:Nat}{args:List T}(H:E.fn f=some af)(I:af.eff=false)(J:af.own=none)(K:args.all froz=true):br E call D ⟨fr,lh,sh⟩ f args=
  (call f args []).bind fun r=>some (r.1,⟨fr,lh,sh⟩):=by
 grind [JD,wi,Ay]
def WR{D:Nat}{af:ai}{f:Nat}{args:List T}(H:E.fn f=some af)(I:af.eff=true):br E call D ⟨fr,lh,sh⟩ f args=
  (Aa lh sh true args).bind fun q=>(call f q.1 ((St.mk fr lh sh).ups q.2).sh).bind fun r=>some (r.1,{(St.mk fr lh sh).ups q.2 with sh:=r.2}):=by
 unfold br Aa
 simp only[H,I,mj]
 cases (bo (fz true aJ) args).run (St.mk .nil lh sh).get sh.length with
 |none=>rfl
 |some q=>
  simp only[if_true,Option.bind_some]
  cases call f q.1 ((St.mk fr lh sh).ups q.2).sh <;> rfl
theorem Yx{D:Nat}{g:List T→Option T}{f:Nat}{args:List T}(H:E.fn f=none)(I:E.ext f=some g):br E call D ⟨fr,lh,sh⟩ f args=
  (Aa lh sh false args).bind fun q=>(g q.1).bind fun r=>some (r,⟨fr,lh,sh⟩):=by
 unfold br Aa
 simp only[H,I,mj]
 cases (bo (fz false aJ) args).run (St.mk .nil lh sh).get sh.length with
 |none=>rfl
 |some q=>
  simp only[Option.bind_some]
  cases g q.1 <;> rfl
def Yy{d:Option Nat}{op:mP}{j:Nat}{w:Bool}(h:aa fr j= .b w):aj E call n (⟨d,op,some (j,w)⟩::os) ⟨fr,lh,sh⟩=aj E call n (⟨d,op,none⟩::os) ⟨fr,lh,sh⟩:=by
 grind [aj,bp]
theorem Cl{d:Option Nat}{op:mP}{j:Nat}{w:Bool}(r:D3 n d)(h:aa fr j= .b (!w)):aj E call n (⟨d,op,some (j,w)⟩::os) ⟨fr,lh,sh⟩=aj E call n os ⟨sW fr d aU,lh,sh⟩:=by
 simp only[aj,bp,h]
 rw[if_neg (by cases w <;> simp)]
 cases d with
 |none=>rfl
 |some d=>simp only[im,if_pos (show d<n from r),sW,Option.map_some]
theorem PS{d:Option Nat}{op:mP}{j:Nat}{w:Bool}(r:D3 n d)(h:aa fr j=aU):aj E call n (⟨d,op,some (j,w)⟩::os) ⟨fr,lh,sh⟩=aj E call n os ⟨sW fr d aU,lh,sh⟩:=by
 simp only[aj,bp,h,aU]
 cases d with
 |none=>rfl
 |some d=>simp only[im,if_pos (show d<n from r),sW,Option.map_some]
def aAO{bu:List FP}{st:St}:aK E call n [] bu st=some st:=rfl
end
section
variable{E:Env}{n:Nat}{fr:Fr}{lh:aE ah}{sh:List ah}
def alj(t:T)(x y:Option (Out×St)):Option (Out×St):=match t with| .b c=>if c=true then x else y|_=>none
theorem Yz{c:aV}{a b:ak}:DC E n (.cond c a b) ⟨fr,lh,sh⟩=alj (rd fr c) (DC E n a ⟨fr,lh,sh⟩) (DC E n b ⟨fr,lh,sh⟩):=by
 rw[aeS,dw]
 unfold alj
 grind
def andThen_ite{c:Prop}[Decidable c]{x y:Option (Out×St)}{f:St→Option (Out×St)}:andThen (if c then x else y) f=if c then andThen x f else andThen y f:=by split <;> rfl
def S3{c:Prop}[Decidable c]{id:Nat}{x y:Option (Out×St)}:zL id (if c then x else y)=if c then zL id x else zL id y:=by split <;> rfl
def afb{α β:Type}{c:Prop}[Decidable c]{x y:Option α}{f:α→β}:(if c then x else y).map f=if c then x.map f else y.map f:=by split <;> rfl
def YA{α β:Type}{c:Prop}[Decidable c]{x y:Option α}{f:α→Option β}:(if c then x else y).bind f=if c then x.bind f else y.bind f:=by split <;> rfl
def wk(fr:Fr)(lh:aE ah)(sh:List ah):List tT→Option (List T)
 | []=>some []
 | .tmp t::rs=>(wk fr lh sh rs).map fun r=>aa fr t::r
 | .cell t m D::rs=>(ldV lh sh (aa fr t) m D).bind fun v=>(wk fr lh sh rs).map fun r=>v::r
theorem lX: ∀rs,iO ⟨fr,lh,sh⟩ rs=wk fr lh sh rs
 | []=>rfl
 | .tmp t::rs=>by
   rw[iO,wk,lX rs]
   simp only[JI]
   cases wk fr lh sh rs <;> rfl
 | .cell t m r::rs=>by
   rw[iO,wk,lX rs]
   simp only[JI,PO]
   cases ldV lh sh (aa fr t) m r <;> cases wk fr lh sh rs <;> rfl
def S4(lh:aE ah)(sh:List ah)(r:Bool)(vs:List T):Option (T×List ah):=
 (fzV lh sh r (match vs with| [v]=>v|vs=> .tup vs)).map fun p=>(p.1,((St.mk .nil lh sh).ups p.2).sh)
theorem yq{r:Bool}{D:List T}:answer r D ⟨fr,lh,sh⟩=S4 lh sh r D:=by
 unfold answer S4 fzV
 grind [mj,lW]
end
theorem yt{fr r:Fr}{n:Nat}{d:Option Nat}{v:T}(h:im fr n d v=some r){s:Nat}(hs:some s≠d):aa r s=aa fr s:=by
 cases d with
 |none=>grind [im]
 |some d=>
  grind [im,Ys]
theorem zM{E:Env}{call:ku}{n:Nat}{o:aG}{st H:St}(h:bp E call n o st=some H){s:Nat}(hs:some s≠o.d):aa H.fr s=aa st.fr s:=by
 have J: ∀H,(match bD st.rho o.op with
  |some (some I)=>match br E call (o.d.getD 0) st I.1 I.2 with
   |some r=>(im st.fr n o.d r.1).map fun fr=>{r.2 with fr}
   |none=>none
  |some none=>none
  |none=>match(bB (o.d.getD 0) st.rho o.op).run st.get st.sh.length with
   |some (.val v ups)=>(im st.fr n o.d v).map fun fr=>{st.ups ups with fr}
   |none=>none)=some H→aa H.fr s=aa st.fr s:=by
  intro H D
  split at D
  ·split at D
   ·simp only[Option.map_eq_some_iff]at D
    obtain⟨fr,h1,rfl⟩:=D
    exact yt h1 hs
   ·cases D
  ·cases D
  ·split at D
   ·simp only[Option.map_eq_some_iff]at D
    obtain⟨fr,h1,rfl⟩:=D
    exact yt h1 hs
   ·cases D
 grind [bp,Option.map_eq_some_iff,yt]
theorem pH{E:Env}{call:ku}{n:Nat}: ∀(os:List aG) {st r:St},aj E call n os st=some r→ ∀s,s∉yg os→aa r.fr s=aa st.fr s
 | [],st,r,h,s,_=>by cases h;rfl
 |o::os,st,r,h,s,hs=>by
  simp only[aj]at h
  cases H:bp E call n o st with
  |none=>grind
  |some J=>
   simp only[H]at h
   have h1:s∉yg os:=fun D=>hs (by
    unfold yg at D ⊢
    rw[List.filterMap_cons]
    split
    ·exact D
    ·exact List.mem_cons_of_mem _ D)
   have h2:some s≠o.d:=fun I=>hs (by
    unfold yg
    rw[List.filterMap_cons]
    rw[←I]
    exact List.mem_cons_self)
   rw[pH os h s h1,zM H h2]
theorem zN{E:Env}{call:ku}{n:Nat}: ∀(os:List (List Nat×aG)) {bu:List FP} {st r:St},aK E call n os bu st=some r→ ∀s,s∉yg (os.map (·.2))→aa r.fr s=aa st.fr s
 | [],bu,st,r,h,s,_=>by cases h;rfl
 |(u,o)::os,bu,st,r,h,s,hs=>by
  simp only[aK]at h
  split at h
  ·cases h
  ·split at h
   ·cases H:bp E call n o st with
    |none=>grind
    |some J=>
     simp only[H]at h
     have h1:s∉yg (os.map (·.2)):=fun D=>hs (by
      unfold yg at D ⊢
      rw[List.map_cons,List.filterMap_cons]
      split
      ·exact D
      ·exact List.mem_cons_of_mem _ D)
     have h2:some s≠o.d:=fun I=>hs (by
      unfold yg
      rw[List.map_cons,List.filterMap_cons]
      rw[←I]
      exact List.mem_cons_self)
     rw[zN os h s h1,zM H h2]
   ·cases h
theorem Fc{f:St→Option (Out×St)}{s:Nat}(D: ∀st r,f st=some r→aa r.2.fr s=aa st.fr s): ∀(k:Nat) {st:St} {r:Out×St},iter f k st=some r→aa r.2.fr s=aa st.fr s
 |0,st,r,h=>by simp[iter]at h
 |k+1,st,r,h=>by
  simp only[iter]at h
  cases H:f st with
  |none=>grind
  |some p=>
   rw[H]at h
   obtain⟨o,I⟩:=p
   have h1:=D _ _ H
   cases o with
   |nrm=>rw[Fc D k h];exact h1
   |ext id=>grind
   |ret=>grind
theorem afc{ks:List Nat}{t u:St}{k:Nat}(h:k∉ks):aa (oe ks t u).fr k=aa t.fr k:=by
 show aa (vu ks t.fr) k=_
 rw[ot,if_neg h]
theorem kG{E:Env}{call:ku}{fl n:Nat}: ∀(code:ak) {st:St} {r:Out×St},fX E call fl n code st=some r→ ∀s,s∉bO code→aa r.2.fr s=aa st.fr s
 | .skip,st,r,h,s,_=>by cases h;rfl
 | .region ops,st,r,h,s,hs=>by
   simp only[fX,Option.map_eq_some_iff]at h
   obtain⟨a,h1,rfl⟩:=h
   exact pH ops h1 s hs
 | .draws ops,st,r,h,s,hs=>by
   simp only[fX,Option.map_eq_some_iff]at h
   obtain⟨a,h1,rfl⟩:=h
   exact zN ops h1 s hs
 | .seq a b,st,r,h,s,hs=>by
   simp only[bO,List.mem_append,not_or]at hs
   simp only[fX]at h
   cases D:fX E call fl n a st with
   |none=>grind
   |some p=>
    rw[D]at h
    obtain⟨o,I⟩:=p
    have h1:=kG a D s hs.1
    cases o with
    |nrm=>rw[kG b h s hs.2];exact h1
    |ext id=>grind
    |ret=>grind
 | .fork os DD b,st,r,h,s,hs=>by
   simp only[fX]at h
   cases h1:aj E call n os st with
   |none=>grind
   |some I=>
    cases h2:aj E call n DD st with
    |none=>grind
    |some s2=>
     rw[h1,h2]at h
     simp only[]at h
     obtain⟨o,N⟩:=r
     obtain⟨O,U,J,V,W,rfl⟩:=tX h
     have H:s∉yg os++bO b:=hs
     rw[afc H]
     simp only[List.mem_append,not_or]at H
     rw[kG b J s H.2]
     grind [pH]
 | .cond x a b,st,r,h,s,hs=>by
   simp only[bO,List.mem_append,not_or]at hs
   simp only[fX]at h
   split at h
   ·exact kG a h s hs.1
   ·exact kG b h s hs.2
   ·cases h
 | .block id a,st,r,h,s,hs=>by
   simp only[fX]at h
   cases D:fX E call fl n a st with
   |none=>grind
   |some p=>
    rw[D]at h
    obtain⟨o,I⟩:=p
    have h1:=kG a D s hs
    grind
 | .loop a,st,r,h,s,hs=>by
   simp only[fX]at h
   exact Fc (fun st r K=>kG a K s hs) fl h
 | .exit id,st,r,h,s,_=>by cases h;rfl
 | .ret,st,r,h,s,_=>by cases h;rfl
def fy{E:Env}{n:Nat}{code:ak}{st r:St}{o:Out}(h:DC E n code st=some (o,r))(s:Nat)(hs:(bO code).contains s=false):aa r.fr s=aa st.fr s:=by
 obtain⟨m,D⟩:=dt.1 h
 exact kG code D s (by intro hc;simp[hc]at hs)
def Q.calm:Q BB→Prop
 | .ret (.val _ r)=>r= []
 | .fail=>True
 | .rd _ _ f=> ∀e,(f e).calm
 | .new _=>False
theorem Q.calm_run{h:Sp→Nat→ah}{nx:Nat}: ∀(q:Q BB),q.calm→ ∀{v:T} {r:List Up},q.run h nx=some (.val v r)→r= []∧q.asks h nx=false
 | .ret (.val _ _),hc,v,r,hr=>by simp[Q.run]at hr;obtain⟨rfl,rfl⟩:=hr;exact⟨hc,rfl⟩
 | .fail,hc,v,r,hr=>by simp[Q.run]at hr
 | .rd sp k f,hc,v,r,hr=>Q.calm_run (f (h sp k)) (hc _) hr
 | .new f,hc,v,r,hr=>hc.elim
theorem iB{o:Option T}:(val o).calm:=by cases o <;> simp[val,Q.calm]
def ch:mP→Bool
 | .mv _| .pick .. | .bin .. | .eq .. | .un .. | .cvi .. | .b2s _| .mkfn .. | .build .. | .slS .. | .fa .. | .fld .. | .ia .. | .iaA .. | .ixS .. | .ixA .. | .ext .. | .lenS _| .lenV _| .lenC _| .mm .. | .nck _| .ld .. | .lk .. | .lenM _=>true
 | .slV _ _ _ _ none=>true
 |_=>false
def GR{d:Nat}{ρ:aV→T}{op:mP}(h:ch op=true):(bB d ρ op).calm∧bD ρ op=none:=by
 refine⟨?_,by cases op <;> first|rfl|(simp[ch]at h)⟩
 cases op with
 |mv x=>exact rfl
 |pick c a b=>grind [bB,Q.calm]
 |bin op x y=>exact iB
 |eq neg k x y=>exact iB
 |un op x=>exact iB
 |cvi k x=>grind [bB,Q.calm]
 |b2s x=>simp only[bB];repeat' split
         all_goals trivial
 |mkfn f a c=>exact rfl
 |build z ps=>
  simp only[bB]
  by_cases J:(ps.all fun p=>decide ((cellsOf (ρ p.2.2)).length=p.2.1)&&noTup (ρ p.2.2))=true
  ·grind [iB]
  ·rw[if_neg J];trivial
 |slS x l h=>
  grind [bB,Q.calm]
 |fa x off=>
  grind [bB,Q.calm]
 |fld x off m D=>
  simp only[bB]
  split
  ·exact iB
  ·trivial
 |ia x H sz=>
  grind [bB,Q.calm]
 |iaA x H len sz=>
  grind [bB,Q.calm]
 |ixS x H=>
  grind [bB,Q.calm]
 |ixA x H len sz D=>
  simp only[bB]
  split
  ·split
   ·exact iB
   ·trivial
  ·trivial
 |ext x j=>
  simp only[bB]
  split
  ·exact iB
  ·trivial
 |lenS x=>grind [bB,Q.calm]
 |lenV x=>exact iB
 |lenC m=>exact rfl
 |mm b as=>
  simp only[bB]
  split
  ·exact iB
  ·trivial
 |nck x=>grind [bB,Q.calm]
 |ld x m D=>
  simp only[bB,Gm]
  split
  ·rename_i cs _
   cases part cs 0 m D <;> simp[Q.of,Q.bind,Q.calm]
  ·rename_i g off _
   intro e
   obtain⟨I,ob⟩:=e
   by_cases r:I=g
   ·cases ob with
    |cells cs N bx=>
     simp only[r,if_true]
     generalize part cs _ m D=o
     cases o <;> simp[Q.of,Q.bind,Q.calm]
    |_=>simp only[r,if_true];trivial
   ·simp only[r,if_false];trivial
  ·trivial
 |lk O m k z U=>
  grind [bB,Q.calm,iB]
 |lenM x=>
  simp only[bB]
  split
  ·exact rfl
  ·exact rfl
  ·rename_i g _
   intro e
   obtain⟨I,ob⟩:=e
   by_cases r:I=g
   ·cases ob with
    |map ks V z=>simp only[r,if_true];exact rfl
    |_=>simp only[r,if_true];trivial
   ·simp only[r,if_false];trivial
  ·trivial
 |slV sz x l h K=>
  cases K with
  |some m=>simp[ch]at h
  |none=>
   simp only[bB]
   split
   ·trivial
   ·split
    ·rename_i W X _ _ _
     unfold zp
     grind [Q.bind,Q.calm]
    ·grind
    ·trivial
 |_=>simp[ch]at h
def Calm(fp:FP):Prop:=fp.all=false∧fp.w= []
theorem Cm{x y:FP}(hx:Calm x)(D:Calm y):apart x y=true:=by
 obtain⟨a,r,w⟩:=x
 obtain⟨H,I,w'⟩:=y
 obtain⟨rfl,rfl⟩:=hx
 obtain⟨rfl,rfl⟩:=D
 simp[apart,eM]
section
variable{E:Env}{call:ku}{n:Nat}
def afd{o:aG}{st H:St}(hc:ch o.op=true)(hr:bp E call n o st=some H): ∃fp,bU E call o st=some fp∧Calm fp:=by
 obtain⟨J,K⟩:=GR (d:=o.d.getD 0) (ρ:=st.rho) hc
 have N: ∀H,(match(bB (o.d.getD 0) st.rho o.op).run st.get st.sh.length with
   |some (.val v ups)=>(im st.fr n o.d v).map fun fr=>{st.ups ups with fr}
   |none=>none)=some H→ ∃fp,(match(bB (o.d.getD 0) st.rho o.op).run st.get st.sh.length with
   |some (.val _ ups)=>if((bB (o.d.getD 0) st.rho o.op).asks st.get st.sh.length||inB st ups)=true then some (⟨(bB (o.d.getD 0) st.rho o.op).asks st.get st.sh.length,(bB (o.d.getD 0) st.rho o.op).log st.get st.sh.length,cW ups⟩:FP)else none
   |none=>none)=some fp∧Calm fp:=by
  intro H h
  cases I:(bB (o.d.getD 0) st.rho o.op).run st.get st.sh.length with
  |none=>rw[I]at h;cases h
  |some r=>
   obtain⟨v,ups⟩:=r
   obtain⟨rfl,O⟩:=Q.calm_run _ J I
   refine⟨⟨false,(bB (o.d.getD 0) st.rho o.op).log st.get st.sh.length,[]⟩, ?_,rfl,rfl⟩
   simp only[O,inB,List.all_nil,Bool.or_true,if_true,cW,List.map_nil]
 unfold bp at hr
 unfold bU
 simp only[K]at hr ⊢
 cases U:o.gd with
 |none=>grind
 |some p=>
  obtain⟨j,D⟩:=p
  simp only[U]at hr ⊢
  split at hr
  ·rename_i x hx
   simp only[hx]
   by_cases V:x=D
   ·grind
   ·rw[if_neg V];exact⟨fW,rfl,rfl,rfl⟩
  ·cases hr
  ·split
   ·grind
   ·exact⟨fW,rfl,rfl,rfl⟩
theorem Fe: ∀(ds:List (List Nat×aG)) (bu:List FP) (st:St),(ds.all fun p=>ch p.2.op&&p.1.all fun i=>decide (i<bu.length+ds.length))=true→(∀fp∈bu,Calm fp)→
  (∀(k:Nat) (u:List Nat) (o:aG),ds[k]? =some (u,o)→ ∀i∈u,i<bu.length+k)→
  aK E call n ds bu st=aj E call n (ds.map (·.2)) st
 | [],bu,st,_,_,_=>rfl
 |(u,o)::ds,bu,st,h,K,hi=>by
  simp only[List.all_cons,Bool.and_eq_true]at h
  simp only[aK,List.map_cons,aj]
  cases D:bp E call n o st with
  |none=>
   grind
  |some s=>
   obtain⟨fp,h1,h2⟩:=afd h.1.1 D
   simp only[h1]
   have H:(u.all fun i=>apart (aH ⟨true,[],[]⟩ bu i) fp)=true:=by
    rw[List.all_eq_true]
    intro i r
    have:=hi 0 u o rfl i r
    have N:aH ⟨true,[],[]⟩ bu i∈bu:=by
     have: ∀(l:List FP) (j:Nat),j<l.length→aH ⟨true,[],[]⟩ l j∈l:=by
      intro l
      induction l with
      |nil=>grind
      |cons x xs ih=>
       intro j I
       cases j with
       |zero=>exact List.mem_cons_self
       |succ j=>exact List.mem_cons_of_mem _ (ih j (by simpa using I))
     grind
    grind [Cm]
   simp only[H,if_true]
   refine Fe ds (bu++ [fp]) s ?_ ?_ ?_
   ·grind
   ·grind
   ·intro k J o' hk i r
    have:=hi (k+1) J o' hk i r
    grind
def Ff:Nat→List (List Nat×aG)→Bool
 |_,[]=>true
 |k,(u,o)::ds=>ch o.op&&(u.all fun i=>decide (i<k))&&Ff (k+1) ds
theorem Fg: ∀(ds:List (List Nat×aG)) (m:Nat),Ff m ds=true→(∀(k:Nat) (u:List Nat) (o:aG),ds[k]? =some (u,o)→ch o.op=true∧ ∀i∈u,i<m+k)
 | [],m,_,k,u,o,hk=>by simp at hk
 |(r,D)::ds,m,h,k,u,o,hk=>by
  simp only[Ff,Bool.and_eq_true]at h
  cases k with
  |zero=>
   grind
  |succ k=>
   obtain⟨h1,h2⟩:=Fg ds (m+1) h.2 k u o (by simpa using hk)
   grind
def afe{E:Env}{n:Nat}{ds:List (List Nat×aG)}{st:St}(h:Ff 0 ds=true):DC E n (.draws ds) st=(aj E (ae E) n (ds.map (·.2)) st).map fun D=>(.nrm,D):=by
 rw[J7]
 congr 1
 have r:=Fg ds 0 h
 refine Fe ds [] st ?_ yv (fun k u o hk i hi=>by have:=(r k u o hk).2 i hi;simpa using this)
 rw[List.all_eq_true]
 intro p H
 obtain⟨k,hk,I⟩:=List.getElem_of_mem H
 obtain⟨u,o⟩:=p
 obtain⟨h1,h2⟩:=r k u o (by rw[List.getElem?_eq_getElem hk,I])
 grind
end
def kv(F:St→Option St)(fr:Fr)(lh:aE ah)(sh:List ah)(d:Nat)(v:Option T):Option St:=v.bind fun v=>F ⟨cN fr d v,lh,sh⟩
def kn(F:St→Option St)(st:St)(v:Option T):Option St:=v.bind fun _=>F st
def ks(F:St→Option St)(fr:Fr)(r:Option (aE ah×List ah)):Option St:=r.bind fun r=>F ⟨fr,r.1,r.2⟩
def ka(F:St→Option St)(fr:Fr)(sh:List ah)(d:Nat)(r:Option (T×aE ah)):Option St:=r.bind fun q=>F ⟨cN fr d q.1,q.2,sh⟩
def kc(F:St→Option St)(fr:Fr)(d:Option Nat)(r:Option (T×St)):Option St:=r.bind fun r=>F ⟨sW fr d r.1,r.2.lh,r.2.sh⟩
section
variable{F:St→Option St}{fr:Fr}{lh:aE ah}{sh:List ah}{d:Nat}{v:T}
def aff:kv F fr lh sh d (some v)=F ⟨cN fr d v,lh,sh⟩:=rfl
def afg:kv F fr lh sh d none=none:=rfl
def aof{c:Prop}[Decidable c]{x y:Option T}:kv F fr lh sh d (if c then x else y)=if c then kv F fr lh sh d x else kv F fr lh sh d y:=by split <;> rfl
def afj{r:aE ah×List ah}:ks F fr (some r)=F ⟨fr,r.1,r.2⟩:=rfl
def afl{q:T×aE ah}:ka F fr sh d (some q)=F ⟨cN fr d q.1,q.2,sh⟩:=rfl
def afn{D:Option Nat}{r:T×St}:kc F fr D (some r)=F ⟨sW fr D r.1,r.2.lh,r.2.sh⟩:=rfl
def aoi{c:Prop}[Decidable c]{r:Option Nat}{x y:Option (T×St)}:kc F fr r (if c then x else y)=if c then kc F fr r x else kc F fr r y:=by split <;> rfl
end
def isB:T→Bool
 | .b _=>true
 |_=>false
def isT:T→Bool
 | .b x=>x
 |_=>false
def aAP{x:Bool}:isB (.b x)=true:=nr rfl
def aAQ{x:Bool}:isT (.b x)=x:=nr rfl
theorem afp{t:T}(h:isB t=true):t= .b (isT t):=by cases t <;> first|rfl|(simp[isB]at h)
section
variable{E:Env}{call:ku}{n:Nat}{fr:Fr}{lh:aE ah}{sh:List ah}{os:List aG}{d:Nat}
def aoj{c a b:aV}(r:d<n):aj E call n (⟨some d,.pick c a b,none⟩::os) ⟨fr,lh,sh⟩=kv (aj E call n os) fr lh sh d (PL (rd fr c) (rd fr a) (rd fr b)):=an5 r
def aAR{op:BinOp}{x y:aV}(r:d<n):aj E call n (⟨some d,.bin op x y,none⟩::os) ⟨fr,lh,sh⟩=kv (aj E call n os) fr lh sh d (Ev.bin op (rd fr x) (rd fr y)):=aAs r
def aHm{neg:Bool}{k:EK}{x y:aV}(D:d<n):aj E call n (⟨some d,.eq neg k x y,none⟩::os) ⟨fr,lh,sh⟩=kv (aj E call n os) fr lh sh d ((sS k (rd fr x) (rd fr y)).map fun r=>T.b (r != neg)):=aHa D
def aHn{op:UnOp}{x:aV}(r:d<n):aj E call n (⟨some d,.un op x,none⟩::os) ⟨fr,lh,sh⟩=kv (aj E call n os) fr lh sh d (Ev.un op (rd fr x)):=aHb r
def aAS{k:IntKind}{x:aV}(r:d<n):aj E call n (⟨some d,.cvi k x,none⟩::os) ⟨fr,lh,sh⟩=kv (aj E call n os) fr lh sh d (aeU k (rd fr x)):=aAt r
theorem zO{x:aV}(r:d<n):aj E call n (⟨some d,.b2s x,none⟩::os) ⟨fr,lh,sh⟩=kv (aj E call n os) fr lh sh d (aeV (rd fr x)):=aAu r
def afq{z:List T}{ps:List (Nat×Nat×aV)}(r:d<n):aj E call n (⟨some d,.build z ps,none⟩::os) ⟨fr,lh,sh⟩=kv (aj E call n os) fr lh sh d (GM fr z ps):=aeW r
def aAT{x:aV}{l h:Option aV}(r:d<n):aj E call n (⟨some d,.slS x l h,none⟩::os) ⟨fr,lh,sh⟩=kv (aj E call n os) fr lh sh d (tZ fr (rd fr x) l h):=aAv r
def aHo{x:aV}{off:Nat}(r:d<n):aj E call n (⟨some d,.fa x off,none⟩::os) ⟨fr,lh,sh⟩=kv (aj E call n os) fr lh sh d (faV (rd fr x) off):=aHc r
def aAU{x:aV}{off m:Nat}{r:Bool}(D:d<n):aj E call n (⟨some d,.fld x off m r,none⟩::os) ⟨fr,lh,sh⟩=kv (aj E call n os) fr lh sh d (aeX (rd fr x) off m r):=aAx D
def aHp{x r:aV}{sz:Nat}(D:d<n):aj E call n (⟨some d,.ia x r sz,none⟩::os) ⟨fr,lh,sh⟩=kv (aj E call n os) fr lh sh d (iaV (rd fr x) (rd fr r) sz):=aHd D
def aAV{x r:aV}{len sz:Nat}(D:d<n):aj E call n (⟨some d,.iaA x r len sz,none⟩::os) ⟨fr,lh,sh⟩=kv (aj E call n os) fr lh sh d (eY (rd fr x) (rd fr r) len sz):=aAy D
def aAW{x r:aV}(D:d<n):aj E call n (⟨some d,.ixS x r,none⟩::os) ⟨fr,lh,sh⟩=kv (aj E call n os) fr lh sh d (D4 (rd fr x) (rd fr r)):=aAz D
def aAX{x r:aV}{len sz:Nat}{D:Bool}(H:d<n):aj E call n (⟨some d,.ixA x r len sz D,none⟩::os) ⟨fr,lh,sh⟩=kv (aj E call n os) fr lh sh d (aeY (rd fr x) (rd fr r) len sz D):=aAA H
def aAY{x:aV}{j:Nat}(r:d<n):aj E call n (⟨some d,.ext x j,none⟩::os) ⟨fr,lh,sh⟩=kv (aj E call n os) fr lh sh d (aeZ (rd fr x) j):=aAB r
def aok{x:aV}(r:d<n):aj E call n (⟨some d,.lenS x,none⟩::os) ⟨fr,lh,sh⟩=kv (aj E call n os) fr lh sh d (PM (rd fr x)):=an7 r
def lenI(x:T):Option T:=match lK x with|some m=>some (.i .i64 ((m:Nat):Int))|none=>none
def afr{x:T}{m:Nat}(h:lK x=some m):lenI x=some (.i .i64 (m:Int)):=by unfold lenI;rw[h]
def aol{x:aV}(r:d<n):aj E call n (⟨some d,.lenV x,none⟩::os) ⟨fr,lh,sh⟩=kv (aj E call n os) fr lh sh d (lenI (rd fr x)):=by
 grind [kv,lenI,an8]
def aHq{r:Bool}{args:List aV}(D:d<n):aj E call n (⟨some d,.mm r args,none⟩::os) ⟨fr,lh,sh⟩=kv (aj E call n os) fr lh sh d (mmV r (args.map (rd fr))):=aHe D
def aAZ{x:aV}(r:d<n):aj E call n (⟨some d,.nck x,none⟩::os) ⟨fr,lh,sh⟩=kv (aj E call n os) fr lh sh d (GN (rd fr x)):=aAD r
def aHr{x:aV}{m:Nat}{r:Bool}(D:d<n):aj E call n (⟨some d,.ld x m r,none⟩::os) ⟨fr,lh,sh⟩=kv (aj E call n os) fr lh sh d (ldV lh sh (rd fr x) m r):=aHf D
def aA0{sz:Nat}{x:aV}{l h:Option aV}(r:d<n):aj E call n (⟨some d,.slV sz x l h none,none⟩::os) ⟨fr,lh,sh⟩=kv (aj E call n os) fr lh sh d (Yw fr sz (rd fr x) l h):=aAK r
def aHs{r:EK}{m k:aV}{z:T}{D:Bool}(H:d<n):aj E call n (⟨some d,.lk r m k z D,none⟩::os) ⟨fr,lh,sh⟩=kv (aj E call n os) fr lh sh d (lkV lh sh r (rd fr m) (rd fr k) z D):=aHi H
def aA1{k:IntKind}{n:Int}:UR [.i k n]=false:=nr rfl
def aA2{x:Bool}:UR [.b x]=false:=nr rfl
def afs:UR [.nilsl]=true:=nr rfl
def YC{a b:T}{l:List T}:UR (a::b::l)=false:=by cases a <;> rfl
def YD(lh:aE ah)(d:Nat)(z:List T)(x:T)(bytes:Nat):Option (T×aE ah):=
 (Nf x bytes).map fun m=>(.isl .L d ((ab lh d).g+1) 0 m z.length,jB lh d ⟨(ab lh d).g+1,.cells (repl z m) 0 (UR z)⟩)
def aon{z:List T}{bytes:Nat}{x:aV}(r:d<n):aj E call n (⟨some d,.mksl z bytes x false,none⟩::os) ⟨fr,lh,sh⟩=ka (aj E call n os) fr sh d (YD lh d z (rd fr x) bytes):=by
 rw[aoc r];unfold YD ka;cases Nf (rd fr x) bytes <;> rfl
def aHt{x v:aV}{m:Nat}:aj E call n (⟨none,.st x v m,none⟩::os) ⟨fr,lh,sh⟩=ks (aj E call n os) fr (stV lh sh (rd fr x) (rd fr v) m):=aHg
def appW(lh:aE ah)(sh:List ah)(d sz bytes:Nat)(s x:T):Option (T×aE ah):=(slC lh sh sz x).bind (Ck lh d sz bytes s)
def notS:T→Bool
 | .isl .S .. =>false
 | .mp .S .. =>false
 |_=>true
def aA4{sz bytes:Nat}{s x:aV}(r:d<n)(hs:notS (rd fr s)=true):aj E call n (⟨some d,.app sz bytes s x false false,none⟩::os) ⟨fr,lh,sh⟩=ka (aj E call n os) fr sh d (appW lh sh d sz bytes (rd fr s) (rd fr x)):=by
 rw[aAJ r (fun k g off len sz D=>by rw[D]at hs;simp[notS]at hs)]
 grind [appW,ka]
def aHu{r:EK}{m k v:aV}(D:notS (rd fr m)=true)(H:froz (rd fr v)=true):aj E call n (⟨none,.mu r m k v,none⟩::os) ⟨fr,lh,sh⟩=ks (aj E call n os) fr ((muV lh r (rd fr m) (rd fr k) (rd fr v)).map fun aN=>(aN,sh)):=by
 rw[aHj (fun kk g I=>by rw[I]at D;simp[notS]at D) H]
 unfold ks
 cases muV lh r (rd fr m) (rd fr k) (rd fr v) <;> rfl
def YE(lh:aE ah)(sh:List ah)(z:List T)(len:Nat)(r:List Nat)(D:List T):Option (T×St):=
 (Aa lh sh false D).bind fun q=>(S2 z len r q.1).map fun v=>(v,(St.mk .nil lh sh).ups q.2)
def aA5{z:List T}{len:Nat}{ps:List (Nat×aV)}(r:d<n):aj E call n (⟨some d,.bsl z len ps,none⟩::os) ⟨fr,lh,sh⟩=kc (aj E call n os) fr (some d) (YE lh sh z len (ps.map (·.1)) (ps.map fun p=>rd fr p.2)):=by
 rw[aAN r]
 unfold kc YE
 cases Aa lh sh false (ps.map fun p=>rd fr p.2)with
 |none=>rfl
 |some q=>
  simp only[Option.bind_some]
  cases S2 z len (ps.map (·.1)) q.1 with
  |none=>rfl
  |some v=>grind [sW,lW]
def S5{z:List T}{len:Nat}{D:List Nat}{r:List T}(h:r.all froz=true):YE lh sh z len D r=(S2 z len D r).map fun v=>(v,⟨.nil,lh,sh⟩):=by
 unfold YE
 rw[wi h];rfl
def aoo{f:Nat}{as:List aV}(r:d<n):aj E call n (⟨some d,.callf f as,none⟩::os) ⟨fr,lh,sh⟩=kc (aj E call n os) fr (some d) (br E call d ⟨fr,lh,sh⟩ f (as.map (rd fr))):=aoe r
def afw{r:Option Nat}{op:mP}{j:Nat}(h:aa fr j= .b true):aj E call n (⟨r,op,some (j,true)⟩::os) ⟨fr,lh,sh⟩=aj E call n (⟨r,op,none⟩::os) ⟨fr,lh,sh⟩:=Yy h
def afx{r:Option Nat}{op:mP}{j:Nat}(h:aa fr j= .b false):aj E call n (⟨r,op,some (j,false)⟩::os) ⟨fr,lh,sh⟩=aj E call n (⟨r,op,none⟩::os) ⟨fr,lh,sh⟩:=Yy h
def afy{op:mP}{j:Nat}(r:d<n)(h:aa fr j= .b false):aj E call n (⟨some d,op,some (j,true)⟩::os) ⟨fr,lh,sh⟩=aj E call n os ⟨cN fr d aU,lh,sh⟩:=Cl (d:=some d) r h
def afz{op:mP}{j:Nat}(r:d<n)(h:aa fr j= .b true):aj E call n (⟨some d,op,some (j,false)⟩::os) ⟨fr,lh,sh⟩=aj E call n os ⟨cN fr d aU,lh,sh⟩:=Cl (d:=some d) r h
def YF{op:mP}{j:Nat}{w:Bool}(r:d<n)(h:aa fr j=aU):aj E call n (⟨some d,op,some (j,w)⟩::os) ⟨fr,lh,sh⟩=aj E call n os ⟨cN fr d aU,lh,sh⟩:=PS (d:=some d) r h
end
section
variable{E:Env}{n:Nat}{fr:Fr}{lh:aE ah}{sh:List ah}
def aoq{c:aV}{a b:ak}(h:isB (rd fr c)=true):DC E n (.cond c a b) ⟨fr,lh,sh⟩=if isT (rd fr c)=true then DC E n a ⟨fr,lh,sh⟩else DC E n b ⟨fr,lh,sh⟩:=by
 rw[Yz,afp h];rfl
def wo(r:List tT)(D:Bool)(x:Option (Out×St)):Option (T×List ah):=
 match x with
 |some (.ext _,_)=>none
 |some (_,st)=>(iO st r).bind fun H=>answer D H st
 |none=>none
theorem au{f:Nat}{af:ai}{args:List T}{sh:List ah}(r:E.fn f=some af)(D:(af.n<args.length)=False)(H:af.own=none:=by rfl):
  ae E f args sh=wo af.res af.eff (DC E af.n af.code {fr:=lI args,lh:= .nil,sh}):=by
 rw[Yq r (Nat.le_of_not_lt (of_eq_false D))]
 generalize DC E af.n af.code {fr:=lI args,lh:= .nil,sh}=x
 unfold ale wo
 rw[H]
 cases x with
 |none=>rfl
 |some p=>
  obtain⟨o,st⟩:=p
  cases o with
  |ext id=>rfl
  |nrm=>simp only[];cases iO st af.res <;> rfl
  |ret=>simp only[];cases iO st af.res <;> rfl
def YL{r:List tT}{D:Bool}:wo r D (some (.ret,⟨fr,lh,sh⟩))=(wk fr lh sh r).bind (S4 lh sh D):=by
 simp_all[wo,lX,yq]
def YM{r:List tT}{D:Bool}:wo r D (some (.nrm,⟨fr,lh,sh⟩))=(wk fr lh sh r).bind (S4 lh sh D):=by
 simp_all[wo,lX,yq]
def YN{c:Prop}[Decidable c]{r:List tT}{D:Bool}{x y:Option (Out×St)}:wo r D (if c then x else y)=if c then wo r D x else wo r D y:=by split <;> rfl
end
section
variable{k:IntKind}{a b:Int}{x y:Bool}{s t:List Nat}
def afB:Ev.bin .add (.i k a) (.i k b)=some (.i k (wr k (a+b))):=by simp[Ev.bin,mI]
def afC:Ev.bin .sub (.i k a) (.i k b)=some (.i k (wr k (a-b))):=by simp[Ev.bin,mI]
def afD:Ev.bin .mul (.i k a) (.i k b)=some (.i k (wr k (a*b))):=by simp[Ev.bin,mI]
def afE:Ev.bin .quo (.i k a) (.i k b)=if b=0 then none else some (.i k (wr k (a.tdiv b))):=by simp[Ev.bin,mI]
def afF:Ev.bin .rem (.i k a) (.i k b)=if b=0 then none else some (.i k (a.tmod b)):=by simp[Ev.bin,mI]
def PT:Ev.bin .eql (.i k a) (.i k b)=some (.b (decide (a=b))):=by simp[Ev.bin,mI];exact Bool.beq_eq_decide_eq a b
def PU:Ev.bin .neq (.i k a) (.i k b)=some (.b (!decide (a=b))):=by simp[Ev.bin,mI];rw[bne,Bool.beq_eq_decide_eq]
def PV:Ev.bin .lss (.i k a) (.i k b)=some (.b (decide (a<b))):=by simp[Ev.bin,mI]
def PW:Ev.bin .leq (.i k a) (.i k b)=some (.b (decide (a≤b))):=by simp[Ev.bin,mI]
def PX:Ev.bin .gtr (.i k a) (.i k b)=some (.b (decide (b<a))):=by simp[Ev.bin,mI]
def PY:Ev.bin .geq (.i k a) (.i k b)=some (.b (decide (b≤a))):=by simp[Ev.bin,mI]
def Ka:Ev.bin .eql (.s s) (.s t)=some (.b (decide (s=t))):=by simp[Ev.bin,MM];exact Bool.beq_eq_decide_eq s t
def Kb:Ev.bin .neq (.s s) (.s t)=some (.b (!decide (s=t))):=by simp[Ev.bin,MM];rw[bne,Bool.beq_eq_decide_eq]
def Kc:Ev.bin .lss (.s s) (.s t)=some (.b (lessN s t)):=by simp[Ev.bin,MM]
def YP:Ev.bin .add (.s s) (.s t)=if s.length+t.length≤1099511627776 then some (.s (s++t))else none:=by simp[Ev.bin,MM]
def aor:Ev.un .not (.b x)=some (.b (!x)):=rfl
def aos:Ev.un .neg (.i k a)=some (.i k (wr k (0-a))):=rfl
def aot{cs:List T}{off m:Nat}:Ev.part cs off m false=cs[off]? :=rfl
def aou{cs:List T}{off m:Nat}:Ev.part cs off m true=if off+m≤cs.length then some (.agg ((cs.drop off).take m))else none:=rfl
theorem aZ{n:Int}(h: -9223372036854775808≤n∧n≤9223372036854775807):wr .i64 n=n:=by grind [wr,lo,hi]
theorem cX{cs:List T}{len sz:Nat}{ex:Bool}{kk:IntKind}{j:Int}:iaV (.sl cs len ex) (.i kk j) sz=if 0≤j∧j.toNat<len∧(j.toNat+1)*sz≤cs.length then some (.vp (cs.drop (j.toNat*sz)))else none:=by
 unfold iaV asNat
 grind
def afG{sp:Sp}{i g off len sz r:Nat}{kk:IntKind}{j:Int}:iaV (.isl sp i g off len r) (.i kk j) sz=if 0≤j∧j.toNat<len∧r=sz then some (.ptr sp i g (off+j.toNat*sz))else none:=by
 unfold iaV asNat
 grind
theorem Nj{r:List Nat}{kk:IntKind}{j:Int}:D4 (.s r) (.i kk j)=if 0≤j then r[j.toNat]?.map fun c=>T.i .u8 c else none:=by
 unfold D4 asNat
 grind
def afH{kk:IntKind}{j:Int}:asNat (.i kk j)=if 0≤j then some j.toNat else none:=rfl
end
end Go.Ev
