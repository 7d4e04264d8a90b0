/- A tree evaluator over the model, proved against it (part E): where it answers, the call returns that answer. Conditions: none beyond its theorems' own. -/
import Derived.Test.YtnkgnjecmfkcfaaGreatEvD
set_option linter.unusedSimpArgs false
set_option linter.unusedVariables false
namespace Go.Ev
open Go
section
variable{E:Env}{call:jP}{fl n:Nat}
end
end Go.Ev
namespace Go.Ev
open Go
def qt(c D:jP):Prop:= ∀f a sh r,c f a sh=some r→D f a sh=some r
theorem qt.refl(c:jP):qt c c:=fun _ _ _ _ h=>h
section
variable{E:Env}
theorem yb{c D:jP}(h:qt c D){H:Nat}{st:St}{f:Nat}{args:List T}{r:T×St}(hr:bu E c H st f args=some r):bu E D H st f args=some r:=by
 unfold bu at hr ⊢
 cases J:E.fn f with
 |none=>grind
 |some af=>
  simp only[J]at hr ⊢
  cases K:(bh (fz af.eff aJ) args).run st.get st.sh.length with
  |none=>grind
  |some q=>
   simp only[K]at hr ⊢
   cases I:af.eff with
   |true=>
    simp only[I,if_true,Option.map_eq_some_iff]at hr ⊢
    obtain⟨a,h1,h2⟩:=hr
    exact⟨a,h _ _ _ _ h1,h2⟩
   |false=>
    simp only[I]at hr ⊢
    cases hc:c f q.1 []with
    |none=>grind
    |some a=>
     simp only[hc]at hr
     simp only[h _ _ _ _ hc]
     exact hr
theorem mr{c J:jP}(h:qt c J){n:Nat}{o:aF}{st H:St}(hr:bn E c n o st=some H):bn E J n o st=some H:=by
 unfold bn at hr ⊢
 have N: ∀H,(match bB st.rho o.op with
  |some (some D)=>match bu E c (o.d.getD 0) st D.1 D.2 with
   |some r=>(gz st.fr n o.d r.1).map fun fr=>{r.2 with fr}
   |none=>none
  |some none=>none
  |none=>match(bz (o.d.getD 0) st.rho o.op).run st.get st.sh.length with
   |some (.val v ups)=>(gz st.fr n o.d v).map fun fr=>{st.ups ups with fr}
   |none=>none)=some H→(match bB st.rho o.op with
  |some (some D)=>match bu E J (o.d.getD 0) st D.1 D.2 with
   |some r=>(gz st.fr n o.d r.1).map fun fr=>{r.2 with fr}
   |none=>none
  |some none=>none
  |none=>match(bz (o.d.getD 0) st.rho o.op).run st.get st.sh.length with
   |some (.val v ups)=>(gz st.fr n o.d v).map fun fr=>{st.ups ups with fr}
   |none=>none)=some H:=by
  intro H hs
  cases hc:bB st.rho o.op with
  |none=>simp only[hc]at hs ⊢; exact hs
  |some x=>
   cases x with
   |none=>simp only[hc]at hs;cases hs
   |some D=>
    simp only[hc]at hs ⊢
    cases K:bu E c (o.d.getD 0) st D.1 D.2 with
    |none=>simp only[K]at hs;cases hs
    |some r=>
     simp only[K]at hs
     simp only[yb h K]
     exact hs
 cases O:o.gd with
 |none=>grind
 |some p=>
  obtain⟨j,I⟩:=p
  simp only[O]at hr ⊢
  split at hr
  ·rename_i x hx
   by_cases U:x=I
   ·grind
   ·grind
  ·cases hr
  ·exact hr
theorem fS{c D:jP}(h:qt c D){n:Nat}: ∀(os:List aF) {st r:St},ai E c n os st=some r→ai E D n os st=some r
 | [],st,r,hr=>hr
 |o::os,st,r,hr=>by
  simp only[ai]at hr ⊢
  cases H:bn E c n o st with
  |none=>grind
  |some s=>
   simp only[H]at hr
   simp only[mr h H]
   exact fS h os hr
theorem yc{c D:jP}(h:qt c D){H:Nat}{st:St}{f:Nat}{args:List T}{r:FP}(hr:eE E c H st f args=some r):eE E D H st f args=some r:=by
 unfold eE at hr ⊢
 cases I:E.fn f with
 |none=>grind
 |some af=>
  simp only[I]at hr ⊢
  cases J:(bh (fz af.eff aJ) args).run st.get st.sh.length with
  |none=>grind
  |some q=>
   simp only[J]at hr ⊢
   by_cases hi:(!inB st q.2)=true
   ·grind
   ·rw[if_neg hi]at hr ⊢
    cases K:af.eff with
    |true=>grind
    |false=>
     simp only[K]at hr ⊢
     cases hc:c f q.1 []with
     |none=>simp[hc]at hr
     |some a=>
      simp only[hc]at hr
      simp only[h _ _ _ _ hc]
      exact hr
theorem ye{c I:jP}(h:qt c I){o:aF}{st:St}{r:FP}(hr:bN E c o st=some r):bN E I o st=some r:=by
 unfold bN at hr ⊢
 have J: ∀r,(match bB st.rho o.op with
  |some (some H)=>eE E c (o.d.getD 0) st H.1 H.2
  |some none=>none
  |none=>
   let q:=bz (o.d.getD 0) st.rho o.op
   match q.run st.get st.sh.length with
   |some (.val _ D)=>if q.asks st.get st.sh.length||inB st D then some ⟨q.asks st.get st.sh.length,q.log st.get st.sh.length,cR D⟩else none
   |none=>none)=some r→(match bB st.rho o.op with
  |some (some H)=>eE E I (o.d.getD 0) st H.1 H.2
  |some none=>none
  |none=>
   let q:=bz (o.d.getD 0) st.rho o.op
   match q.run st.get st.sh.length with
   |some (.val _ D)=>if q.asks st.get st.sh.length||inB st D then some ⟨q.asks st.get st.sh.length,q.log st.get st.sh.length,cR D⟩else none
   |none=>none)=some r:=by
  intro r hs
  cases hc:bB st.rho o.op with
  |none=>simp only[hc]at hs ⊢; exact hs
  |some x=>
   cases x with
   |none=>simp only[hc]at hs;cases hs
   |some H=>simp only[hc]at hs ⊢; exact yc h hs
 cases K:o.gd with
 |none=>grind
 |some p=>
  grind
theorem mw{c D:jP}(h:qt c D){n:Nat}: ∀(os:List (List Nat×aF)) {br:List FP} {st r:St},aK E c n os br st=some r→aK E D n os br st=some r
 | [],br,st,r,hr=>hr
 |(u,o)::os,br,st,r,hr=>by
  simp only[aK]at hr ⊢
  cases H:bN E c o st with
  |none=>grind
  |some fp=>
   simp only[H]at hr
   simp only[ye h H]
   split at hr
   ·rename_i J
    rw[if_pos J]
    cases I:bn E c n o st with
    |none=>grind
    |some s=>
     simp only[I]at hr
     simp only[mr h I]
     exact mw h os hr
   ·cases hr
theorem rH{f g:St→Option (Out×St)}(h: ∀st r,f st=some r→g st=some r): ∀{k k':Nat},k≤k'→ ∀{st:St} {r:Out×St},iter f k st=some r→iter g k' st=some r
 |0,_,_,st,r,hr=>by simp[iter]at hr
 |k+1,0,hk,_,_,_=>by omega
 |k+1,k'+1,hk,st,r,hr=>by
  simp only[iter]at hr ⊢
  cases D:f st with
  |none=>grind
  |some p=>
   rw[h _ _ D]
   rw[D]at hr
   obtain⟨o,s⟩:=p
   cases o with
   |nrm=>exact rH h yv hr
   |ext id=>exact hr
   |ret=>exact hr
theorem df{c J:jP}(h:qt c J){n:Nat}{fl H:Nat}(D:fl≤H): ∀(code:ak) {st:St} {r:Out×St},fP E c fl n code st=some r→fP E J H n code st=some r
 | .skip,st,r,hr=>hr
 | .region ops,st,r,hr=>by
   simp only[fP,Option.map_eq_some_iff]at hr ⊢
   obtain⟨a,h1,h2⟩:=hr
   exact⟨a,fS h ops h1,h2⟩
 | .draws ops,st,r,hr=>by
   simp only[fP,Option.map_eq_some_iff]at hr ⊢
   obtain⟨a,h1,h2⟩:=hr
   exact⟨a,mw h ops h1,h2⟩
 | .seq a b,st,r,hr=>by
   simp only[fP]at hr ⊢
   cases I:fP E c fl n a st with
   |none=>grind
   |some p=>
    rw[df h D a I]
    rw[I]at hr
    obtain⟨o,s⟩:=p
    cases o with
    |nrm=>exact df h D b hr
    |ext id=>exact hr
    |ret=>exact hr
 | .fork os Cf b,st,r,hr=>by
   simp only[fP]at hr ⊢
   cases h1:ai E c n os st with
   |none=>grind
   |some U=>
    cases h2:ai E c n Cf st with
    |none=>grind
    |some s2=>
     rw[fS h os h1,fS h Cf h2]
     rw[h1,h2]at hr
     simp only[]at hr ⊢
     obtain⟨o,s⟩:=r
     obtain⟨V,W,K,N,X,rfl⟩:=ta hr
     rw[K,N]at hr
     rw[df h D b K,df h D b N]
     exact hr
 | .cond x a b,st,r,hr=>by
   simp only[fP]at hr ⊢
   split at hr
   ·exact df h D a hr
   ·exact df h D b hr
   ·cases hr
 | .block id a,st,r,hr=>by
   simp only[fP]at hr ⊢
   cases I:fP E c fl n a st with
   |none=>grind
   |some p=>
    rw[df h D a I]
    grind
 | .loop a,st,r,hr=>by
   simp only[fP]at hr ⊢
   exact rH (fun st r O=>df h D a O) D hr
 | .exit id,st,r,hr=>hr
 | .ret,st,r,hr=>hr
theorem bO: ∀{m D:Nat},m≤D→qt (cK E m) (cK E D)
 |0,D,_=>fun f a sh r h=>by simp[cK]at h
 |m+1,0,h=>by omega
 |m+1,D+1,h=>fun f a sh r hr=>by
  simp only[cK]at hr ⊢
  cases H:E.fn f with
  |none=>grind
  |some af=>
   simp only[H]at hr ⊢
   split at hr
   ·cases hr
   ·rename_i I
    rw[if_neg I]
    cases hc:fP E (cK E m) m af.n af.code {fr:=kR a,lh:= .nil,sh}with
    |none=>grind
    |some p=>
     rw[df (bO (Nat.le_of_succ_le_succ h)) (Nat.le_of_succ_le_succ h) af.code hc]
     grind
end
noncomputable def lim{α:Type}(F:Nat→Option α):Option α:=
 open Classical in if h: ∃m,(F m).isSome=true then F (Classical.choose h)else none
def avs{α:Type}(F:Nat→Option α):Prop:= ∀m D r,m≤D→F m=some r→F D=some r
theorem NK{α:Type}{F:Nat→Option α}(H:avs F)(r:α):lim F=some r↔ ∃m,F m=some r:=by
 unfold lim
 constructor
 ·intro h
  split at h
  ·grind
  ·cases h
 ·rintro⟨m,I⟩
  have D: ∃m,(F m).isSome=true:=⟨m,by rw[I];rfl⟩
  rw[dif_pos D]
  have hs:=Classical.choose_spec D
  generalize Classical.choose D=k at hs
  cases hk:F k with
  |none=>grind
  |some a=>
   have h1:=H k (max k m) a (Nat.le_max_left _ _) hk
   have h2:=H m (max k m) r (Nat.le_max_right _ _) I
   grind
section
variable(E:Env)
noncomputable def ae:jP:=fun f a sh=>lim fun m=>cK E m f a sh
noncomputable def DC(n:Nat)(code:ak)(st:St):Option (Out×St):=lim fun m=>fP E (cK E m) m n code st
end
section
variable{E:Env}
theorem DCall_iff{f:Nat}{a:List T}{sh:List ah}{r:T×List ah}:ae E f a sh=some r↔ ∃m,cK E m f a sh=some r:=
 NK (fun m D r h hr=>bO h _ _ _ _ hr) r
theorem dk{n:Nat}{code:ak}{st:St}{r:Out×St}:DC E n code st=some r↔ ∃m,fP E (cK E m) m n code st=some r:=
 NK (fun m D r h hr=>df (bO h) h code hr) r
theorem oP(m:Nat):qt (cK E m) (ae E):=fun f a sh r h=>DCall_iff.2 ⟨m,h⟩
theorem Lq{D:Nat}{st:St}{f:Nat}{args:List T}{r:T×St}(hr:bu E (ae E) D st f args=some r): ∃m,bu E (cK E m) D st f args=some r:=by
 unfold bu at hr
 cases H:E.fn f with
 |none=>refine⟨0, ?_⟩;unfold bu;cases hx:E.ext f <;> simp only[H,hx]at hr ⊢ <;> exact hr
 |some af=>
  simp only[H]at hr
  grind [bu,Option.map_eq_some_iff,DCall_iff.1]
theorem Lr{D:Nat}{st:St}{f:Nat}{args:List T}{r:FP}(hr:eE E (ae E) D st f args=some r): ∃m,eE E (cK E m) D st f args=some r:=by
 unfold eE at hr
 cases H:E.fn f with
 |none=>refine⟨0, ?_⟩;unfold eE;cases hx:E.ext f <;> simp only[H,hx]at hr ⊢ <;> exact hr
 |some af=>
  simp only[H]at hr
  cases I:(bh (fz af.eff aJ) args).run st.get st.sh.length with
  |none=>grind
  |some q=>
   simp only[I]at hr
   by_cases hi:(!inB st q.2)=true
   ·grind
   ·rw[if_neg hi]at hr
    cases J:af.eff with
    |true=>
     simp_all[eE]
    |false=>
     grind [eE,DCall_iff.1]
theorem AZ{n:Nat}{o:aF}{st H:St}(hr:bn E (ae E) n o st=some H): ∃m,bn E (cK E m) n o st=some H:=by
 cases hc:bB st.rho o.op with
 |none=>
  simp_all[bn]
 |some x=>
  cases x with
  |none=>
   simp_all[bn]
  |some D=>
   cases I:bu E (ae E) (o.d.getD 0) st D.1 D.2 with
   |none=>
    refine⟨0, ?_⟩
    have h0:bu E (cK E 0) (o.d.getD 0) st D.1 D.2=none:=by
     cases h0:bu E (cK E 0) (o.d.getD 0) st D.1 D.2 with
     |none=>rfl
     |some r=>rw[yb (oP 0) h0]at I;cases I
    grind [bn]
   |some r=>
    grind [bn,Lq]
theorem Ls{o:aF}{st:St}{r:FP}(hr:bN E (ae E) o st=some r): ∃m,bN E (cK E m) o st=some r:=by
 cases hc:bB st.rho o.op with
 |none=>
  simp_all[bN]
 |some x=>
  cases x with
  |none=>
   simp_all[bN]
  |some D=>
   cases H:eE E (ae E) (o.d.getD 0) st D.1 D.2 with
   |none=>
    refine⟨0, ?_⟩
    have h0:eE E (cK E 0) (o.d.getD 0) st D.1 D.2=none:=by
     cases h0:eE E (cK E 0) (o.d.getD 0) st D.1 D.2 with
     |none=>rfl
     |some r=>rw[yc (oP 0) h0]at H;cases H
    grind [bN]
   |some r=>
    grind [bN,Lr]
theorem rI{n:Nat}: ∀(os:List aF) {st r:St},ai E (ae E) n os st=some r→ ∃m,ai E (cK E m) n os st=some r
 | [],st,r,hr=>⟨0,hr⟩
 |o::os,st,r,hr=>by
  simp only[ai]at hr
  cases I:bn E (ae E) n o st with
  |none=>grind
  |some s=>
   simp only[I]at hr
   obtain⟨D,h1⟩:=AZ I
   obtain⟨H,h2⟩:=rI os hr
   refine⟨max D H, ?_⟩
   simp only[ai,mr (bO (Nat.le_max_left D H)) h1]
   exact fS (bO (Nat.le_max_right D H)) os h2
theorem A4{n:Nat}: ∀(os:List (List Nat×aF)) {br:List FP} {st H:St},aK E (ae E) n os br st=some H→ ∃m,aK E (cK E m) n os br st=some H
 | [],br,st,H,hr=>⟨0,hr⟩
 |(u,o)::os,br,st,H,hr=>by
  simp only[aK]at hr
  cases I:bN E (ae E) o st with
  |none=>grind
  |some fp=>
   simp only[I]at hr
   split at hr
   ·rename_i K
    cases J:bn E (ae E) n o st with
    |none=>grind
    |some s=>
     simp only[J]at hr
     obtain⟨r,h1⟩:=AZ J
     obtain⟨D,h2⟩:=A4 os hr
     obtain⟨m3,h3⟩:=Ls I
     refine⟨max m3 (max r D), ?_⟩
     have N:r≤max m3 (max r D):=yv
     have O:D≤max m3 (max r D):=yv
     have U:m3≤max m3 (max r D):=yv
     simp only[aK,ye (bO U) h3,mr (bO N) h1]
     rw[if_pos K]
     exact mw (bO O) os h2
   ·cases hr
theorem oQ{α:Type}{x y:Option α}(h: ∀r,x=some r↔y=some r):x=y:=Option.ext h
theorem abQ{n:Nat}{st:St}:DC E n .skip st=some (.nrm,st):=dk.2 ⟨0,rfl⟩
theorem abR{n id:Nat}{st:St}:DC E n (.exit id) st=some (.ext id,st):=dk.2 ⟨0,rfl⟩
theorem akq{n:Nat}{st:St}:DC E n .ret st=some (.ret,st):=dk.2 ⟨0,rfl⟩
theorem DK{n:Nat}{ops:List aF}{st:St}:DC E n (.region ops) st=(ai E (ae E) n ops st).map fun D=>(.nrm,D):=by
 refine oQ fun r=> ?_
 rw[dk,Option.map_eq_some_iff]
 constructor
 ·rintro⟨m,h⟩
  simp only[fP,Option.map_eq_some_iff]at h
  obtain⟨a,h1,h2⟩:=h
  exact⟨a,fS (oP m) ops h1,h2⟩
 grind [fP,Option.map_eq_some_iff,rI]
theorem It{n:Nat}{ops:List (List Nat×aF)}{st:St}:DC E n (.draws ops) st=(aK E (ae E) n ops [] st).map fun D=>(.nrm,D):=by
 refine oQ fun r=> ?_
 rw[dk,Option.map_eq_some_iff]
 constructor
 ·rintro⟨m,h⟩
  simp only[fP,Option.map_eq_some_iff]at h
  obtain⟨a,h1,h2⟩:=h
  exact⟨a,mw (oP m) ops h1,h2⟩
 grind [fP,Option.map_eq_some_iff,A4]
def andThen(x:Option (Out×St))(f:St→Option (Out×St)):Option (Out×St):=
 match x with
 |some (.nrm,D)=>f D
 |r=>r
theorem my{st:St}{f:St→Option (Out×St)}:andThen (some (.nrm,st)) f=f st:=rfl
theorem Iu{id:Nat}{st:St}{f:St→Option (Out×St)}:andThen (some (.ext id,st)) f=some (.ext id,st):=rfl
theorem Iv{st:St}{f:St→Option (Out×St)}:andThen (some (.ret,st)) f=some (.ret,st):=rfl
theorem Fc{f:St→Option (Out×St)}:andThen none f=none:=rfl
theorem Fe{n:Nat}{a b:ak}{st:St}:DC E n (.seq a b) st=andThen (DC E n a st) (DC E n b):=by
 refine oQ fun r=> ?_
 rw[dk]
 constructor
 ·rintro⟨m,h⟩
  simp only[fP]at h
  cases D:fP E (cK E m) m n a st with
  |none=>grind
  |some p=>
   rw[D]at h
   rw[dk.2 ⟨m,D⟩]
   obtain⟨o,s⟩:=p
   cases o with
   |nrm=>exact dk.2 ⟨m,h⟩
   |ext id=>exact h
   |ret=>exact h
 ·intro h
  cases D:DC E n a st with
  |none=>rw[D]at h;cases h
  |some p=>
   rw[D]at h
   obtain⟨H,h1⟩:=dk.1 D
   obtain⟨o,s⟩:=p
   cases o with
   |nrm=>
    obtain⟨I,h2⟩:=dk.1 h
    refine⟨max H I, ?_⟩
    have J:=Nat.le_max_left H I
    have K:=Nat.le_max_right H I
    simp only[fP,df (bO J) J a h1]
    exact df (bO K) K b h2
   |ext id=>refine⟨H, ?_⟩;simp only[fP,h1];exact h
   |ret=>refine⟨H, ?_⟩;simp only[fP,h1];exact h
theorem abS{n:Nat}{c:aP}{a b:ak}{st:St}:DC E n (.cond c a b) st=match st.rho c with| .b true=>DC E n a st| .b false=>DC E n b st|_=>none:=by
 refine oQ fun r=> ?_
 grind [dk,fP,dk.2,dk.1]
def yf(id:Nat)(x:Option (Out×St)):Option (Out×St):=
 match x with
 |some (.ext Ql,D)=>if Ql=id then some (.nrm,D)else some (.ext Ql,D)
 |r=>r
theorem QA{id:Nat}{st:St}:yf id (some (.nrm,st))=some (.nrm,st):=rfl
theorem QB{id:Nat}{st:St}:yf id (some (.ret,st))=some (.ret,st):=rfl
theorem QC{id Ql:Nat}{st:St}:yf id (some (.ext Ql,st))=if Ql=id then some (.nrm,st)else some (.ext Ql,st):=rfl
theorem Lt{id:Nat}:yf id none=none:=rfl
theorem VS{n id:Nat}{a:ak}{st:St}:DC E n (.block id a) st=yf id (DC E n a st):=by
 refine oQ fun r=> ?_
 rw[dk]
 constructor
 ·rintro⟨m,h⟩
  simp only[fP]at h
  cases D:fP E (cK E m) m n a st with
  |none=>grind
  |some p=>
   rw[D]at h
   rw[dk.2 ⟨m,D⟩]
   exact h
 ·intro h
  cases D:DC E n a st with
  |none=>rw[D]at h;cases h
  |some p=>
   rw[D]at h
   obtain⟨H,h1⟩:=dk.1 D
   refine⟨H, ?_⟩
   simp only[fP,h1]
   exact h
theorem rJ{n:Nat}{a:ak}{st:St}:DC E n (.loop a) st=andThen (DC E n a st) (DC E n (.loop a)):=by
 refine oQ fun r=> ?_
 rw[dk]
 constructor
 ·rintro⟨m,h⟩
  simp only[fP]at h
  cases m with
  |zero=>simp[iter]at h
  |succ m=>
   rw[iter]at h
   cases H:fP E (cK E (m+1)) (m+1) n a st with
   |none=>grind
   |some p=>
    rw[H]at h
    rw[dk.2 ⟨m+1,H⟩]
    obtain⟨o,s⟩:=p
    cases o with
    |nrm=>
     refine dk.2 ⟨m+1, ?_⟩
     simp only[fP]
     exact rH (fun _ _ h=>h) (Nat.le_succ m) h
    |ext id=>exact h
    |ret=>exact h
 ·intro h
  cases H:DC E n a st with
  |none=>rw[H]at h;cases h
  |some p=>
   rw[H]at h
   obtain⟨D,h1⟩:=dk.1 H
   obtain⟨o,s⟩:=p
   cases o with
   |nrm=>
    obtain⟨I,h2⟩:=dk.1 h
    refine⟨max D I+1, ?_⟩
    have J:D≤max D I+1:=yv
    have K:I≤max D I+1:=yv
    have N:I≤max D I:=yv
    simp only[fP]at h2
    simp only[fP]
    rw[iter,df (bO J) J a h1]
    exact rH (fun st r O=>df (bO K) K a O) N h2
   |ext id=>
    refine⟨D+1, ?_⟩
    simp only[fP]
    rw[iter,df (bO (Nat.le_succ D)) (Nat.le_succ D) a h1]
    exact h
   |ret=>
    refine⟨D+1, ?_⟩
    simp only[fP]
    rw[iter,df (bO (Nat.le_succ D)) (Nat.le_succ D) a h1]
    exact h
def ah5(af:aj)(x:Option (Out×St)):Option (T×List ah):=
 match x with
 |some (.ext _,_)=>none
 |some (_,st)=>match iv st af.res with
  |some r=>rm af.own af.eff r st
  |none=>none
 |none=>none
theorem VT{f:Nat}{af:aj}{args:List T}{sh:List ah}(D:E.fn f=some af)(H:args.length≤af.n):
  ae E f args sh=ah5 af (DC E af.n af.code {fr:=kR args,lh:= .nil,sh}):=by
 refine oQ fun r=> ?_
 rw[DCall_iff]
 constructor
 ·rintro⟨m,h⟩
  cases m with
  |zero=>simp[cK]at h
  |succ m=>
   simp only[cK,D,if_neg (Nat.not_lt.2 H)]at h
   cases hc:fP E (cK E m) m af.n af.code {fr:=kR args,lh:= .nil,sh}with
   |none=>grind
   |some p=>rw[hc]at h;rw[dk.2 ⟨m,hc⟩];exact h
 ·intro h
  cases hc:DC E af.n af.code {fr:=kR args,lh:= .nil,sh}with
  |none=>rw[hc]at h;cases h
  |some p=>
   rw[hc]at h
   obtain⟨m,I⟩:=dk.1 hc
   refine⟨m+1, ?_⟩
   simp only[cK,D,if_neg (Nat.not_lt.2 H),I]
   exact h
end
end Go.Ev
namespace Go.Ev
open Go
theorem nr{α:Sort _}{a b:α}(h:a=b):a=b:=h
def rd(fr:Fr):aP→T
 | .t k=>aa fr k
 | .c v=>v
theorem aBK(fr:Fr)(k:Nat):rd fr (.t k)=aa fr k:=nr rfl
theorem aBL(fr:Fr)(v:T):rd fr (.c v)=v:=nr rfl
theorem dm(fr:Fr)(lh:aD ah)(sh:List ah):(St.mk fr lh sh).rho=rd fr:=by funext x;cases x <;> rfl
theorem VU(fr:Fr)(d:Nat)(v:T):aa (cH fr d v) d=v:=by rw[lr,if_pos rfl]
theorem VV(fr:Fr){d m:Nat}(v:T)(h:m≠d):aa (cH fr d v) m=aa fr m:=by rw[lr,if_neg h]
def ab(lh:aD ah)(k:Nat):ah:=aD.get eH lh k
def je(lh:aD ah)(k:Nat)(e:ah):aD ah:=aD.set eH lh k e
theorem xe(lh:aD ah)(k:Nat)(e:ah):ab (je lh k e) k=e:=by grind [ab,je,aD.get_set]
theorem bD(lh:aD ah){k m:Nat}(e:ah)(h:m≠k):ab (je lh k e) m=ab lh m:=by grind [ab,je,aD.get_set]
theorem VW(k:Nat):ab .nil k=eH:=by unfold ab;exact aD.get_nil _ _
theorem get_nil(k:Nat):aa .nil k=aQ:=by unfold aa;exact aD.get_nil _ _
theorem NL(fr:Fr)(lh:aD ah)(sh:List ah)(k:Nat):(St.mk fr lh sh).get .L k=ab lh k:=rfl
theorem yY(st:St):st.ups []=st:=rfl
theorem ah6(fr:Fr)(lh:aD ah)(sh:List ah)(k:Nat)(e:ah)(us:List Up):(St.mk fr lh sh).ups ((.L,k,e)::us)=(St.mk fr (je lh k e) sh).ups us:=rfl
def kH:Option Am→Option (T×List Up)
 |some (.val v r)=>some (v,r)
 |none=>none
def one(fr:Fr)(lh:aD ah)(sh:List ah)(d:Nat)(op:mh):Option (T×List Up):=
 kH ((bz d (rd fr) op).run (St.mk fr lh sh).get sh.length)
def r8(fr:Fr):Option Nat→T→Fr
 |some d,v=>cH fr d v
 |none,_=>fr
def CJ(n:Nat):Option Nat→Prop
 |some d=>d<n
 |none=>True
section
variable{E:Env}{call:jP}{n:Nat}{fr:Fr}{lh:aD ah}{sh:List ah}{os:List aF}
theorem avt{st:St}:ai E call n [] st=some st:=rfl
theorem kI{d:Option Nat}{op:mh}(hc:bB (rd fr) op=none)(D:CJ n d):
  ai E call n (⟨d,op,none⟩::os) ⟨fr,lh,sh⟩=(one fr lh sh (d.getD 0) op).bind fun r=>ai E call n os {(St.mk fr lh sh).ups r.2 with fr:=r8 fr d r.1}:=by
 simp only[ai,bn,dm,hc]
 unfold one
 cases h:(bz (d.getD 0) (rd fr) op).run (St.mk fr lh sh).get sh.length with
 |none=>rfl
 |some r=>
  obtain⟨v,ups⟩:=r
  simp only[Option.bind_some,kH]
  cases d with
  |none=>rfl
  |some d=>simp only[gz,if_pos (show d<n from D),r8,Option.map_some]
theorem dt{d:Option Nat}{op:mh}(hc:bB (rd fr) op=none)(r:CJ n d){v:Option T}(h1:one fr lh sh (d.getD 0) op=v.map fun v=>(v,[])):
  ai E call n (⟨d,op,none⟩::os) ⟨fr,lh,sh⟩=v.bind fun v=>ai E call n os ⟨r8 fr d v,lh,sh⟩:=by
 rw[kI hc r,h1]
 cases v <;> rfl
theorem iS{o:Option T}{h:Sp→Nat→ah}{nx:Nat}:kH ((val o).run h nx)=o.map fun v=>(v,([]:List Up)):=by
 cases o <;> rfl
variable{d:Nat}
theorem aBM{x:aP}(r:d<n):ai E call n (⟨some d,.mv x,none⟩::os) ⟨fr,lh,sh⟩=ai E call n os ⟨cH fr d (rd fr x),lh,sh⟩:=
 dt (d:=some d) (v:=some (rd fr x)) (by rfl) r rfl
def NM(c a b:T):Option T:=match c with| .b x=>some (if x=true then a else b)|_=>none
theorem abT(x:Bool)(a b:T):NM (.b x) a b=some (if x=true then a else b):=rfl
theorem akr{c a b:aP}(r:d<n):ai E call n (⟨some d,.pick c a b,none⟩::os) ⟨fr,lh,sh⟩=(NM (rd fr c) (rd fr a) (rd fr b)).bind fun v=>ai E call n os ⟨cH fr d v,lh,sh⟩:=by
 refine dt (d:=some d) (by rfl) r ?_
 unfold one NM
 simp only[bz]
 cases h:rd fr c <;> try rfl
 rename_i x
 cases x <;> rfl
theorem avu{op:BinOp}{x y:aP}(r:d<n):ai E call n (⟨some d,.bin op x y,none⟩::os) ⟨fr,lh,sh⟩=(Ev.bin op (rd fr x) (rd fr y)).bind fun v=>ai E call n os ⟨cH fr d v,lh,sh⟩:=
 dt (d:=some d) (by rfl) r iS
theorem aBN{neg:Bool}{k:EK}{x y:aP}(D:d<n):ai E call n (⟨some d,.eq neg k x y,none⟩::os) ⟨fr,lh,sh⟩=((pP k (rd fr x) (rd fr y)).map fun r=>T.b (r != neg)).bind fun v=>ai E call n os ⟨cH fr d v,lh,sh⟩:=
 dt (d:=some d) (by rfl) D iS
theorem aBO{op:UnOp}{x:aP}(r:d<n):ai E call n (⟨some d,.un op x,none⟩::os) ⟨fr,lh,sh⟩=(Ev.un op (rd fr x)).bind fun v=>ai E call n os ⟨cH fr d v,lh,sh⟩:=
 dt (d:=some d) (by rfl) r iS
def abU(k:IntKind):T→Option T
 | .i _ n=>some (.i k (wr k n))
 |_=>none
theorem avv{k:IntKind}{x:aP}(r:d<n):ai E call n (⟨some d,.cvi k x,none⟩::os) ⟨fr,lh,sh⟩=(abU k (rd fr x)).bind fun v=>ai E call n os ⟨cH fr d v,lh,sh⟩:=by
 refine dt (d:=some d) (by rfl) r ?_
 unfold one abU
 simp only[bz]
 cases h:rd fr x <;> rfl
def abV:T→Option T
 | .sl [.i .u8 (.ofNat k)] 1 _=>if k<256 then some (.s [k])else none
 |_=>none
theorem avw{x:aP}(r:d<n):ai E call n (⟨some d,.b2s x,none⟩::os) ⟨fr,lh,sh⟩=(abV (rd fr x)).bind fun v=>ai E call n os ⟨cH fr d v,lh,sh⟩:=by
 refine dt (d:=some d) (by rfl) r ?_
 unfold one abV
 simp only[bz]
 generalize rd fr x=y
 split
 ·rename_i k ex
  by_cases hk:k<256
  ·rw[if_pos hk];simp only[hk,if_true];rfl
  ·rw[if_neg hk];simp only[hk,if_false];rfl
 ·rename_i h
  split
  ·rename_i k ex;exact absurd rfl (h k ex)
  ·rfl
theorem aks{f:Nat}{a c:List aP}(r:d<n):ai E call n (⟨some d,.mkfn f a c,none⟩::os) ⟨fr,lh,sh⟩=ai E call n os ⟨cH fr d (.fn f (a.map (rd fr)) (c.map (rd fr))),lh,sh⟩:=
 dt (d:=some d) (v:=some _) (by rfl) r rfl
def Ff(fr:Fr)(z:List T)(r:List (Nat×Nat×aP)):Option T:=
 if(r.all fun p=>(cellsOf (rd fr p.2.2)).length=p.2.1&&noTup (rd fr p.2.2))=true then(kG z (r.map fun p=>(p.1,cellsOf (rd fr p.2.2)))).map .agg else none
theorem abW{z:List T}{r:List (Nat×Nat×aP)}(D:d<n):ai E call n (⟨some d,.build z r,none⟩::os) ⟨fr,lh,sh⟩=(Ff fr z r).bind fun v=>ai E call n os ⟨cH fr d v,lh,sh⟩:=by
 refine dt (d:=some d) (by rfl) D ?_
 unfold one Ff
 simp only[bz]
 split
 ·exact iS
 ·rfl
def tc(fr:Fr)(x:T)(l h:Option aP):Option T:=
 match x with
 | .s r=>match dD (rd fr) 0 l,dD (rd fr) r.length h with
   |some l,some h=>if l≤h∧h≤r.length then some (.s ((r.drop l).take (h-l)))else none
   |_,_=>none
 |_=>none
theorem avx{x:aP}{l h:Option aP}(H:d<n):ai E call n (⟨some d,.slS x l h,none⟩::os) ⟨fr,lh,sh⟩=(tc fr (rd fr x) l h).bind fun v=>ai E call n os ⟨cH fr d v,lh,sh⟩:=by
 refine dt (d:=some d) (by rfl) H ?_
 unfold one tc
 simp only[bz]
 cases hx:rd fr x <;> try rfl
 rename_i r
 simp only[]
 cases h1:dD (rd fr) 0 l <;> cases h2:dD (rd fr) r.length h <;> try rfl
 rename_i a b
 simp only[Bool.and_eq_true,decide_eq_true_eq]
 by_cases D:a≤b∧b≤r.length
 ·simp only[if_pos D];rfl
 ·simp only[if_neg D];rfl
def faV(x:T)(off:Nat):Option T:=
 match x with
 | .vp cs=>if off≤cs.length then some (.vp (cs.drop off))else none
 | .ptr sp k g o=>some (.ptr sp k g (o+off))
 |_=>none
theorem aBP{x:aP}{off:Nat}(r:d<n):ai E call n (⟨some d,.fa x off,none⟩::os) ⟨fr,lh,sh⟩=(faV (rd fr x) off).bind fun v=>ai E call n os ⟨cH fr d v,lh,sh⟩:=by
 refine dt (d:=some d) (by rfl) r ?_
 unfold one faV
 simp only[bz]
 cases hx:rd fr x <;> try rfl
 rename_i cs
 simp only[]
 split <;> rfl
def abX(x:T)(off n:Nat)(r:Bool):Option T:=match x with| .agg cs=>part cs off n r|_=>none
theorem avz{x:aP}{off m:Nat}{r:Bool}(D:d<n):ai E call n (⟨some d,.fld x off m r,none⟩::os) ⟨fr,lh,sh⟩=(abX (rd fr x) off m r).bind fun v=>ai E call n os ⟨cH fr d v,lh,sh⟩:=by
 refine dt (d:=some d) (by rfl) D ?_
 unfold one abX
 simp only[bz]
 cases hx:rd fr x <;> try rfl
 exact iS
def iaV(x r:T)(sz:Nat):Option T:=
 match asNat r,x with
 |some j,.sl cs len _=>if j<len∧(j+1)*sz≤cs.length then some (.vp (cs.drop (j*sz)))else none
 |some j,.isl sp k g off len D=>if j<len∧D=sz then some (.ptr sp k g (off+j*sz))else none
 |_,_=>none
theorem aBQ{x r:aP}{sz:Nat}(D:d<n):ai E call n (⟨some d,.ia x r sz,none⟩::os) ⟨fr,lh,sh⟩=(iaV (rd fr x) (rd fr r) sz).bind fun v=>ai E call n os ⟨cH fr d v,lh,sh⟩:=by
 refine dt (d:=some d) (by rfl) D ?_
 unfold one iaV
 simp only[bz]
 cases h1:asNat (rd fr r)with
 |none=>rfl
 |some j=>
  cases hx:rd fr x <;> try rfl
  ·simp only[Bool.and_eq_true,decide_eq_true_eq];split <;> rfl
  ·simp only[Bool.and_eq_true,decide_eq_true_eq];split <;> rfl
def eO(x r:T)(len sz:Nat):Option T:=
 match asNat r,x with
 |some j,.vp cs=>if j<len∧(j+1)*sz≤cs.length then some (.vp (cs.drop (j*sz)))else none
 |some j,.ptr sp k g off=>if j<len then some (.ptr sp k g (off+j*sz))else none
 |_,_=>none
theorem avA{x r:aP}{len sz:Nat}(D:d<n):ai E call n (⟨some d,.iaA x r len sz,none⟩::os) ⟨fr,lh,sh⟩=(eO (rd fr x) (rd fr r) len sz).bind fun v=>ai E call n os ⟨cH fr d v,lh,sh⟩:=by
 refine dt (d:=some d) (by rfl) D ?_
 unfold one eO
 simp only[bz]
 cases h1:asNat (rd fr r)with
 |none=>rfl
 |some j=>
  cases hx:rd fr x <;> try rfl
  ·simp only[Bool.and_eq_true,decide_eq_true_eq];split <;> rfl
  ·simp only[];split <;> rfl
def CM(x r:T):Option T:=
 match asNat r,x with
 |some j,.s D=>D[j]?.map fun c=> .i .u8 c
 |_,_=>none
theorem avB{x r:aP}(D:d<n):ai E call n (⟨some d,.ixS x r,none⟩::os) ⟨fr,lh,sh⟩=(CM (rd fr x) (rd fr r)).bind fun v=>ai E call n os ⟨cH fr d v,lh,sh⟩:=by
 refine dt (d:=some d) (by rfl) D ?_
 unfold one CM
 simp only[bz]
 cases h1:asNat (rd fr r)with
 |none=>rfl
 |some j=>
  cases hx:rd fr x <;> try rfl
  rename_i H
  simp only[]
  cases I:H[j]? <;> rfl
def abY(x r:T)(len sz:Nat)(D:Bool):Option T:=
 match asNat r,x with
 |some j,.agg cs=>if j<len then part cs (j*sz) sz D else none
 |_,_=>none
theorem avC{x r:aP}{len sz:Nat}{D:Bool}(H:d<n):ai E call n (⟨some d,.ixA x r len sz D,none⟩::os) ⟨fr,lh,sh⟩=(abY (rd fr x) (rd fr r) len sz D).bind fun v=>ai E call n os ⟨cH fr d v,lh,sh⟩:=by
 refine dt (d:=some d) (by rfl) H ?_
 unfold one abY
 simp only[bz]
 cases h1:asNat (rd fr r)with
 |none=>rfl
 |some j=>
  cases hx:rd fr x <;> try rfl
  simp only[]
  split
  ·exact iS
  ·rfl
def abZ(x:T)(j:Nat):Option T:=match x with| .tup vs=>vs[j]? |_=>none
theorem avD{x:aP}{j:Nat}(r:d<n):ai E call n (⟨some d,.ext x j,none⟩::os) ⟨fr,lh,sh⟩=(abZ (rd fr x) j).bind fun v=>ai E call n os ⟨cH fr d v,lh,sh⟩:=by
 refine dt (d:=some d) (by rfl) r ?_
 unfold one abZ
 simp only[bz]
 cases hx:rd fr x <;> try rfl
 exact iS
def NN(x:T):Option T:=match x with| .s bs=>some (.i .i64 bs.length)|_=>none
theorem akt{x:aP}(r:d<n):ai E call n (⟨some d,.lenS x,none⟩::os) ⟨fr,lh,sh⟩=(NN (rd fr x)).bind fun v=>ai E call n os ⟨cH fr d v,lh,sh⟩:=by
 refine dt (d:=some d) (by rfl) r ?_
 unfold one NN
 simp only[bz]
 cases hx:rd fr x <;> rfl
theorem aku{x:aP}(r:d<n):ai E call n (⟨some d,.lenV x,none⟩::os) ⟨fr,lh,sh⟩=((kU (rd fr x)).map fun m=>T.i .i64 m).bind fun v=>ai E call n os ⟨cH fr d v,lh,sh⟩:=
 dt (d:=some d) (by rfl) r iS
theorem akv{m:Nat}(r:d<n):ai E call n (⟨some d,.lenC m,none⟩::os) ⟨fr,lh,sh⟩=ai E call n os ⟨cH fr d (.i .i64 m),lh,sh⟩:=
 dt (d:=some d) (v:=some _) (by rfl) r rfl
def mmV(r:Bool)(l:List T):Option T:=match l with|x::rest=>gw r x rest| []=>none
theorem aBR{r:Bool}{args:List aP}(H:d<n):ai E call n (⟨some d,.mm r args,none⟩::os) ⟨fr,lh,sh⟩=(mmV r (args.map (rd fr))).bind fun v=>ai E call n os ⟨cH fr d v,lh,sh⟩:=by
 refine dt (d:=some d) (by rfl) H ?_
 unfold one mmV
 simp only[bz]
 cases hx:args.map (rd fr)with
 |nil=>rfl
 |cons x D=>exact iS
def Fg(x:T):Option T:=match x with| .vp cs=>some (.vp cs)| .ptr sp k g off=>some (.ptr sp k g off)| .fn f a c=>some (.fn f a c)|_=>none
theorem NO{x:aP}:one fr lh sh d (.nck x)=(Fg (rd fr x)).map fun v=>(v,[]):=by
 unfold one Fg
 simp only[bz]
 cases hx:rd fr x <;> rfl
theorem avF{x:aP}(r:d<n):ai E call n (⟨some d,.nck x,none⟩::os) ⟨fr,lh,sh⟩=(Fg (rd fr x)).bind fun v=>ai E call n os ⟨cH fr d v,lh,sh⟩:=
 dt (d:=some d) (by rfl) r NO
theorem akw{x:aP}:ai E call n (⟨none,.nck x,none⟩::os) ⟨fr,lh,sh⟩=(Fg (rd fr x)).bind fun v=>ai E call n os ⟨fr,lh,sh⟩:=
 dt (d:=none) (by rfl) trivial NO
def ldE(e:ah)(g off m:Nat)(r:Bool):Option T:=
 match e with
 |⟨D,.cells cs _ _⟩=>if D=g then part cs off m r else none
 |_=>none
theorem QD{g r off m H:Nat}{D bx:Bool}{cs:List T}:ldE ⟨r,.cells cs H bx⟩ g off m D=if r=g then part cs off m D else none:=rfl
def ldV(lh:aD ah)(sh:List ah)(x:T)(m:Nat)(r:Bool):Option T:=
 match x with
 | .vp cs=>part cs 0 m r
 | .ptr .L k g off=>ldE (ab lh k) g off m r
 | .ptr .S k g off=>ldE (aI sh k) g off m r
 |_=>none
theorem VY{α:Type}{o:Option α}{h:Sp→Nat→ah}{nx:Nat}:(Q.of o).run h nx=o:=by cases o <;> rfl
theorem ldQ{h:Sp→Nat→ah}{nx g off m:Nat}{r:Bool}(e:ah):Q.run h nx (if e.g=g then(match e.ob with| .cells cs _ _=>Q.of (part cs off m r)|_=> .fail)else .fail)=ldE e g off m r:=by
 obtain⟨H,ob⟩:=e
 unfold ldE
 by_cases D:H=g
 ·cases ob <;> simp only[D,if_true] <;> first|rfl|exact VY
 ·cases ob <;> simp only[D,if_false] <;> rfl
theorem NP{x:T}{m:Nat}{r:Bool}:(EO x m r).run (St.mk fr lh sh).get sh.length=ldV lh sh x m r:=by
 unfold EO ldV
 cases x <;> try rfl
 ·exact VY
 ·rename_i sp k g off
  cases sp
  ·exact ldQ (ab lh k)
  ·exact ldQ (aI sh k)
theorem bt{α β:Type}{h:Sp→Nat→ah}{nx:Nat}{f:α→Q β}: ∀(q:Q α),(q.bind f).run h nx=(q.run h nx).bind fun a=>(f a).run h nx
 | .ret a=>rfl
 | .fail=>rfl
 | .rd sp k g=>bt (g (h sp k))
 | .new g=>bt (g nx)
theorem aBS{x:aP}{m:Nat}{r:Bool}(D:d<n):ai E call n (⟨some d,.ld x m r,none⟩::os) ⟨fr,lh,sh⟩=(ldV lh sh (rd fr x) m r).bind fun v=>ai E call n os ⟨cH fr d v,lh,sh⟩:=by
 refine dt (d:=some d) (by rfl) D ?_
 unfold one
 simp only[bz,bt,NP]
 cases ldV lh sh (rd fr x) m r <;> rfl
theorem ab0{z:List T}(r:d<n):ai E call n (⟨some d,.alloc z false,none⟩::os) ⟨fr,lh,sh⟩=ai E call n os ⟨cH fr d (.ptr .L d ((ab lh d).g+1) 0),je lh d ⟨(ab lh d).g+1,.cells z 0 true⟩,sh⟩:=by
 rw[kI (by rfl) (show CJ n (some d)from r)];rfl
theorem avG{x:aP}(r:d<n)(D:noTup (rd fr x)=true):ai E call n (⟨some d,.box x false,none⟩::os) ⟨fr,lh,sh⟩=ai E call n os ⟨cH fr d (.ptr .L d ((ab lh d).g+1) 0),je lh d ⟨(ab lh d).g+1,.cells (cellsOf (rd fr x)) 0 true⟩,sh⟩:=by
 rw[kI (by rfl) (show CJ n (some d)from r)]
 unfold one
 simp only[bz,D]
 rfl
theorem ab1(r:d<n):ai E call n (⟨some d,.mkmap false,none⟩::os) ⟨fr,lh,sh⟩=ai E call n os ⟨cH fr d (.mp .L d ((ab lh d).g+1)),je lh d ⟨(ab lh d).g+1,.map [] [] false⟩,sh⟩:=by
 rw[kI (by rfl) (show CJ n (some d)from r)];rfl
def Lu(x:T)(bytes:Nat):Option Nat:=match asNat x with|some m=>if m*bytes≤roomy∧m≤roomy then some m else none|none=>none
theorem aky{z:List T}{bytes:Nat}{x:aP}(r:d<n):ai E call n (⟨some d,.mksl z bytes x false,none⟩::os) ⟨fr,lh,sh⟩=
  (Lu (rd fr x) bytes).bind fun m=>ai E call n os ⟨cH fr d (.isl .L d ((ab lh d).g+1) 0 m z.length),je lh d ⟨(ab lh d).g+1,.cells (repl z m) 0 (Sz z)⟩,sh⟩:=by
 rw[kI (by rfl) (show CJ n (some d)from r)]
 unfold one Lu
 simp only[bz]
 cases asNat (rd fr x)with
 |none=>rfl
 |some m=>
  simp only[Bool.and_eq_true,decide_eq_true_eq]
  split <;> rfl
end
end Go.Ev
namespace Go.Ev
open Go
def froz1:T→Bool
 | .b _| .i .. | .s _| .nilsl| .sl .. | .nilptr| .vp _| .nilmp| .vm .. | .nilfn=>true
 |_=>false
def froz:T→Bool
 | .agg cs=>cs.all froz1
 | .tup cs=>cs.all froz1
 | .fn _ a c=>a.all froz1&&c.all froz1
 |t=>froz1 t
theorem qu{keep:Bool}{n:Nat}{t:T}(h:froz1 t=true):fz keep (n+1) t= .ret (t,[]):=by
 cases t <;> first|rfl|(simp[froz1]at h)
theorem iy{keep:Bool}{n:Nat}: ∀(ts:List T),ts.all froz1=true→bh (fz keep (n+1)) ts= .ret (ts,[])
 | [],_=>rfl
 |t::ts,h=>by
  simp_all[List.all_cons,Bool.and_eq_true,bh,qu,iy,Q.bind,List.append_nil]
theorem Fh{keep:Bool}{n:Nat}{cs:List T}:fz keep (n+1) (.agg cs)=(bh (fz keep n) cs).bind fun q=> .ret (.agg q.1,q.2):=rfl
theorem Lv{keep:Bool}{n:Nat}{cs:List T}:fz keep (n+1) (.tup cs)=(bh (fz keep n) cs).bind fun q=> .ret (.tup q.1,q.2):=rfl
theorem ah7{keep:Bool}{n f:Nat}{a c:List T}:fz keep (n+1) (.fn f a c)=(bh (fz keep n) a).bind fun p=>(bh (fz keep n) c).bind fun q=> .ret (.fn f p.1 q.1,p.2++q.2):=rfl
theorem jI{keep:Bool}{n:Nat}{t:T}(h:froz t=true):fz keep (n+2) t= .ret (t,[]):=by
 cases t with
 |agg cs=>simp only[froz]at h;rw[Fh,iy cs h];rfl
 |tup cs=>simp only[froz]at h;rw[Lv,iy cs h];rfl
 |fn f a c=>simp only[froz,Bool.and_eq_true]at h;rw[ah7,iy a h.1,iy c h.2];rfl
 |_=>exact qu h
def fzV(lh:aD ah)(sh:List ah)(keep:Bool)(v:T):Option (T×List Up):=(fz keep aJ v).run (St.mk .nil lh sh).get sh.length
def yU(lh:aD ah)(sh:List ah)(keep:Bool)(r:List T):Option (List T×List Up):=(bh (fz keep aJ) r).run (St.mk .nil lh sh).get sh.length
section
variable{lh:aD ah}{sh:List ah}{keep:Bool}
theorem qv{v:T}(h:froz v=true):fzV lh sh keep v=some (v,[]):=by
 unfold fzV aJ;rw[jI h];rfl
theorem Fi:yU lh sh keep []=some ([],[]):=rfl
theorem nL{v:T}{r:List T}:yU lh sh keep (v::r)=(fzV lh sh keep v).bind fun p=>(yU lh sh keep r).bind fun q=>some (p.1::q.1,p.2++q.2):=by
 unfold yU fzV
 rw[bh,bt]
 congr 1
 funext p
 rw[bt]
 rfl
theorem uU{r:List T}(h:r.all froz=true):yU lh sh keep r=some (r,[]):=by
 induction r with
 |nil=>rfl
 |cons v r ih=>
  simp_all[List.all_cons,Bool.and_eq_true,nL,qv]
def VZ(m:Nat)(lh:aD ah)(sh:List ah)(k:Nat)(e:ah)(g off len sz:Nat):Option (T×List Up):=
 match e with
 |⟨r,.cells cs _ false⟩=>if r=g∧off+len*sz≤cs.length then some (.sl ((cs.drop off).take (len*sz)) len false,[(.L,k,⟨g,.cells cs cs.length false⟩)])else none
 |⟨r,.cells cs _ true⟩=>if r=g∧off+len*sz≤cs.length then((bh (fz false m) ((cs.drop off).take (len*sz))).run (St.mk .nil lh sh).get sh.length).map fun q=>(.sl q.1 len false,q.2++ [(.L,k,⟨g,.cells cs cs.length true⟩)])else none
 |_=>none
theorem avH{m k g off len sz:Nat}(e:ah):Q.run (St.mk .nil lh sh).get sh.length (if e.g=g then(match e.ob with
        | .cells cs _ false=>if off+len*sz≤cs.length then .ret (T.sl ((cs.drop off).take (len*sz)) len false,[(Sp.L,k,(⟨g,.cells cs cs.length false⟩:ah))])else .fail
        | .cells cs _ true=>if off+len*sz≤cs.length then(bh (fz false m) ((cs.drop off).take (len*sz))).bind fun q=> .ret (T.sl q.1 len false,q.2++ [(Sp.L,k,(⟨g,.cells cs cs.length true⟩:ah))])else .fail
        |_=> .fail)else .fail)=VZ m lh sh k e g off len sz:=by
 obtain⟨H,ob⟩:=e
 unfold VZ
 by_cases r:H=g
 ·cases ob with
  |cells cs I bx=>
   cases bx
   ·grind [Q.run]
   ·by_cases D:off+len*sz≤cs.length
    ·simp only[r,D,if_true,and_self,bt]
     cases (bh (fz false m) ((cs.drop off).take (len*sz))).run (St.mk .nil lh sh).get sh.length <;> rfl
    ·simp[r,D,Q.run]
  |_=>simp[r,Q.run]
 grind [Q.run]
theorem NQ{k g off len sz:Nat}:fzV lh sh keep (.isl .L k g off len sz)=VZ 7 lh sh k (ab lh k) g off len sz:=by
 cases keep <;> exact avH (ab lh k)
def mpV(k:Nat)(e:ah)(g:Nat):Option (T×List Up):=
 match e with
 |⟨D,.map ks r _⟩=>if D=g then some (.vm ks r,[(.L,k,⟨g,.map ks r true⟩)])else none
 |_=>none
theorem mpQ{h:Sp→Nat→ah}{nx k g:Nat}(e:ah):Q.run h nx (if e.g=g then(match e.ob with
        | .map ks r _=> .ret (T.vm ks r,[(Sp.L,k,(⟨g,.map ks r true⟩:ah))])
        |_=> .fail)else .fail)=mpV k e g:=by
 obtain⟨D,ob⟩:=e
 unfold mpV
 grind [Q.run]
theorem akz{k g:Nat}:fzV lh sh keep (.mp .L k g)=mpV k (ab lh k) g:=by
 cases keep <;> exact mpQ (ab lh k)
theorem QE{k g off len sz:Nat}:fzV lh sh true (.isl .S k g off len sz)=some (.isl .S k g off len sz,[]):=rfl
theorem QF{k g off:Nat}:fzV lh sh true (.ptr .S k g off)=some (.ptr .S k g off,[]):=rfl
theorem QG{k g:Nat}:fzV lh sh true (.mp .S k g)=some (.mp .S k g,[]):=rfl
theorem ab2{cs:List T}:fzV lh sh keep (.agg cs)=((bh (fz keep 7) cs).run (St.mk .nil lh sh).get sh.length).map fun q=>(.agg q.1,q.2):=by
 unfold fzV aJ
 rw[Fh,bt]
 cases (bh (fz keep 7) cs).run (St.mk .nil lh sh).get sh.length <;> rfl
theorem ab3{cs:List T}:fzV lh sh keep (.tup cs)=((bh (fz keep 7) cs).run (St.mk .nil lh sh).get sh.length).map fun q=>(.tup q.1,q.2):=by
 unfold fzV aJ
 rw[Lv,bt]
 cases (bh (fz keep 7) cs).run (St.mk .nil lh sh).get sh.length <;> rfl
end
section
variable{E:Env}{call:jP}{n:Nat}{fr:Fr}{lh:aD ah}{sh:List ah}{os:List aF}{d:Nat}
theorem lN:(St.mk fr lh sh).get=(St.mk .nil lh sh).get:=by funext sp k;cases sp <;> rfl
theorem lz: ∀(us:List Up) (lh:aD ah) (sh:List ah),(St.mk fr lh sh).ups us={(St.mk .nil lh sh).ups us with fr:=fr}
 | [],lh,sh=>rfl
 |(.L,k,e)::us,lh,sh=>lz us (je lh k e) sh
 |(.S,k,e)::us,lh,sh=>lz us lh (bI sh k e)
def stV(lh:aD ah)(sh:List ah)(x v:T)(m:Nat):Option (aD ah×List ah):=
 match(nw x v m).run (St.mk .nil lh sh).get sh.length with
 |some (.val _ us)=>some (((St.mk .nil lh sh).ups us).lh,((St.mk .nil lh sh).ups us).sh)
 |none=>none
theorem aBT{x v:aP}{m:Nat}:ai E call n (⟨none,.st x v m,none⟩::os) ⟨fr,lh,sh⟩=(stV lh sh (rd fr x) (rd fr v) m).bind fun r=>ai E call n os ⟨fr,r.1,r.2⟩:=by
 rw[kI (by rfl) (show CJ n none from trivial)]
 grind [one,stV,bz,lN,r8,kH,lz]
def Fj(lh:aD ah)(sh:List ah)(k:Nat)(e:ah)(g off:Nat)(v:T)(m:Nat):Option (aD ah×List ah):=
 match e with
 |⟨D,.cells cs r true⟩=>if D=g∧(cellsOf v).length=m∧noTup v=true∧r≤off∧off+m≤cs.length then some (je lh k ⟨g,.cells (splice cs off (cellsOf v)) r true⟩,sh)else none
 |⟨D,.cells cs r false⟩=>if D=g∧(cellsOf v).length=m∧noTup v=true∧r≤off∧off+m≤cs.length then
    (fzV lh sh false v).bind fun p=>if jv p.2 .L k=true∨noTup p.1=false∨(cellsOf p.1).length≠m then none else some (((St.mk .nil lh sh).ups (p.2++ [(.L,k,⟨g,.cells (splice cs off (cellsOf p.1)) r false⟩)])).lh,((St.mk .nil lh sh).ups (p.2++ [(.L,k,⟨g,.cells (splice cs off (cellsOf p.1)) r false⟩)])).sh)
  else none
 |_=>none
def gV(lh:aD ah)(sh:List ah):Option Am→Option (aD ah×List ah)
 |some (.val _ us)=>some (((St.mk .nil lh sh).ups us).lh,((St.mk .nil lh sh).ups us).sh)
 |none=>none
def ab4(k g off m:Nat)(v:T)(e:ah):Q Am:=if e.g=g then match e.ob with
     | .cells cs r bx=>if r≤off&&off+m≤cs.length then
         (if bx&&Sp.L== .L then .ret (.val aQ [(Sp.L,k,⟨g,.cells (splice cs off (cellsOf v)) r bx⟩)])
         else(fz (bx&&Sp.L== .S) aJ v).bind fun p=>if jv p.2 .L k|| !noTup p.1||(cellsOf p.1).length≠m then .fail else .ret (.val aQ (p.2++ [(Sp.L,k,⟨g,.cells (splice cs off (cellsOf p.1)) r bx⟩)])))
       else .fail
     |_=> .fail
    else .fail
theorem stQ{k g off m:Nat}{v:T}(e:ah)(h1:(cellsOf v).length=m)(h2:noTup v=true):gV lh sh (Q.run (St.mk .nil lh sh).get sh.length (ab4 k g off m v e))=Fj lh sh k e g off v m:=by
 obtain⟨I,ob⟩:=e
 unfold Fj ab4
 by_cases J:I=g
 ·subst J
  cases ob with
  |none=>simp[Q.run,gV]
  |map ks K z=>simp[Q.run,gV]
  |cells cs r bx=>
   by_cases D:r≤off∧off+m≤cs.length
   ·cases bx with
    |true=>grind [Q.run,ah6,yY,gV]
    |false=>
     have H:(decide (r≤off)&&decide (off+m≤cs.length))=true:=by simp[D.1,D.2]
     simp only[if_true,H,Bool.false_and,Bool.false_eq_true,if_false,bt]
     rw[if_pos (show True∧(cellsOf v).length=m∧noTup v=true∧r≤off∧off+m≤cs.length from⟨trivial,h1,h2,D⟩)]
     show gV lh sh (Option.bind (fzV lh sh false v) _)=_
     cases N:fzV lh sh false v with
     |none=>rfl
     |some p=>
      simp only[Option.bind_some]
      by_cases O:(jv p.2 .L k=true∨noTup p.1=false∨(cellsOf p.1).length≠m)
      ·grind [Q.run,gV]
      simp_all[Bool.false_eq_true,Q.run,gV,Classical.byContradiction]
   grind [Bool.false_eq_true,Q.run,gV]
 grind [Q.run,gV]
theorem avJ{k g off m:Nat}{v:T}:stV lh sh (.ptr .L k g off) v m=Fj lh sh k (ab lh k) g off v m:=by
 by_cases h1:(cellsOf v).length=m
 ·cases h2:noTup v with
  |false=>
   unfold stV nw
   have:(decide ((cellsOf v).length≠m)|| !noTup v)=true:=by simp[h2]
   simp only[this,if_true,Q.run]
   unfold Fj
   grind
  |true=>
   unfold stV nw
   have:(decide ((cellsOf v).length≠m)|| !noTup v)=false:=by simp[h1,h2]
   simp only[this,Bool.false_eq_true,if_false]
   exact stQ (ab lh k) h1 h2
 ·unfold stV nw
  have:(decide ((cellsOf v).length≠m)|| !noTup v)=true:=by simp[h1]
  simp only[this,if_true,Q.run]
  unfold Fj
  grind
theorem ab5{k g D off m r:Nat}{cs:List T}{v:T}:Fj lh sh k ⟨D,.cells cs r true⟩ g off v m=if D=g∧(cellsOf v).length=m∧noTup v=true∧r≤off∧off+m≤cs.length then some (je lh k ⟨g,.cells (splice cs off (cellsOf v)) r true⟩,sh)else none:=rfl
theorem ab6{k g D off m r:Nat}{cs:List T}{v:T}(H:froz v=true):Fj lh sh k ⟨D,.cells cs r false⟩ g off v m=if D=g∧(cellsOf v).length=m∧noTup v=true∧r≤off∧off+m≤cs.length then some (je lh k ⟨g,.cells (splice cs off (cellsOf v)) r false⟩,sh)else none:=by
 unfold Fj
 simp only[qv H,Option.bind_some,jv,List.any_nil,Bool.false_eq_true,false_or]
 by_cases h:D=g∧(cellsOf v).length=m∧noTup v=true∧r≤off∧off+m≤cs.length
 ·rw[if_pos h,if_pos h,if_neg (by rintro(hc|hc) <;> simp_all)]
  rfl
 ·grind
def slC(lh:aD ah)(sh:List ah)(sz:Nat)(x:T):Option (Nat×List T):=(cm sz x).run (St.mk .nil lh sh).get sh.length
theorem ab7{sz:Nat}:slC lh sh sz .nilsl=some (0,[]):=rfl
theorem Fk{sz len:Nat}{cs:List T}{ex:Bool}:slC lh sh sz (.sl cs len ex)=if cs.length=len*sz then some (len,cs)else none:=by
 unfold slC cm;simp only[];split <;> rfl
theorem avK{l:List Nat}:slC lh sh 1 (.s l)=some (l.length,l.map fun(n:Nat)=>T.i .u8 (n:Int)):=rfl
def slE(sz:Nat)(e:ah)(g off len:Nat):Option (Nat×List T):=
 match e with
 |⟨r,.cells cs _ false⟩=>if r=g∧off+len*sz≤cs.length then some (len,(cs.drop off).take (len*sz))else none
 |_=>none
theorem slQ{h:Sp→Nat→ah}{nx sz g off len:Nat}(e:ah):Q.run h nx (if e.g=g then(match e.ob with
        | .cells cs _ false=>if off+len*sz≤cs.length then .ret (len,(cs.drop off).take (len*sz))else .fail
        |_=> .fail)
   else .fail)=slE sz e g off len:=by
 obtain⟨r,ob⟩:=e
 unfold slE
 grind [Q.run]
theorem NR{sz r k g off len:Nat}:slC lh sh sz (.isl .L k g off len r)=if r=sz then slE sz (ab lh k) g off len else none:=by
 unfold slC cm
 simp only[]
 by_cases hs:r=sz
 ·simp only[if_pos hs]
  exact slQ (ab lh k)
 ·simp only[if_neg hs];rfl
def QH(lh:aD ah)(k:Nat)(e:ah)(g off len sz r bytes:Nat)(p:Nat×List T):Option (T×aD ah):=
 match e with
 |⟨D,.cells cs H false⟩=>if r=sz∧off=0∧(len+p.1)*bytes≤roomy∧D=g∧len*sz=cs.length then some (.isl .L k (g+1) 0 (len+p.1) sz,je lh k ⟨g+1,.cells (cs++p.2) H false⟩)else none
 |_=>none
def A5(lh:aD ah)(d sz bytes:Nat)(s:T)(p:Nat×List T):Option (T×aD ah):=
 if p.1=0 then(match s with| .nilsl| .sl .. | .isl .. =>some (s,lh)|_=>none)else
 match s with
 | .nilsl=>if p.1*bytes≤roomy then some (.isl .L d ((ab lh d).g+1) 0 p.1 sz,je lh d ⟨(ab lh d).g+1,.cells p.2 0 false⟩)else none
 | .sl cs len true=>if cs.length=len*sz∧(len+p.1)*bytes≤roomy then some (.isl .L d ((ab lh d).g+1) 0 (len+p.1) sz,je lh d ⟨(ab lh d).g+1,.cells (cs++p.2) 0 false⟩)else none
 | .isl .L k g off len r=>QH lh k (ab lh k) g off len sz r bytes p
 |_=>none
def ah8(k g off len sz D bytes:Nat)(p:Nat×List T)(e:ah):Q Am:=
     if e.g=g then match e.ob with
      | .cells cs r false=>if len*sz=cs.length then .ret (.val (.isl .L k (g+1) 0 (len+p.1) sz) [(.L,k,⟨g+1,.cells (cs++p.2) r false⟩)])else .fail
      |_=> .fail
     else .fail
theorem aBU{k g off len sz D bytes:Nat}{p:Nat×List T}(e:ah)(h1:D=sz∧off=0∧(len+p.1)*bytes≤roomy):
  ((kH (Q.run (St.mk .nil lh sh).get sh.length (ah8 k g off len sz D bytes p e))).bind fun r=>ai E call n os {(St.mk fr lh sh).ups r.2 with fr:=cH fr d r.1})=
    (QH lh k e g off len sz D bytes p).bind fun q=>ai E call n os ⟨cH fr d q.1,q.2,sh⟩:=by
 obtain⟨H,ob⟩:=e
 unfold ah8 QH
 by_cases I:H=g
 ·cases ob with
  |cells cs K bx=>
   cases bx
   ·by_cases J:len*sz=cs.length
    ·simp only[I,J,if_true,Q.run,kH,h1,and_self,Option.bind_some]
     rfl
    ·grind [Q.run,kH]
   ·grind [Q.run,kH]
  |_=>grind [Q.run,kH]
 grind [Q.run,kH]
theorem avL{sz bytes:Nat}{s x:aP}(D:d<n)(hs: ∀k g off len sz,rd fr s≠ .isl .S k g off len sz):ai E call n (⟨some d,.app sz bytes s x false false,none⟩::os) ⟨fr,lh,sh⟩=
  (slC lh sh sz (rd fr x)).bind fun p=>(A5 lh d sz bytes (rd fr s) p).bind fun q=>ai E call n os ⟨cH fr d q.1,q.2,sh⟩:=by
 rw[kI (by rfl) (show CJ n (some d)from D)]
 unfold one slC
 simp only[bz,jO,bt,lN]
 cases hx:(cm sz (rd fr x)).run (St.mk .nil lh sh).get sh.length with
 |none=>rfl
 |some p=>
  simp only[Option.bind_some]
  unfold A5
  by_cases r:p.1=0
  ·simp only[if_pos r]
   cases Lw:rd fr s <;> rfl
  ·simp only[if_neg r]
   cases Lw:rd fr s <;> try rfl
   ·simp only[]
    split <;> rfl
   ·rename_i cs len ex
    cases ex
    ·rfl
    ·simp only[Bool.and_eq_true,decide_eq_true_eq]
     split <;> rfl
   ·rename_i sp k g off len H
    cases sp
    ·simp only[Bool.and_eq_true,decide_eq_true_eq]
     by_cases h1:(H=sz∧off=0)∧(len+p.1)*bytes≤roomy
     ·simp only[if_pos h1]
      exact aBU (ab lh k) ⟨h1.1.1,h1.1.2,h1.2⟩
     ·simp only[if_neg h1,Q.run,kH]
      unfold QH
      grind
    ·grind
def te(sz:Nat)(x:T)(l h:Nat):Option T:=
 match x with
 | .nilsl=>if l=0∧h=0 then some .nilsl else none
 | .sl cs len ex=>if l≤h∧h≤len∧cs.length=len*sz then some (.sl ((cs.drop (l*sz)).take ((h-l)*sz)) (h-l) (ex&&decide (h=len)))else none
 | .isl sp k g off len r=>if l≤h∧h≤len∧r=sz then some (if l=h then(if sp= .S∧h=0∧off=0 then .isl sp k g 0 0 sz else .sl [] 0 false)else .isl sp k g (off+l*sz) (h-l) sz)else none
 |_=>none
def V0(fr:Fr)(sz:Nat)(x:T)(l h:Option aP):Option T:=
 (kU x).bind fun m=>(dD (rd fr) 0 l).bind fun l=>(dD (rd fr) m h).bind fun h=>te sz x l h
theorem QI{sz l h nx:Nat}{x:T}{r:Sp→Nat→ah}:(xO sz x l h).run r nx=te sz x l h:=by
 unfold xO te
 cases x <;> try rfl
 ·simp only[Bool.and_eq_true,decide_eq_true_eq];split <;> rfl
 ·simp only[Bool.and_eq_true,decide_eq_true_eq,and_assoc];split <;> rfl
 ·simp only[Bool.and_eq_true,decide_eq_true_eq,and_assoc];split <;> rfl
theorem avM{sz:Nat}{x:aP}{l h:Option aP}(r:d<n):ai E call n (⟨some d,.slV sz x l h none,none⟩::os) ⟨fr,lh,sh⟩=(V0 fr sz (rd fr x) l h).bind fun v=>ai E call n os ⟨cH fr d v,lh,sh⟩:=by
 refine dt (d:=some d) (by rfl) r ?_
 unfold one V0
 simp only[bz]
 cases kU (rd fr x)with
 |none=>rfl
 |some m=>
  simp only[Option.bind_some]
  cases dD (rd fr) 0 l with
  |none=>rfl
  |some l=>
   cases dD (rd fr) m h with
   |none=>rfl
   |some h=>
    simp only[bt,QI,Option.bind_some]
    cases te sz (rd fr x) l h <;> rfl
def lkE(e:ah)(g:Nat)(r:EK)(k z:T)(D:Bool):Option T:=
 match e with
 |⟨H,.map ks I _⟩=>if H=g then iu r ks I k z D else none
 |_=>none
def lkV(lh:aD ah)(sh:List ah)(r:EK)(m k z:T)(D:Bool):Option T:=
 match m with
 | .nilmp=>if isKey r k=true then some (if D=true then .tup [z,.b false]else z)else none
 | .vm ks H=>iu r ks H k z D
 | .mp .L kk g=>lkE (ab lh kk) g r k z D
 | .mp .S kk g=>lkE (aI sh kk) g r k z D
 |_=>none
theorem lkQ{h:Sp→Nat→ah}{nx g:Nat}{r:EK}{k z:T}{D:Bool}(e:ah):kH (Q.run h nx (if e.g=g then(match e.ob with| .map ks vs _=>val (iu r ks vs k z D)|_=> .fail)else .fail))=(lkE e g r k z D).map fun v=>(v,[]):=by
 obtain⟨I,ob⟩:=e
 unfold lkE
 by_cases H:I=g
 ·cases ob <;> simp only[H,if_true] <;> first|rfl|exact iS
 ·cases ob <;> simp only[H,if_false] <;> rfl
theorem aBV{r:EK}{m k:aP}{z:T}{D:Bool}(H:d<n):ai E call n (⟨some d,.lk r m k z D,none⟩::os) ⟨fr,lh,sh⟩=(lkV lh sh r (rd fr m) (rd fr k) z D).bind fun v=>ai E call n os ⟨cH fr d v,lh,sh⟩:=by
 refine dt (d:=some d) (by rfl) H ?_
 unfold one lkV
 simp only[bz]
 cases I:rd fr m <;> try rfl
 ·simp only[];split <;> rfl
 ·exact iS
 ·rename_i sp kk g
  cases sp
  ·exact lkQ (ab lh kk)
  ·exact lkQ (aI sh kk)
def muE(lh:aD ah)(kk:Nat)(e:ah)(g:Nat)(r:EK)(k v:T):Option (aD ah):=
 match e with
 |⟨D,.map ks H false⟩=>if D=g∧isKey r k=true then(lF r k v ks H).map fun q=>je lh kk ⟨g,.map q.1 q.2 false⟩else none
 |_=>none
def ab8(kk g:Nat)(r:EK)(k v:T)(e:ah):Q Am:=if e.g=g&&isKey r k then match e.ob with
      | .map ks D false=>(fz false aJ v).bind fun p=>match lF r k p.1 ks D with
        |some q=>if jv p.2 .L kk then .fail else .ret (.val aQ (p.2++ [(.L,kk,⟨g,.map q.1 q.2 false⟩)]))
        |none=> .fail
      |_=> .fail
     else .fail
theorem muQ{kk g:Nat}{D:EK}{k v:T}(e:ah)(J:froz v=true):((kH (Q.run (St.mk fr lh sh).get sh.length (ab8 kk g D k v e))).bind fun r=>ai E call n os {(St.mk fr lh sh).ups r.2 with fr:=fr})=
  (muE lh kk e g D k v).bind fun K=>ai E call n os ⟨fr,K,sh⟩:=by
 obtain⟨I,ob⟩:=e
 unfold ab8 muE
 by_cases H:I=g∧isKey D k=true
 ·have:(decide (I=g)&&isKey D k)=true:=by simp[H.1,H.2]
  simp only[this,if_true]
  cases ob with
  |none=>rfl
  |cells cs O bx=>rfl
  |map ks N z=>
   cases z with
   |true=>rfl
   |false=>
    simp only[if_pos H]
    unfold aJ
    rw[jI J]
    simp only[Q.bind]
    cases lF D k v ks N with
    |none=>rfl
    |some q=>simp only[jv,List.any_nil,Bool.false_eq_true,if_false,Q.run,List.nil_append];rfl
 grind [Bool.false_eq_true,Q.run,kH]
theorem avN{r:EK}{m k v:aP}{kk g:Nat}(D:rd fr m= .mp .L kk g)(H:froz (rd fr v)=true):ai E call n (⟨none,.mu r m k v,none⟩::os) ⟨fr,lh,sh⟩=(muE lh kk (ab lh kk) g r (rd fr k) (rd fr v)).bind fun I=>ai E call n os ⟨fr,I,sh⟩:=by
 rw[kI (by rfl) (show CJ n none from trivial)]
 unfold one
 simp only[bz,D]
 exact muQ (ab lh kk) H
def muV(lh:aD ah)(r:EK)(m k v:T):Option (aD ah):=
 match m with
 | .mp .L kk g=>muE lh kk (ab lh kk) g r k v
 |_=>none
theorem aBW{r:EK}{m k v:aP}(I: ∀kk g,rd fr m≠ .mp .S kk g)(D:froz (rd fr v)=true):ai E call n (⟨none,.mu r m k v,none⟩::os) ⟨fr,lh,sh⟩=(muV lh r (rd fr m) (rd fr k) (rd fr v)).bind fun H=>ai E call n os ⟨fr,H,sh⟩:=by
 cases h:rd fr m with
 |mp sp kk g=>
  cases sp with
  |L=>rw[avN h D];rfl
  |S=>grind
 |_=>
  rw[kI (by rfl) (show CJ n none from trivial)]
  unfold one
  simp only[bz,h]
  rfl
def QJ(z:List T)(len:Nat)(D:List Nat)(r:List T):Option T:=
 if(r.all fun v=>(cellsOf v).length=z.length&&noTup v)=true then(kG (repl z len) ((D.map fun i=>i*z.length).zip (r.map cellsOf))).map fun cs=> .sl cs len true else none
theorem avP{z:List T}{len:Nat}{r:List (Nat×aP)}(D:d<n):ai E call n (⟨some d,.bsl z len r,none⟩::os) ⟨fr,lh,sh⟩=
  (yU lh sh false (r.map fun p=>rd fr p.2)).bind fun q=>(QJ z len (r.map (·.1)) q.1).bind fun v=>ai E call n os {(St.mk fr lh sh).ups q.2 with fr:=cH fr d v}:=by
 rw[kI (by rfl) (show CJ n (some d)from D)]
 unfold one yU QJ
 simp only[bz,bt,lN]
 cases (bh (fz false aJ) (r.map fun p=>rd fr p.2)).run (St.mk .nil lh sh).get sh.length with
 |none=>rfl
 |some q=>
  simp only[Option.bind_some]
  have e:(r.map (·.1)).map (fun i=>i*z.length)=r.map fun p=>p.1*z.length:=by rw[List.map_map];rfl
  rw[e]
  split
  ·cases kG (repl z len) ((r.map fun p=>p.1*z.length).zip (q.1.map cellsOf)) <;> rfl
  ·rfl
theorem Lx{d:Option Nat}{op:mh}{f:Nat}{args:List T}(hc:bB (rd fr) op=some (some (f,args)))(D:CJ n d):
  ai E call n (⟨d,op,none⟩::os) ⟨fr,lh,sh⟩=(bu E call (d.getD 0) ⟨fr,lh,sh⟩ f args).bind fun r=>ai E call n os ⟨r8 fr d r.1,r.2.lh,r.2.sh⟩:=by
 simp only[ai,bn,dm,hc]
 cases bu E call (d.getD 0) ⟨fr,lh,sh⟩ f args with
 |none=>rfl
 |some r=>
  simp only[Option.bind_some]
  cases d with
  |none=>rfl
  |some d=>simp only[gz,if_pos (show d<n from D),r8,Option.map_some]
theorem akA{f:Nat}{as:List aP}(D:d<n):ai E call n (⟨some d,.callf f as,none⟩::os) ⟨fr,lh,sh⟩=(bu E call d ⟨fr,lh,sh⟩ f (as.map (rd fr))).bind fun r=>ai E call n os ⟨cH fr d r.1,r.2.lh,r.2.sh⟩:=
 Lx (d:=some d) rfl D
theorem ab9{f:Nat}{as:List aP}:ai E call n (⟨none,.callf f as,none⟩::os) ⟨fr,lh,sh⟩=(bu E call 0 ⟨fr,lh,sh⟩ f (as.map (rd fr))).bind fun r=>ai E call n os ⟨fr,r.2.lh,r.2.sh⟩:=
 Lx (d:=none) rfl trivial
def uV(E:Env)(call:jP)(d:Nat)(st:St)(f:T)(args:List T):Option (T×St):=
 match f with
 | .fn f a c=>bu E call d st f (a++args++c)
 |_=>none
theorem aca{f:aP}{as:List aP}(D:d<n):ai E call n (⟨some d,.callv f as,none⟩::os) ⟨fr,lh,sh⟩=(uV E call d ⟨fr,lh,sh⟩ (rd fr f) (as.map (rd fr))).bind fun r=>ai E call n os ⟨cH fr d r.1,r.2.lh,r.2.sh⟩:=by
 unfold uV
 cases H:rd fr f with
 |fn I a c=>exact Lx (d:=some d) (by simp only[bB,H]) D
 |_=>simp_all[ai,bn,dm,bB]
theorem HU{D:Nat}{af:aj}{f:Nat}{args:List T}(H:E.fn f=some af)(I:af.eff=false)(J:af.own=none):bu E call D ⟨fr,lh,sh⟩ f args=
  (yU lh sh false args).bind fun q=>(call f q.1 []).bind fun r=>some (r.1,if scalar r.1=true then⟨fr,lh,sh⟩else(St.mk fr lh sh).ups q.2):=by
 grind [bu,yU,lN,Bool.false_eq_true]
theorem HT{D:Nat}{af:aj}{f:Nat}{args:List T}(H:E.fn f=some af)(I:af.eff=false)(J:af.own=none)(K:args.all froz=true):bu E call D ⟨fr,lh,sh⟩ f args=
  (call f args []).bind fun r=>some (r.1,⟨fr,lh,sh⟩):=by
 grind [HU,uU,yY]
theorem Uw{D:Nat}{af:aj}{f:Nat}{args:List T}(H:E.fn f=some af)(I:af.eff=true):bu E call D ⟨fr,lh,sh⟩ f args=
  (yU lh sh true args).bind fun q=>(call f q.1 ((St.mk fr lh sh).ups q.2).sh).bind fun r=>some (r.1,{(St.mk fr lh sh).ups q.2 with sh:=r.2}):=by
 unfold bu yU
 simp only[H,I,lN]
 cases (bh (fz true aJ) args).run (St.mk .nil lh sh).get sh.length with
 |none=>rfl
 |some q=>
  simp only[if_true,Option.bind_some]
  cases call f q.1 ((St.mk fr lh sh).ups q.2).sh <;> rfl
theorem V1{D:Nat}{g:List T→Option T}{f:Nat}{args:List T}(H:E.fn f=none)(I:E.ext f=some g):bu E call D ⟨fr,lh,sh⟩ f args=
  (yU lh sh false args).bind fun q=>(g q.1).bind fun r=>some (r,⟨fr,lh,sh⟩):=by
 unfold bu yU
 simp only[H,I,lN]
 cases (bh (fz false aJ) args).run (St.mk .nil lh sh).get sh.length with
 |none=>rfl
 |some q=>
  simp only[Option.bind_some]
  cases g q.1 <;> rfl
theorem V2{d:Option Nat}{op:mh}{j:Nat}{w:Bool}(h:aa fr j= .b w):ai E call n (⟨d,op,some (j,w)⟩::os) ⟨fr,lh,sh⟩=ai E call n (⟨d,op,none⟩::os) ⟨fr,lh,sh⟩:=by
 grind [ai,bn]
theorem A6{d:Option Nat}{op:mh}{j:Nat}{w:Bool}(r:CJ n d)(h:aa fr j= .b (!w)):ai E call n (⟨d,op,some (j,w)⟩::os) ⟨fr,lh,sh⟩=ai E call n os ⟨r8 fr d aQ,lh,sh⟩:=by
 simp only[ai,bn,h]
 rw[if_neg (by cases w <;> simp)]
 cases d with
 |none=>rfl
 |some d=>simp only[gz,if_pos (show d<n from r),r8,Option.map_some]
theorem NS{d:Option Nat}{op:mh}{j:Nat}{w:Bool}(r:CJ n d)(h:aa fr j=aQ):ai E call n (⟨d,op,some (j,w)⟩::os) ⟨fr,lh,sh⟩=ai E call n os ⟨r8 fr d aQ,lh,sh⟩:=by
 simp only[ai,bn,h,aQ]
 cases d with
 |none=>rfl
 |some d=>simp only[gz,if_pos (show d<n from r),r8,Option.map_some]
theorem avQ{br:List FP}{st:St}:aK E call n [] br st=some st:=rfl
end
section
variable{E:Env}{n:Nat}{fr:Fr}{lh:aD ah}{sh:List ah}
def aia(t:T)(x y:Option (Out×St)):Option (Out×St):=match t with| .b c=>if c=true then x else y|_=>none
theorem V3{c:aP}{a b:ak}:DC E n (.cond c a b) ⟨fr,lh,sh⟩=aia (rd fr c) (DC E n a ⟨fr,lh,sh⟩) (DC E n b ⟨fr,lh,sh⟩):=by
 rw[abS,dm]
 unfold aia
 grind
theorem andThen_ite{c:Prop}[Decidable c]{x y:Option (Out×St)}{f:St→Option (Out×St)}:andThen (if c then x else y) f=if c then andThen x f else andThen y f:=by split <;> rfl
theorem QK{c:Prop}[Decidable c]{id:Nat}{x y:Option (Out×St)}:yf id (if c then x else y)=if c then yf id x else yf id y:=by split <;> rfl
theorem acb{α β:Type}{c:Prop}[Decidable c]{x y:Option α}{f:α→β}:(if c then x else y).map f=if c then x.map f else y.map f:=by split <;> rfl
theorem V4{α β:Type}{c:Prop}[Decidable c]{x y:Option α}{f:α→Option β}:(if c then x else y).bind f=if c then x.bind f else y.bind f:=by split <;> rfl
def uW(fr:Fr)(lh:aD ah)(sh:List ah):List sW→Option (List T)
 | []=>some []
 | .tmp t::rs=>(uW fr lh sh rs).map fun r=>aa fr t::r
 | .cell t m D::rs=>(ldV lh sh (aa fr t) m D).bind fun v=>(uW fr lh sh rs).map fun r=>v::r
theorem lA: ∀rs,iv ⟨fr,lh,sh⟩ rs=uW fr lh sh rs
 | []=>rfl
 | .tmp t::rs=>by
   rw[iv,uW,lA rs]
   simp only[H2]
   cases uW fr lh sh rs <;> rfl
 | .cell t m r::rs=>by
   rw[iv,uW,lA rs]
   simp only[H2,NP]
   cases ldV lh sh (aa fr t) m r <;> cases uW fr lh sh rs <;> rfl
def QL(lh:aD ah)(sh:List ah)(r:Bool)(vs:List T):Option (T×List ah):=
 (fzV lh sh r (match vs with| [v]=>v|vs=> .tup vs)).map fun p=>(p.1,((St.mk .nil lh sh).ups p.2).sh)
theorem xf{r:Bool}{D:List T}:answer r D ⟨fr,lh,sh⟩=QL lh sh r D:=by
 unfold answer QL fzV
 grind [lN,lz]
end
theorem xg{fr r:Fr}{n:Nat}{d:Option Nat}{v:T}(h:gz fr n d v=some r){s:Nat}(hs:some s≠d):aa r s=aa fr s:=by
 cases d with
 |none=>grind [gz]
 |some d=>
  grind [gz,VV]
theorem yg{E:Env}{call:jP}{n:Nat}{o:aF}{st H:St}(h:bn E call n o st=some H){s:Nat}(hs:some s≠o.d):aa H.fr s=aa st.fr s:=by
 have J: ∀H,(match bB st.rho o.op with
  |some (some I)=>match bu E call (o.d.getD 0) st I.1 I.2 with
   |some r=>(gz st.fr n o.d r.1).map fun fr=>{r.2 with fr}
   |none=>none
  |some none=>none
  |none=>match(bz (o.d.getD 0) st.rho o.op).run st.get st.sh.length with
   |some (.val v ups)=>(gz st.fr n o.d v).map fun fr=>{st.ups ups with fr}
   |none=>none)=some H→aa H.fr s=aa st.fr s:=by
  intro H D
  split at D
  ·split at D
   ·simp only[Option.map_eq_some_iff]at D
    obtain⟨fr,h1,rfl⟩:=D
    exact xg h1 hs
   ·cases D
  ·cases D
  ·split at D
   ·simp only[Option.map_eq_some_iff]at D
    obtain⟨fr,h1,rfl⟩:=D
    exact xg h1 hs
   ·cases D
 grind [bn,Option.map_eq_some_iff,xg]
theorem oR{E:Env}{call:jP}{n:Nat}: ∀(os:List aF) {st r:St},ai E call n os st=some r→ ∀s,s∉wR os→aa r.fr s=aa st.fr s
 | [],st,r,h,s,_=>by cases h;rfl
 |o::os,st,r,h,s,hs=>by
  simp only[ai]at h
  cases H:bn E call n o st with
  |none=>grind
  |some J=>
   simp only[H]at h
   have h1:s∉wR os:=fun D=>hs (by
    unfold wR at D ⊢
    rw[List.filterMap_cons]
    split
    ·exact D
    ·exact List.mem_cons_of_mem _ D)
   have h2:some s≠o.d:=fun I=>hs (by
    unfold wR
    rw[List.filterMap_cons]
    rw[←I]
    exact List.mem_cons_self)
   rw[oR os h s h1,yg H h2]
theorem yh{E:Env}{call:jP}{n:Nat}: ∀(os:List (List Nat×aF)) {br:List FP} {st r:St},aK E call n os br st=some r→ ∀s,s∉wR (os.map (·.2))→aa r.fr s=aa st.fr s
 | [],br,st,r,h,s,_=>by cases h;rfl
 |(u,o)::os,br,st,r,h,s,hs=>by
  simp only[aK]at h
  split at h
  ·cases h
  ·split at h
   ·cases H:bn E call n o st with
    |none=>grind
    |some J=>
     simp only[H]at h
     have h1:s∉wR (os.map (·.2)):=fun D=>hs (by
      unfold wR at D ⊢
      rw[List.map_cons,List.filterMap_cons]
      split
      ·exact D
      ·exact List.mem_cons_of_mem _ D)
     have h2:some s≠o.d:=fun I=>hs (by
      unfold wR
      rw[List.map_cons,List.filterMap_cons]
      rw[←I]
      exact List.mem_cons_self)
     rw[yh os h s h1,yg H h2]
   ·cases h
theorem DL{f:St→Option (Out×St)}{s:Nat}(D: ∀st r,f st=some r→aa r.2.fr s=aa st.fr s): ∀(k:Nat) {st:St} {r:Out×St},iter f k st=some r→aa r.2.fr s=aa st.fr s
 |0,st,r,h=>by simp[iter]at h
 |k+1,st,r,h=>by
  simp only[iter]at h
  cases H:f st with
  |none=>grind
  |some p=>
   rw[H]at h
   obtain⟨o,I⟩:=p
   have h1:=D _ _ H
   cases o with
   |nrm=>rw[DL D k h];exact h1
   |ext id=>grind
   |ret=>grind
theorem acd{ks:List Nat}{t u:St}{k:Nat}(h:k∉ks):aa (ny ks t u).fr k=aa t.fr k:=by
 show aa (uu ks t.fr) k=_
 rw[nI,if_neg h]
theorem jV{E:Env}{call:jP}{fl n:Nat}: ∀(code:ak) {st:St} {r:Out×St},fP E call fl n code st=some r→ ∀s,s∉ch code→aa r.2.fr s=aa st.fr s
 | .skip,st,r,h,s,_=>by cases h;rfl
 | .region ops,st,r,h,s,hs=>by
   simp only[fP,Option.map_eq_some_iff]at h
   obtain⟨a,h1,rfl⟩:=h
   exact oR ops h1 s hs
 | .draws ops,st,r,h,s,hs=>by
   simp only[fP,Option.map_eq_some_iff]at h
   obtain⟨a,h1,rfl⟩:=h
   exact yh ops h1 s hs
 | .seq a b,st,r,h,s,hs=>by
   simp only[ch,List.mem_append,not_or]at hs
   simp only[fP]at h
   cases D:fP E call fl n a st with
   |none=>grind
   |some p=>
    rw[D]at h
    obtain⟨o,I⟩:=p
    have h1:=jV a D s hs.1
    cases o with
    |nrm=>rw[jV b h s hs.2];exact h1
    |ext id=>grind
    |ret=>grind
 | .fork os Cf b,st,r,h,s,hs=>by
   simp only[fP]at h
   cases h1:ai E call n os st with
   |none=>grind
   |some I=>
    cases h2:ai E call n Cf st with
    |none=>grind
    |some s2=>
     rw[h1,h2]at h
     simp only[]at h
     obtain⟨o,N⟩:=r
     obtain⟨O,U,J,V,W,rfl⟩:=ta h
     have H:s∉wR os++ch b:=hs
     rw[acd H]
     simp only[List.mem_append,not_or]at H
     rw[jV b J s H.2]
     grind [oR]
 | .cond x a b,st,r,h,s,hs=>by
   simp only[ch,List.mem_append,not_or]at hs
   simp only[fP]at h
   split at h
   ·exact jV a h s hs.1
   ·exact jV b h s hs.2
   ·cases h
 | .block id a,st,r,h,s,hs=>by
   simp only[fP]at h
   cases D:fP E call fl n a st with
   |none=>grind
   |some p=>
    rw[D]at h
    obtain⟨o,I⟩:=p
    have h1:=jV a D s hs
    grind
 | .loop a,st,r,h,s,hs=>by
   simp only[fP]at h
   exact DL (fun st r K=>jV a K s hs) fl h
 | .exit id,st,r,h,s,_=>by cases h;rfl
 | .ret,st,r,h,s,_=>by cases h;rfl
theorem fu{E:Env}{n:Nat}{code:ak}{st r:St}{o:Out}(h:DC E n code st=some (o,r))(s:Nat)(hs:(ch code).contains s=false):aa r.fr s=aa st.fr s:=by
 obtain⟨m,D⟩:=dk.1 h
 exact jV code D s (by intro hc;simp[hc]at hs)
end Go.Ev
namespace Go.Ev
open Go
def Q.calm:Q Am→Prop
 | .ret (.val _ r)=>r= []
 | .fail=>True
 | .rd _ _ f=> ∀e,(f e).calm
 | .new _=>False
theorem Q.calm_run{h:Sp→Nat→ah}{nx:Nat}: ∀(q:Q Am),q.calm→ ∀{v:T} {r:List Up},q.run h nx=some (.val v r)→r= []∧q.asks h nx=false
 | .ret (.val _ _),hc,v,r,hr=>by simp[Q.run]at hr;obtain⟨rfl,rfl⟩:=hr;exact⟨hc,rfl⟩
 | .fail,hc,v,r,hr=>by simp[Q.run]at hr
 | .rd sp k f,hc,v,r,hr=>Q.calm_run (f (h sp k)) (hc _) hr
 | .new f,hc,v,r,hr=>hc.elim
theorem gY{o:Option T}:(val o).calm:=by cases o <;> simp[val,Q.calm]
def bZ:mh→Bool
 | .mv _| .pick .. | .bin .. | .eq .. | .un .. | .cvi .. | .b2s _| .mkfn .. | .build .. | .slS .. | .fa .. | .fld .. | .ia .. | .iaA .. | .ixS .. | .ixA .. | .ext .. | .lenS _| .lenV _| .lenC _| .mm .. | .nck _| .ld .. | .lk .. | .lenM _=>true
 | .slV _ _ _ _ none=>true
 |_=>false
theorem Fo{d:Nat}{ρ:aP→T}{op:mh}(h:bZ op=true):(bz d ρ op).calm∧bB ρ op=none:=by
 refine⟨?_,by cases op <;> first|rfl|(simp[bZ]at h)⟩
 cases op with
 |mv x=>exact rfl
 |pick c a b=>grind [bz,Q.calm]
 |bin op x y=>exact gY
 |eq neg k x y=>exact gY
 |un op x=>exact gY
 |cvi k x=>grind [bz,Q.calm]
 |b2s x=>simp only[bz];repeat' split
         all_goals trivial
 |mkfn f a c=>exact rfl
 |build z J=>
  simp only[bz]
  by_cases K:(J.all fun p=>decide ((cellsOf (ρ p.2.2)).length=p.2.1)&&noTup (ρ p.2.2))=true
  ·grind [gY]
  ·rw[if_neg K];trivial
 |slS x l h=>
  grind [bz,Q.calm]
 |fa x off=>
  grind [bz,Q.calm]
 |fld x off m D=>
  simp only[bz]
  split
  ·exact gY
  ·trivial
 |ia x H sz=>
  grind [bz,Q.calm]
 |iaA x H len sz=>
  grind [bz,Q.calm]
 |ixS x H=>
  grind [bz,Q.calm]
 |ixA x H len sz D=>
  simp only[bz]
  split
  ·split
   ·exact gY
   ·trivial
  ·trivial
 |ext x j=>
  simp only[bz]
  split
  ·exact gY
  ·trivial
 |lenS x=>grind [bz,Q.calm]
 |lenV x=>exact gY
 |lenC m=>exact rfl
 |mm b as=>
  simp only[bz]
  split
  ·exact gY
  ·trivial
 |nck x=>grind [bz,Q.calm]
 |ld x m D=>
  simp only[bz,EO]
  split
  ·rename_i cs _
   cases part cs 0 m D <;> simp[Q.of,Q.bind,Q.calm]
  ·rename_i g off _
   intro e
   obtain⟨I,ob⟩:=e
   by_cases r:I=g
   ·cases ob with
    |cells cs O bx=>
     simp only[r,if_true]
     generalize part cs _ m D=o
     cases o <;> simp[Q.of,Q.bind,Q.calm]
    |_=>simp only[r,if_true];trivial
   ·simp only[r,if_false];trivial
  ·trivial
 |lk U m k z V=>
  grind [bz,Q.calm,gY]
 |lenM x=>
  simp only[bz]
  split
  ·exact rfl
  ·exact rfl
  ·rename_i g _
   intro e
   obtain⟨I,ob⟩:=e
   by_cases r:I=g
   ·cases ob with
    |map ks W z=>simp only[r,if_true];exact rfl
    |_=>simp only[r,if_true];trivial
   ·simp only[r,if_false];trivial
  ·trivial
 |slV sz x l h N=>
  cases N with
  |some m=>simp[bZ]at h
  |none=>
   simp only[bz]
   split
   ·trivial
   ·split
    ·rename_i X Y _ _ _
     unfold xO
     grind [Q.bind,Q.calm]
    ·grind
    ·trivial
 |_=>simp[bZ]at h
def Calm(fp:FP):Prop:=fp.all=false∧fp.w= []
theorem A7{x y:FP}(hx:Calm x)(D:Calm y):apart x y=true:=by
 obtain⟨a,r,w⟩:=x
 obtain⟨H,I,w'⟩:=y
 obtain⟨rfl,rfl⟩:=hx
 obtain⟨rfl,rfl⟩:=D
 simp[apart,eD]
section
variable{E:Env}{call:jP}{n:Nat}
theorem ace{o:aF}{st H:St}(hc:bZ o.op=true)(hr:bn E call n o st=some H): ∃fp,bN E call o st=some fp∧Calm fp:=by
 obtain⟨J,K⟩:=Fo (d:=o.d.getD 0) (ρ:=st.rho) hc
 have N: ∀H,(match(bz (o.d.getD 0) st.rho o.op).run st.get st.sh.length with
   |some (.val v ups)=>(gz st.fr n o.d v).map fun fr=>{st.ups ups with fr}
   |none=>none)=some H→ ∃fp,(match(bz (o.d.getD 0) st.rho o.op).run st.get st.sh.length with
   |some (.val _ ups)=>if((bz (o.d.getD 0) st.rho o.op).asks st.get st.sh.length||inB st ups)=true then some (⟨(bz (o.d.getD 0) st.rho o.op).asks st.get st.sh.length,(bz (o.d.getD 0) st.rho o.op).log st.get st.sh.length,cR ups⟩:FP)else none
   |none=>none)=some fp∧Calm fp:=by
  intro H h
  cases I:(bz (o.d.getD 0) st.rho o.op).run st.get st.sh.length with
  |none=>rw[I]at h;cases h
  |some r=>
   obtain⟨v,ups⟩:=r
   obtain⟨rfl,O⟩:=Q.calm_run _ J I
   refine⟨⟨false,(bz (o.d.getD 0) st.rho o.op).log st.get st.sh.length,[]⟩, ?_,rfl,rfl⟩
   simp only[O,inB,List.all_nil,Bool.or_true,if_true,cR,List.map_nil]
 unfold bn at hr
 unfold bN
 simp only[K]at hr ⊢
 cases U:o.gd with
 |none=>grind
 |some p=>
  obtain⟨j,D⟩:=p
  simp only[U]at hr ⊢
  split at hr
  ·rename_i x hx
   simp only[hx]
   by_cases V:x=D
   ·grind
   ·rw[if_neg V];exact⟨fO,rfl,rfl,rfl⟩
  ·cases hr
  ·split
   ·grind
   ·exact⟨fO,rfl,rfl,rfl⟩
theorem DM: ∀(ds:List (List Nat×aF)) (br:List FP) (st:St),(ds.all fun p=>bZ p.2.op&&p.1.all fun i=>decide (i<br.length+ds.length))=true→(∀fp∈br,Calm fp)→
  (∀(k:Nat) (u:List Nat) (o:aF),ds[k]? =some (u,o)→ ∀i∈u,i<br.length+k)→
  aK E call n ds br st=ai E call n (ds.map (·.2)) st
 | [],br,st,_,_,_=>rfl
 |(u,o)::ds,br,st,h,K,hi=>by
  simp only[List.all_cons,Bool.and_eq_true]at h
  simp only[aK,List.map_cons,ai]
  cases D:bn E call n o st with
  |none=>
   grind
  |some s=>
   obtain⟨fp,h1,h2⟩:=ace h.1.1 D
   simp only[h1]
   have H:(u.all fun i=>apart (aH ⟨true,[],[]⟩ br i) fp)=true:=by
    rw[List.all_eq_true]
    intro i r
    have:=hi 0 u o rfl i r
    have N:aH ⟨true,[],[]⟩ br i∈br:=by
     have: ∀(l:List FP) (j:Nat),j<l.length→aH ⟨true,[],[]⟩ l j∈l:=by
      intro l
      induction l with
      |nil=>grind
      |cons x xs ih=>
       intro j I
       cases j with
       |zero=>exact List.mem_cons_self
       |succ j=>exact List.mem_cons_of_mem _ (ih j (by simpa using I))
     grind
    grind [A7]
   simp only[H,if_true]
   refine DM ds (br++ [fp]) s ?_ ?_ ?_
   ·grind
   ·grind
   ·intro k J o' hk i r
    have:=hi (k+1) J o' hk i r
    grind
def DN:Nat→List (List Nat×aF)→Bool
 |_,[]=>true
 |k,(u,o)::ds=>bZ o.op&&(u.all fun i=>decide (i<k))&&DN (k+1) ds
theorem DO: ∀(ds:List (List Nat×aF)) (m:Nat),DN m ds=true→(∀(k:Nat) (u:List Nat) (o:aF),ds[k]? =some (u,o)→bZ o.op=true∧ ∀i∈u,i<m+k)
 | [],m,_,k,u,o,hk=>by simp at hk
 |(r,D)::ds,m,h,k,u,o,hk=>by
  simp only[DN,Bool.and_eq_true]at h
  cases k with
  |zero=>
   grind
  |succ k=>
   obtain⟨h1,h2⟩:=DO ds (m+1) h.2 k u o (by simpa using hk)
   grind
theorem acf{E:Env}{n:Nat}{ds:List (List Nat×aF)}{st:St}(h:DN 0 ds=true):DC E n (.draws ds) st=(ai E (ae E) n (ds.map (·.2)) st).map fun D=>(.nrm,D):=by
 rw[It]
 congr 1
 have r:=DO ds 0 h
 refine DM ds [] st ?_ xv (fun k u o hk i hi=>by have:=(r k u o hk).2 i hi;simpa using this)
 rw[List.all_eq_true]
 intro p H
 obtain⟨k,hk,I⟩:=List.getElem_of_mem H
 obtain⟨u,o⟩:=p
 obtain⟨h1,h2⟩:=r k u o (by rw[List.getElem?_eq_getElem hk,I])
 grind
end
end Go.Ev
namespace Go.Ev
open Go
def kv(F:St→Option St)(fr:Fr)(lh:aD ah)(sh:List ah)(d:Nat)(v:Option T):Option St:=v.bind fun v=>F ⟨cH fr d v,lh,sh⟩
def kn(F:St→Option St)(st:St)(v:Option T):Option St:=v.bind fun _=>F st
def ks(F:St→Option St)(fr:Fr)(r:Option (aD ah×List ah)):Option St:=r.bind fun r=>F ⟨fr,r.1,r.2⟩
def ka(F:St→Option St)(fr:Fr)(sh:List ah)(d:Nat)(r:Option (T×aD ah)):Option St:=r.bind fun q=>F ⟨cH fr d q.1,q.2,sh⟩
def kc(F:St→Option St)(fr:Fr)(d:Option Nat)(r:Option (T×St)):Option St:=r.bind fun r=>F ⟨r8 fr d r.1,r.2.lh,r.2.sh⟩
section
variable{F:St→Option St}{fr:Fr}{lh:aD ah}{sh:List ah}{d:Nat}{v:T}
theorem acg:kv F fr lh sh d (some v)=F ⟨cH fr d v,lh,sh⟩:=rfl
theorem ach:kv F fr lh sh d none=none:=rfl
theorem akB{c:Prop}[Decidable c]{x y:Option T}:kv F fr lh sh d (if c then x else y)=if c then kv F fr lh sh d x else kv F fr lh sh d y:=by split <;> rfl
theorem aci{st:St}:kn F st (some v)=F st:=rfl
theorem acj{st:St}:kn F st none=none:=rfl
theorem ack{r:aD ah×List ah}:ks F fr (some r)=F ⟨fr,r.1,r.2⟩:=rfl
theorem acm:ks F fr none=none:=rfl
theorem akC{c:Prop}[Decidable c]{x y:Option (aD ah×List ah)}:ks F fr (if c then x else y)=if c then ks F fr x else ks F fr y:=by split <;> rfl
theorem acn{q:T×aD ah}:ka F fr sh d (some q)=F ⟨cH fr d q.1,q.2,sh⟩:=rfl
theorem aco:ka F fr sh d none=none:=rfl
theorem akD{c:Prop}[Decidable c]{x y:Option (T×aD ah)}:ka F fr sh d (if c then x else y)=if c then ka F fr sh d x else ka F fr sh d y:=by split <;> rfl
theorem acp{D:Option Nat}{r:T×St}:kc F fr D (some r)=F ⟨r8 fr D r.1,r.2.lh,r.2.sh⟩:=rfl
theorem acq{r:Option Nat}:kc F fr r none=none:=rfl
theorem akE{c:Prop}[Decidable c]{r:Option Nat}{x y:Option (T×St)}:kc F fr r (if c then x else y)=if c then kc F fr r x else kc F fr r y:=by split <;> rfl
end
def isB:T→Bool
 | .b _=>true
 |_=>false
def isT:T→Bool
 | .b x=>x
 |_=>false
theorem avR{x:Bool}:isB (.b x)=true:=nr rfl
theorem avS{x:Bool}:isT (.b x)=x:=nr rfl
theorem acr{t:T}(h:isB t=true):t= .b (isT t):=by cases t <;> first|rfl|(simp[isB]at h)
section
variable{E:Env}{call:jP}{n:Nat}{fr:Fr}{lh:aD ah}{sh:List ah}{os:List aF}{d:Nat}
theorem akF{c a b:aP}(r:d<n):ai E call n (⟨some d,.pick c a b,none⟩::os) ⟨fr,lh,sh⟩=kv (ai E call n os) fr lh sh d (NM (rd fr c) (rd fr a) (rd fr b)):=akr r
theorem avT{op:BinOp}{x y:aP}(r:d<n):ai E call n (⟨some d,.bin op x y,none⟩::os) ⟨fr,lh,sh⟩=kv (ai E call n os) fr lh sh d (Ev.bin op (rd fr x) (rd fr y)):=avu r
theorem aBZ{neg:Bool}{k:EK}{x y:aP}(D:d<n):ai E call n (⟨some d,.eq neg k x y,none⟩::os) ⟨fr,lh,sh⟩=kv (ai E call n os) fr lh sh d ((pP k (rd fr x) (rd fr y)).map fun r=>T.b (r != neg)):=aBN D
theorem aB0{op:UnOp}{x:aP}(r:d<n):ai E call n (⟨some d,.un op x,none⟩::os) ⟨fr,lh,sh⟩=kv (ai E call n os) fr lh sh d (Ev.un op (rd fr x)):=aBO r
theorem avU{k:IntKind}{x:aP}(r:d<n):ai E call n (⟨some d,.cvi k x,none⟩::os) ⟨fr,lh,sh⟩=kv (ai E call n os) fr lh sh d (abU k (rd fr x)):=avv r
theorem yi{x:aP}(r:d<n):ai E call n (⟨some d,.b2s x,none⟩::os) ⟨fr,lh,sh⟩=kv (ai E call n os) fr lh sh d (abV (rd fr x)):=avw r
theorem acs{z:List T}{r:List (Nat×Nat×aP)}(D:d<n):ai E call n (⟨some d,.build z r,none⟩::os) ⟨fr,lh,sh⟩=kv (ai E call n os) fr lh sh d (Ff fr z r):=abW D
theorem avV{x:aP}{l h:Option aP}(r:d<n):ai E call n (⟨some d,.slS x l h,none⟩::os) ⟨fr,lh,sh⟩=kv (ai E call n os) fr lh sh d (tc fr (rd fr x) l h):=avx r
theorem aB1{x:aP}{off:Nat}(r:d<n):ai E call n (⟨some d,.fa x off,none⟩::os) ⟨fr,lh,sh⟩=kv (ai E call n os) fr lh sh d (faV (rd fr x) off):=aBP r
theorem avW{x:aP}{off m:Nat}{r:Bool}(D:d<n):ai E call n (⟨some d,.fld x off m r,none⟩::os) ⟨fr,lh,sh⟩=kv (ai E call n os) fr lh sh d (abX (rd fr x) off m r):=avz D
theorem aB2{x r:aP}{sz:Nat}(D:d<n):ai E call n (⟨some d,.ia x r sz,none⟩::os) ⟨fr,lh,sh⟩=kv (ai E call n os) fr lh sh d (iaV (rd fr x) (rd fr r) sz):=aBQ D
theorem avX{x r:aP}{len sz:Nat}(D:d<n):ai E call n (⟨some d,.iaA x r len sz,none⟩::os) ⟨fr,lh,sh⟩=kv (ai E call n os) fr lh sh d (eO (rd fr x) (rd fr r) len sz):=avA D
theorem avY{x r:aP}(D:d<n):ai E call n (⟨some d,.ixS x r,none⟩::os) ⟨fr,lh,sh⟩=kv (ai E call n os) fr lh sh d (CM (rd fr x) (rd fr r)):=avB D
theorem avZ{x r:aP}{len sz:Nat}{D:Bool}(H:d<n):ai E call n (⟨some d,.ixA x r len sz D,none⟩::os) ⟨fr,lh,sh⟩=kv (ai E call n os) fr lh sh d (abY (rd fr x) (rd fr r) len sz D):=avC H
theorem av0{x:aP}{j:Nat}(r:d<n):ai E call n (⟨some d,.ext x j,none⟩::os) ⟨fr,lh,sh⟩=kv (ai E call n os) fr lh sh d (abZ (rd fr x) j):=avD r
theorem akG{x:aP}(r:d<n):ai E call n (⟨some d,.lenS x,none⟩::os) ⟨fr,lh,sh⟩=kv (ai E call n os) fr lh sh d (NN (rd fr x)):=akt r
def lenI(x:T):Option T:=match kU x with|some m=>some (.i .i64 ((m:Nat):Int))|none=>none
theorem acu{x:T}{m:Nat}(h:kU x=some m):lenI x=some (.i .i64 (m:Int)):=by unfold lenI;rw[h]
theorem akH{x:aP}(r:d<n):ai E call n (⟨some d,.lenV x,none⟩::os) ⟨fr,lh,sh⟩=kv (ai E call n os) fr lh sh d (lenI (rd fr x)):=by
 grind [kv,lenI,aku]
theorem aB3{r:Bool}{args:List aP}(D:d<n):ai E call n (⟨some d,.mm r args,none⟩::os) ⟨fr,lh,sh⟩=kv (ai E call n os) fr lh sh d (mmV r (args.map (rd fr))):=aBR D
theorem av1{x:aP}(r:d<n):ai E call n (⟨some d,.nck x,none⟩::os) ⟨fr,lh,sh⟩=kv (ai E call n os) fr lh sh d (Fg (rd fr x)):=avF r
theorem akI{x:aP}:ai E call n (⟨none,.nck x,none⟩::os) ⟨fr,lh,sh⟩=kn (ai E call n os) ⟨fr,lh,sh⟩ (Fg (rd fr x)):=akw
theorem aB4{x:aP}{m:Nat}{r:Bool}(D:d<n):ai E call n (⟨some d,.ld x m r,none⟩::os) ⟨fr,lh,sh⟩=kv (ai E call n os) fr lh sh d (ldV lh sh (rd fr x) m r):=aBS D
theorem av2{sz:Nat}{x:aP}{l h:Option aP}(r:d<n):ai E call n (⟨some d,.slV sz x l h none,none⟩::os) ⟨fr,lh,sh⟩=kv (ai E call n os) fr lh sh d (V0 fr sz (rd fr x) l h):=avM r
theorem aB5{r:EK}{m k:aP}{z:T}{D:Bool}(H:d<n):ai E call n (⟨some d,.lk r m k z D,none⟩::os) ⟨fr,lh,sh⟩=kv (ai E call n os) fr lh sh d (lkV lh sh r (rd fr m) (rd fr k) z D):=aBV H
theorem av3{k:IntKind}{n:Int}:Sz [.i k n]=false:=nr rfl
theorem av4{x:Bool}:Sz [.b x]=false:=nr rfl
theorem av5{l:List Nat}:Sz [.s l]=false:=nr rfl
theorem acv:Sz [.nilsl]=true:=nr rfl
theorem V5{a b:T}{l:List T}:Sz (a::b::l)=false:=by cases a <;> rfl
def V6(lh:aD ah)(d:Nat)(z:List T)(x:T)(bytes:Nat):Option (T×aD ah):=
 (Lu x bytes).map fun m=>(.isl .L d ((ab lh d).g+1) 0 m z.length,je lh d ⟨(ab lh d).g+1,.cells (repl z m) 0 (Sz z)⟩)
theorem akJ{z:List T}{bytes:Nat}{x:aP}(r:d<n):ai E call n (⟨some d,.mksl z bytes x false,none⟩::os) ⟨fr,lh,sh⟩=ka (ai E call n os) fr sh d (V6 lh d z (rd fr x) bytes):=by
 rw[aky r];unfold V6 ka;cases Lu (rd fr x) bytes <;> rfl
theorem aB6{x v:aP}{m:Nat}:ai E call n (⟨none,.st x v m,none⟩::os) ⟨fr,lh,sh⟩=ks (ai E call n os) fr (stV lh sh (rd fr x) (rd fr v) m):=aBT
def appW(lh:aD ah)(sh:List ah)(d sz bytes:Nat)(s x:T):Option (T×aD ah):=(slC lh sh sz x).bind (A5 lh d sz bytes s)
def notS:T→Bool
 | .isl .S .. =>false
 | .mp .S .. =>false
 |_=>true
theorem av6{sz bytes:Nat}{s x:aP}(r:d<n)(hs:notS (rd fr s)=true):ai E call n (⟨some d,.app sz bytes s x false false,none⟩::os) ⟨fr,lh,sh⟩=ka (ai E call n os) fr sh d (appW lh sh d sz bytes (rd fr s) (rd fr x)):=by
 rw[avL r (fun k g off len sz D=>by rw[D]at hs;simp[notS]at hs)]
 grind [appW,ka]
theorem aB7{r:EK}{m k v:aP}(D:notS (rd fr m)=true)(H:froz (rd fr v)=true):ai E call n (⟨none,.mu r m k v,none⟩::os) ⟨fr,lh,sh⟩=ks (ai E call n os) fr ((muV lh r (rd fr m) (rd fr k) (rd fr v)).map fun I=>(I,sh)):=by
 rw[aBW (fun kk g J=>by rw[J]at D;simp[notS]at D) H]
 unfold ks
 cases muV lh r (rd fr m) (rd fr k) (rd fr v) <;> rfl
def V7(lh:aD ah)(sh:List ah)(z:List T)(len:Nat)(r:List Nat)(D:List T):Option (T×St):=
 (yU lh sh false D).bind fun q=>(QJ z len r q.1).map fun v=>(v,(St.mk .nil lh sh).ups q.2)
theorem av7{z:List T}{len:Nat}{r:List (Nat×aP)}(D:d<n):ai E call n (⟨some d,.bsl z len r,none⟩::os) ⟨fr,lh,sh⟩=kc (ai E call n os) fr (some d) (V7 lh sh z len (r.map (·.1)) (r.map fun p=>rd fr p.2)):=by
 rw[avP D]
 unfold kc V7
 cases yU lh sh false (r.map fun p=>rd fr p.2)with
 |none=>rfl
 |some q=>
  simp only[Option.bind_some]
  cases QJ z len (r.map (·.1)) q.1 with
  |none=>rfl
  |some v=>grind [r8,lz]
theorem QM{z:List T}{len:Nat}{D:List Nat}{r:List T}(h:r.all froz=true):V7 lh sh z len D r=(QJ z len D r).map fun v=>(v,⟨.nil,lh,sh⟩):=by
 unfold V7
 rw[uU h];rfl
theorem akK{f:Nat}{as:List aP}(r:d<n):ai E call n (⟨some d,.callf f as,none⟩::os) ⟨fr,lh,sh⟩=kc (ai E call n os) fr (some d) (bu E call d ⟨fr,lh,sh⟩ f (as.map (rd fr))):=akA r
theorem acw{f:Nat}{as:List aP}:ai E call n (⟨none,.callf f as,none⟩::os) ⟨fr,lh,sh⟩=kc (ai E call n os) fr none (bu E call 0 ⟨fr,lh,sh⟩ f (as.map (rd fr))):=ab9
theorem acx{f:aP}{as:List aP}(r:d<n):ai E call n (⟨some d,.callv f as,none⟩::os) ⟨fr,lh,sh⟩=kc (ai E call n os) fr (some d) (uV E call d ⟨fr,lh,sh⟩ (rd fr f) (as.map (rd fr))):=aca r
theorem acy{r:Option Nat}{op:mh}{j:Nat}(h:aa fr j= .b true):ai E call n (⟨r,op,some (j,true)⟩::os) ⟨fr,lh,sh⟩=ai E call n (⟨r,op,none⟩::os) ⟨fr,lh,sh⟩:=V2 h
theorem acz{r:Option Nat}{op:mh}{j:Nat}(h:aa fr j= .b false):ai E call n (⟨r,op,some (j,false)⟩::os) ⟨fr,lh,sh⟩=ai E call n (⟨r,op,none⟩::os) ⟨fr,lh,sh⟩:=V2 h
theorem acA{op:mh}{j:Nat}(r:d<n)(h:aa fr j= .b false):ai E call n (⟨some d,op,some (j,true)⟩::os) ⟨fr,lh,sh⟩=ai E call n os ⟨cH fr d aQ,lh,sh⟩:=A6 (d:=some d) r h
theorem acB{op:mh}{j:Nat}(r:d<n)(h:aa fr j= .b true):ai E call n (⟨some d,op,some (j,false)⟩::os) ⟨fr,lh,sh⟩=ai E call n os ⟨cH fr d aQ,lh,sh⟩:=A6 (d:=some d) r h
theorem V8{op:mh}{j:Nat}{w:Bool}(r:d<n)(h:aa fr j=aQ):ai E call n (⟨some d,op,some (j,w)⟩::os) ⟨fr,lh,sh⟩=ai E call n os ⟨cH fr d aQ,lh,sh⟩:=NS (d:=some d) r h
theorem V9{op:mh}{j:Nat}(h:aa fr j= .b false):ai E call n (⟨none,op,some (j,true)⟩::os) ⟨fr,lh,sh⟩=ai E call n os ⟨fr,lh,sh⟩:=A6 (d:=none) trivial h
theorem Wa{op:mh}{j:Nat}(h:aa fr j= .b true):ai E call n (⟨none,op,some (j,false)⟩::os) ⟨fr,lh,sh⟩=ai E call n os ⟨fr,lh,sh⟩:=A6 (d:=none) trivial h
end
section
variable{E:Env}{n:Nat}{fr:Fr}{lh:aD ah}{sh:List ah}
theorem akL{c:aP}{a b:ak}(h:isB (rd fr c)=true):DC E n (.cond c a b) ⟨fr,lh,sh⟩=if isT (rd fr c)=true then DC E n a ⟨fr,lh,sh⟩else DC E n b ⟨fr,lh,sh⟩:=by
 rw[V3,acr h];rfl
def uX(r:List sW)(D:Bool)(x:Option (Out×St)):Option (T×List ah):=
 match x with
 |some (.ext _,_)=>none
 |some (_,st)=>(iv st r).bind fun H=>answer D H st
 |none=>none
theorem au{f:Nat}{af:aj}{args:List T}{sh:List ah}(r:E.fn f=some af)(D:(af.n<args.length)=False)(H:af.own=none:=by rfl):
  ae E f args sh=uX af.res af.eff (DC E af.n af.code {fr:=kR args,lh:= .nil,sh}):=by
 rw[VT r (Nat.le_of_not_lt (of_eq_false D))]
 generalize DC E af.n af.code {fr:=kR args,lh:= .nil,sh}=x
 unfold ah5 uX
 rw[H]
 cases x with
 |none=>rfl
 |some p=>
  obtain⟨o,st⟩:=p
  cases o with
  |ext id=>rfl
  |nrm=>simp only[];cases iv st af.res <;> rfl
  |ret=>simp only[];cases iv st af.res <;> rfl
def Ly(r:List sW)(j:Nat)(x:Option (Out×St)):Option (T×List ah):=
 match x with
 |some (.ext _,_)=>none
 |some (_,st)=>(iv st r).bind fun D=>oD j D st
 |none=>none
def acC(lh:aD ah)(sh:List ah)(j:Nat)(r:List T):Option (T×List ah):=oD j r ⟨.nil,lh,sh⟩
theorem A8{j:Nat}{r:List T}:oD j r ⟨fr,lh,sh⟩=acC lh sh j r:=by
 unfold acC oD
 simp only[xf,lN]
 split
 ·rfl
 ·split
  ·rename_i p _
   rw[lz p.2 lh sh]
   rfl
  ·rfl
 ·rfl
theorem Wb{r:List sW}{j:Nat}:Ly r j (some (.ret,⟨fr,lh,sh⟩))=(uW fr lh sh r).bind (acC lh sh j):=by
 simp_all[Ly,lA,A8]
theorem Wc{r:List sW}{j:Nat}:Ly r j (some (.nrm,⟨fr,lh,sh⟩))=(uW fr lh sh r).bind (acC lh sh j):=by
 simp_all[Ly,lA,A8]
theorem Wd{c:Prop}[Decidable c]{r:List sW}{j:Nat}{x y:Option (Out×St)}:Ly r j (if c then x else y)=if c then Ly r j x else Ly r j y:=by split <;> rfl
theorem We{r:List sW}{D:Bool}:uX r D (some (.ret,⟨fr,lh,sh⟩))=(uW fr lh sh r).bind (QL lh sh D):=by
 simp_all[uX,lA,xf]
theorem Wf{r:List sW}{D:Bool}:uX r D (some (.nrm,⟨fr,lh,sh⟩))=(uW fr lh sh r).bind (QL lh sh D):=by
 simp_all[uX,lA,xf]
theorem Wg{c:Prop}[Decidable c]{r:List sW}{D:Bool}{x y:Option (Out×St)}:uX r D (if c then x else y)=if c then uX r D x else uX r D y:=by split <;> rfl
end
section
variable{k:IntKind}{a b:Int}{x y:Bool}{s t:List Nat}
theorem acD:Ev.bin .add (.i k a) (.i k b)=some (.i k (wr k (a+b))):=by simp[Ev.bin,l8]
theorem acE:Ev.bin .sub (.i k a) (.i k b)=some (.i k (wr k (a-b))):=by simp[Ev.bin,l8]
theorem acF:Ev.bin .mul (.i k a) (.i k b)=some (.i k (wr k (a*b))):=by simp[Ev.bin,l8]
theorem acG:Ev.bin .quo (.i k a) (.i k b)=if b=0 then none else some (.i k (wr k (a.tdiv b))):=by simp[Ev.bin,l8]
theorem acH:Ev.bin .rem (.i k a) (.i k b)=if b=0 then none else some (.i k (a.tmod b)):=by simp[Ev.bin,l8]
theorem NT:Ev.bin .eql (.i k a) (.i k b)=some (.b (decide (a=b))):=by simp[Ev.bin,l8];exact Bool.beq_eq_decide_eq a b
theorem NU:Ev.bin .neq (.i k a) (.i k b)=some (.b (!decide (a=b))):=by simp[Ev.bin,l8];rw[bne,Bool.beq_eq_decide_eq]
theorem NV:Ev.bin .lss (.i k a) (.i k b)=some (.b (decide (a<b))):=by simp[Ev.bin,l8]
theorem NW:Ev.bin .leq (.i k a) (.i k b)=some (.b (decide (a≤b))):=by simp[Ev.bin,l8]
theorem NX:Ev.bin .gtr (.i k a) (.i k b)=some (.b (decide (b<a))):=by simp[Ev.bin,l8]
theorem NY:Ev.bin .geq (.i k a) (.i k b)=some (.b (decide (b≤a))):=by simp[Ev.bin,l8]
theorem Iw:Ev.bin .eql (.s s) (.s t)=some (.b (decide (s=t))):=by simp[Ev.bin,K3];exact Bool.beq_eq_decide_eq s t
theorem Ix:Ev.bin .neq (.s s) (.s t)=some (.b (!decide (s=t))):=by simp[Ev.bin,K3];rw[bne,Bool.beq_eq_decide_eq]
theorem Iy:Ev.bin .lss (.s s) (.s t)=some (.b (lessN s t)):=by simp[Ev.bin,K3]
theorem Wh:Ev.bin .add (.s s) (.s t)=if s.length+t.length≤1099511627776 then some (.s (s++t))else none:=by simp[Ev.bin,K3]
theorem akM:Ev.un .not (.b x)=some (.b (!x)):=rfl
theorem akN:Ev.un .neg (.i k a)=some (.i k (wr k (0-a))):=rfl
theorem akO{cs:List T}{off m:Nat}:Ev.part cs off m false=cs[off]? :=rfl
theorem akP{cs:List T}{off m:Nat}:Ev.part cs off m true=if off+m≤cs.length then some (.agg ((cs.drop off).take m))else none:=rfl
theorem bj{n:Int}(h: -9223372036854775808≤n∧n≤9223372036854775807):wr .i64 n=n:=by grind [wr,lo,hi]
theorem cO{cs:List T}{len sz:Nat}{ex:Bool}{kk:IntKind}{j:Int}:iaV (.sl cs len ex) (.i kk j) sz=if 0≤j∧j.toNat<len∧(j.toNat+1)*sz≤cs.length then some (.vp (cs.drop (j.toNat*sz)))else none:=by
 unfold iaV asNat
 grind
theorem acI{sp:Sp}{i g off len sz r:Nat}{kk:IntKind}{j:Int}:iaV (.isl sp i g off len r) (.i kk j) sz=if 0≤j∧j.toNat<len∧r=sz then some (.ptr sp i g (off+j.toNat*sz))else none:=by
 unfold iaV asNat
 grind
theorem LA{r:List Nat}{kk:IntKind}{j:Int}:CM (.s r) (.i kk j)=if 0≤j then r[j.toNat]?.map fun c=>T.i .u8 c else none:=by
 unfold CM asNat
 grind
theorem acJ{kk:IntKind}{j:Int}:asNat (.i kk j)=if 0≤j then some j.toNat else none:=rfl
end
end Go.Ev
