/- A tree evaluator over the model, proved against it (part E): where it answers, the call returns that answer. Conditions: none beyond its theorems' own. -/
import Derived.Test.YtcpceiclnbmgiaaGreatEvD
set_option linter.unusedSimpArgs false
set_option linter.unusedVariables false
namespace Go.Ev
open Go
section
variable{E:Env}{call:kg}{fl n:Nat}
end
end Go.Ev
namespace Go.Ev
open Go
def qO(c D:kg):Prop:= ∀f a sh r,c f a sh=some r→D f a sh=some r
theorem qO.refl(c:kg):qO c c:=fun _ _ _ _ h=>h
section
variable{E:Env}
theorem yb{c D:kg}(h:qO c D){H:Nat}{st:St}{f:Nat}{args:List T}{r:T×St}(hr:bB E c H st f args=some r):bB E D H st f args=some r:=by
 unfold bB at hr ⊢
 cases J:E.fn f with
 |none=>grind
 |some af=>
  simp only[J]at hr ⊢
  cases K:(bn (fz af.eff aL) args).run st.get st.sh.length with
  |none=>grind
  |some q=>
   simp only[K]at hr ⊢
   cases I:af.eff with
   |true=>
    simp only[I,if_true,Option.map_eq_some_iff]at hr ⊢
    obtain⟨a,h1,h2⟩:=hr
    exact⟨a,h _ _ _ _ h1,h2⟩
   |false=>
    simp only[I]at hr ⊢
    cases hc:c f q.1 []with
    |none=>grind
    |some a=>
     simp only[hc]at hr
     simp only[h _ _ _ _ hc]
     exact hr
theorem ng{c J:kg}(h:qO c J){n:Nat}{o:aF}{st H:St}(hr:br E c n o st=some H):br E J n o st=some H:=by
 unfold br at hr ⊢
 have N: ∀H,(match bI st.rho o.op with
  |some (some D)=>match bB E c (o.d.getD 0) st D.1 D.2 with
   |some r=>(iI st.fr n o.d r.1).map fun fr=>{r.2 with fr}
   |none=>none
  |some none=>none
  |none=>match(bC (o.d.getD 0) st.rho o.op).run st.get st.sh.length with
   |some (.val v ups)=>(iI st.fr n o.d v).map fun fr=>{st.ups ups with fr}
   |none=>none)=some H→(match bI st.rho o.op with
  |some (some D)=>match bB E J (o.d.getD 0) st D.1 D.2 with
   |some r=>(iI st.fr n o.d r.1).map fun fr=>{r.2 with fr}
   |none=>none
  |some none=>none
  |none=>match(bC (o.d.getD 0) st.rho o.op).run st.get st.sh.length with
   |some (.val v ups)=>(iI st.fr n o.d v).map fun fr=>{st.ups ups with fr}
   |none=>none)=some H:=by
  intro H hs
  cases hc:bI st.rho o.op with
  |none=>simp only[hc]at hs ⊢; exact hs
  |some x=>
   cases x with
   |none=>simp only[hc]at hs;cases hs
   |some D=>
    simp only[hc]at hs ⊢
    cases K:bB E c (o.d.getD 0) st D.1 D.2 with
    |none=>simp only[K]at hs;cases hs
    |some r=>
     simp only[K]at hs
     simp only[yb h K]
     exact hs
 cases O:o.gd with
 |none=>grind
 |some p=>
  obtain⟨j,I⟩:=p
  simp only[O]at hr ⊢
  split at hr
  ·rename_i x hx
   by_cases U:x=I
   ·grind
   ·grind
  ·cases hr
  ·exact hr
theorem gV{c D:kg}(h:qO c D){n:Nat}: ∀(os:List aF) {st r:St},aj E c n os st=some r→aj E D n os st=some r
 | [],st,r,hr=>hr
 |o::os,st,r,hr=>by
  simp only[aj]at hr ⊢
  cases H:br E c n o st with
  |none=>grind
  |some s=>
   simp only[H]at hr
   simp only[ng h H]
   exact gV h os hr
theorem yc{c D:kg}(h:qO c D){H:Nat}{st:St}{f:Nat}{args:List T}{r:FP}(hr:fb E c H st f args=some r):fb E D H st f args=some r:=by
 unfold fb at hr ⊢
 cases I:E.fn f with
 |none=>grind
 |some af=>
  simp only[I]at hr ⊢
  cases J:(bn (fz af.eff aL) args).run st.get st.sh.length with
  |none=>grind
  |some q=>
   simp only[J]at hr ⊢
   by_cases hi:(!inB st q.2)=true
   ·grind
   ·rw[if_neg hi]at hr ⊢
    cases K:af.eff with
    |true=>grind
    |false=>
     simp only[K]at hr ⊢
     cases hc:c f q.1 []with
     |none=>simp[hc]at hr
     |some a=>
      simp only[hc]at hr
      simp only[h _ _ _ _ hc]
      exact hr
theorem ye{c I:kg}(h:qO c I){o:aF}{st:St}{r:FP}(hr:ch E c o st=some r):ch E I o st=some r:=by
 unfold ch at hr ⊢
 have J: ∀r,(match bI st.rho o.op with
  |some (some H)=>fb E c (o.d.getD 0) st H.1 H.2
  |some none=>none
  |none=>
   let q:=bC (o.d.getD 0) st.rho o.op
   match q.run st.get st.sh.length with
   |some (.val _ D)=>if q.asks st.get st.sh.length||inB st D then some ⟨q.asks st.get st.sh.length,q.log st.get st.sh.length,dg D⟩else none
   |none=>none)=some r→(match bI st.rho o.op with
  |some (some H)=>fb E I (o.d.getD 0) st H.1 H.2
  |some none=>none
  |none=>
   let q:=bC (o.d.getD 0) st.rho o.op
   match q.run st.get st.sh.length with
   |some (.val _ D)=>if q.asks st.get st.sh.length||inB st D then some ⟨q.asks st.get st.sh.length,q.log st.get st.sh.length,dg D⟩else none
   |none=>none)=some r:=by
  intro r hs
  cases hc:bI st.rho o.op with
  |none=>simp only[hc]at hs ⊢; exact hs
  |some x=>
   cases x with
   |none=>simp only[hc]at hs;cases hs
   |some H=>simp only[hc]at hs ⊢; exact yc h hs
 cases K:o.gd with
 |none=>grind
 |some p=>
  grind
theorem nh{c D:kg}(h:qO c D){n:Nat}: ∀(os:List (List Nat×aF)) {bw:List FP} {st r:St},aM E c n os bw st=some r→aM E D n os bw st=some r
 | [],bw,st,r,hr=>hr
 |(u,o)::os,bw,st,r,hr=>by
  simp only[aM]at hr ⊢
  cases H:ch E c o st with
  |none=>grind
  |some fp=>
   simp only[H]at hr
   simp only[ye h H]
   split at hr
   ·rename_i J
    rw[if_pos J]
    cases I:br E c n o st with
    |none=>grind
    |some s=>
     simp only[I]at hr
     simp only[ng h I]
     exact nh h os hr
   ·cases hr
theorem rZ{f g:St→Option (Out×St)}(h: ∀st r,f st=some r→g st=some r): ∀{k k':Nat},k≤k'→ ∀{st:St} {r:Out×St},iter f k st=some r→iter g k' st=some r
 |0,_,_,st,r,hr=>by simp[iter]at hr
 |k+1,0,hk,_,_,_=>by omega
 |k+1,k'+1,hk,st,r,hr=>by
  simp only[iter]at hr ⊢
  cases D:f st with
  |none=>grind
  |some p=>
   rw[h _ _ D]
   rw[D]at hr
   obtain⟨o,s⟩:=p
   cases o with
   |nrm=>exact rZ h zO hr
   |ext id=>exact hr
   |ret=>exact hr
theorem dw{c J:kg}(h:qO c J){n:Nat}{fl H:Nat}(D:fl≤H): ∀(code:ak) {st:St} {r:Out×St},gH E c fl n code st=some r→gH E J H n code st=some r
 | .skip,st,r,hr=>hr
 | .region ops,st,r,hr=>by
   simp only[gH,Option.map_eq_some_iff]at hr ⊢
   obtain⟨a,h1,h2⟩:=hr
   exact⟨a,gV h ops h1,h2⟩
 | .draws ops,st,r,hr=>by
   simp only[gH,Option.map_eq_some_iff]at hr ⊢
   obtain⟨a,h1,h2⟩:=hr
   exact⟨a,nh h ops h1,h2⟩
 | .seq a b,st,r,hr=>by
   simp only[gH]at hr ⊢
   cases I:gH E c fl n a st with
   |none=>grind
   |some p=>
    rw[dw h D a I]
    rw[I]at hr
    obtain⟨o,s⟩:=p
    cases o with
    |nrm=>exact dw h D b hr
    |ext id=>exact hr
    |ret=>exact hr
 | .fork os CT b,st,r,hr=>by
   simp only[gH]at hr ⊢
   cases h1:aj E c n os st with
   |none=>grind
   |some U=>
    cases h2:aj E c n CT st with
    |none=>grind
    |some s2=>
     rw[gV h os h1,gV h CT h2]
     rw[h1,h2]at hr
     simp only[]at hr ⊢
     obtain⟨o,s⟩:=r
     obtain⟨V,W,K,N,X,rfl⟩:=tn hr
     rw[K,N]at hr
     rw[dw h D b K,dw h D b N]
     exact hr
 | .cond x a b,st,r,hr=>by
   simp only[gH]at hr ⊢
   split at hr
   ·exact dw h D a hr
   ·exact dw h D b hr
   ·cases hr
 | .block id a,st,r,hr=>by
   simp only[gH]at hr ⊢
   cases I:gH E c fl n a st with
   |none=>grind
   |some p=>
    rw[dw h D a I]
    grind
 | .loop a,st,r,hr=>by
   simp only[gH]at hr ⊢
   exact rZ (fun st r O=>dw h D a O) D hr
 | .exit id,st,r,hr=>hr
 | .ret,st,r,hr=>hr
theorem cj: ∀{m D:Nat},m≤D→qO (cV E m) (cV E D)
 |0,D,_=>fun f a sh r h=>by simp[cV]at h
 |m+1,0,h=>by omega
 |m+1,D+1,h=>fun f a sh r hr=>by
  simp only[cV]at hr ⊢
  cases H:E.fn f with
  |none=>grind
  |some af=>
   simp only[H]at hr ⊢
   split at hr
   ·cases hr
   ·rename_i I
    rw[if_neg I]
    cases hc:gH E (cV E m) m af.n af.code {fr:=lb a,lh:= .nil,sh}with
    |none=>grind
    |some p=>
     rw[dw (cj (Nat.le_of_succ_le_succ h)) (Nat.le_of_succ_le_succ h) af.code hc]
     grind
end
noncomputable def lim{α:Type}(F:Nat→Option α):Option α:=
 open Classical in if h: ∃m,(F m).isSome=true then F (Classical.choose h)else none
def aw4{α:Type}(F:Nat→Option α):Prop:= ∀m D r,m≤D→F m=some r→F D=some r
theorem NO{α:Type}{F:Nat→Option α}(H:aw4 F)(r:α):lim F=some r↔ ∃m,F m=some r:=by
 unfold lim
 constructor
 ·intro h
  split at h
  ·grind
  ·cases h
 ·rintro⟨m,I⟩
  have D: ∃m,(F m).isSome=true:=⟨m,by rw[I];rfl⟩
  rw[dif_pos D]
  have hs:=Classical.choose_spec D
  generalize Classical.choose D=k at hs
  cases hk:F k with
  |none=>grind
  |some a=>
   have h1:=H k (max k m) a (Nat.le_max_left _ _) hk
   have h2:=H m (max k m) r (Nat.le_max_right _ _) I
   grind
section
variable(E:Env)
noncomputable def ae:kg:=fun f a sh=>lim fun m=>cV E m f a sh
noncomputable def DC(n:Nat)(code:ak)(st:St):Option (Out×St):=lim fun m=>gH E (cV E m) m n code st
end
section
variable{E:Env}
theorem DCall_iff{f:Nat}{a:List T}{sh:List ah}{r:T×List ah}:ae E f a sh=some r↔ ∃m,cV E m f a sh=some r:=
 NO (fun m D r h hr=>cj h _ _ _ _ hr) r
theorem dB{n:Nat}{code:ak}{st:St}{r:Out×St}:DC E n code st=some r↔ ∃m,gH E (cV E m) m n code st=some r:=
 NO (fun m D r h hr=>dw (cj h) h code hr) r
theorem pj(m:Nat):qO (cV E m) (ae E):=fun f a sh r h=>DCall_iff.2 ⟨m,h⟩
theorem Lw{D:Nat}{st:St}{f:Nat}{args:List T}{r:T×St}(hr:bB E (ae E) D st f args=some r): ∃m,bB E (cV E m) D st f args=some r:=by
 unfold bB at hr
 cases H:E.fn f with
 |none=>refine⟨0, ?_⟩;unfold bB;cases hx:E.ext f <;> simp only[H,hx]at hr ⊢ <;> exact hr
 |some af=>
  simp only[H]at hr
  grind [bB,Option.map_eq_some_iff,DCall_iff.1]
theorem Lx{D:Nat}{st:St}{f:Nat}{args:List T}{r:FP}(hr:fb E (ae E) D st f args=some r): ∃m,fb E (cV E m) D st f args=some r:=by
 unfold fb at hr
 cases H:E.fn f with
 |none=>refine⟨0, ?_⟩;unfold fb;cases hx:E.ext f <;> simp only[H,hx]at hr ⊢ <;> exact hr
 |some af=>
  simp only[H]at hr
  cases I:(bn (fz af.eff aL) args).run st.get st.sh.length with
  |none=>grind
  |some q=>
   simp only[I]at hr
   by_cases hi:(!inB st q.2)=true
   ·grind
   ·rw[if_neg hi]at hr
    cases J:af.eff with
    |true=>
     simp_all[fb]
    |false=>
     grind [fb,DCall_iff.1]
theorem Bv{n:Nat}{o:aF}{st H:St}(hr:br E (ae E) n o st=some H): ∃m,br E (cV E m) n o st=some H:=by
 cases hc:bI st.rho o.op with
 |none=>
  simp_all[br]
 |some x=>
  cases x with
  |none=>
   simp_all[br]
  |some D=>
   cases I:bB E (ae E) (o.d.getD 0) st D.1 D.2 with
   |none=>
    refine⟨0, ?_⟩
    have h0:bB E (cV E 0) (o.d.getD 0) st D.1 D.2=none:=by
     cases h0:bB E (cV E 0) (o.d.getD 0) st D.1 D.2 with
     |none=>rfl
     |some r=>rw[yb (pj 0) h0]at I;cases I
    grind [br]
   |some r=>
    grind [br,Lw]
theorem Ly{o:aF}{st:St}{r:FP}(hr:ch E (ae E) o st=some r): ∃m,ch E (cV E m) o st=some r:=by
 cases hc:bI st.rho o.op with
 |none=>
  simp_all[ch]
 |some x=>
  cases x with
  |none=>
   simp_all[ch]
  |some D=>
   cases H:fb E (ae E) (o.d.getD 0) st D.1 D.2 with
   |none=>
    refine⟨0, ?_⟩
    have h0:fb E (cV E 0) (o.d.getD 0) st D.1 D.2=none:=by
     cases h0:fb E (cV E 0) (o.d.getD 0) st D.1 D.2 with
     |none=>rfl
     |some r=>rw[yc (pj 0) h0]at H;cases H
    grind [ch]
   |some r=>
    grind [ch,Lx]
theorem sa{n:Nat}: ∀(os:List aF) {st r:St},aj E (ae E) n os st=some r→ ∃m,aj E (cV E m) n os st=some r
 | [],st,r,hr=>⟨0,hr⟩
 |o::os,st,r,hr=>by
  simp only[aj]at hr
  cases I:br E (ae E) n o st with
  |none=>grind
  |some s=>
   simp only[I]at hr
   obtain⟨D,h1⟩:=Bv I
   obtain⟨H,h2⟩:=sa os hr
   refine⟨max D H, ?_⟩
   simp only[aj,ng (cj (Nat.le_max_left D H)) h1]
   exact gV (cj (Nat.le_max_right D H)) os h2
theorem Bw{n:Nat}: ∀(os:List (List Nat×aF)) {bw:List FP} {st H:St},aM E (ae E) n os bw st=some H→ ∃m,aM E (cV E m) n os bw st=some H
 | [],bw,st,H,hr=>⟨0,hr⟩
 |(u,o)::os,bw,st,H,hr=>by
  simp only[aM]at hr
  cases I:ch E (ae E) o st with
  |none=>grind
  |some fp=>
   simp only[I]at hr
   split at hr
   ·rename_i K
    cases J:br E (ae E) n o st with
    |none=>grind
    |some s=>
     simp only[J]at hr
     obtain⟨r,h1⟩:=Bv J
     obtain⟨D,h2⟩:=Bw os hr
     obtain⟨m3,h3⟩:=Ly I
     refine⟨max m3 (max r D), ?_⟩
     have N:r≤max m3 (max r D):=zO
     have O:D≤max m3 (max r D):=zO
     have U:m3≤max m3 (max r D):=zO
     simp only[aM,ye (cj U) h3,ng (cj N) h1]
     rw[if_pos K]
     exact nh (cj O) os h2
   ·cases hr
theorem pk{α:Type}{x y:Option α}(h: ∀r,x=some r↔y=some r):x=y:=Option.ext h
theorem ac3{n:Nat}{st:St}:DC E n .skip st=some (.nrm,st):=dB.2 ⟨0,rfl⟩
theorem ac4{n id:Nat}{st:St}:DC E n (.exit id) st=some (.ext id,st):=dB.2 ⟨0,rfl⟩
theorem ali{n:Nat}{st:St}:DC E n .ret st=some (.ret,st):=dB.2 ⟨0,rfl⟩
theorem DX{n:Nat}{ops:List aF}{st:St}:DC E n (.region ops) st=(aj E (ae E) n ops st).map fun D=>(.nrm,D):=by
 refine pk fun r=> ?_
 rw[dB,Option.map_eq_some_iff]
 constructor
 ·rintro⟨m,h⟩
  simp only[gH,Option.map_eq_some_iff]at h
  obtain⟨a,h1,h2⟩:=h
  exact⟨a,gV (pj m) ops h1,h2⟩
 grind [gH,Option.map_eq_some_iff,sa]
theorem IB{n:Nat}{ops:List (List Nat×aF)}{st:St}:DC E n (.draws ops) st=(aM E (ae E) n ops [] st).map fun D=>(.nrm,D):=by
 refine pk fun r=> ?_
 rw[dB,Option.map_eq_some_iff]
 constructor
 ·rintro⟨m,h⟩
  simp only[gH,Option.map_eq_some_iff]at h
  obtain⟨a,h1,h2⟩:=h
  exact⟨a,nh (pj m) ops h1,h2⟩
 grind [gH,Option.map_eq_some_iff,Bw]
def andThen(x:Option (Out×St))(f:St→Option (Out×St)):Option (Out×St):=
 match x with
 |some (.nrm,D)=>f D
 |r=>r
theorem fQ{st:St}{f:St→Option (Out×St)}:andThen (some (.nrm,st)) f=f st:=rfl
theorem IC{id:Nat}{st:St}{f:St→Option (Out×St)}:andThen (some (.ext id,st)) f=some (.ext id,st):=rfl
theorem ID{st:St}{f:St→Option (Out×St)}:andThen (some (.ret,st)) f=some (.ret,st):=rfl
theorem FN{f:St→Option (Out×St)}:andThen none f=none:=rfl
theorem qP{n:Nat}{a b:ak}{st:St}:DC E n (.seq a b) st=andThen (DC E n a st) (DC E n b):=by
 refine pk fun r=> ?_
 rw[dB]
 constructor
 ·rintro⟨m,h⟩
  simp only[gH]at h
  cases D:gH E (cV E m) m n a st with
  |none=>grind
  |some p=>
   rw[D]at h
   rw[dB.2 ⟨m,D⟩]
   obtain⟨o,s⟩:=p
   cases o with
   |nrm=>exact dB.2 ⟨m,h⟩
   |ext id=>exact h
   |ret=>exact h
 ·intro h
  cases D:DC E n a st with
  |none=>rw[D]at h;cases h
  |some p=>
   rw[D]at h
   obtain⟨H,h1⟩:=dB.1 D
   obtain⟨o,s⟩:=p
   cases o with
   |nrm=>
    obtain⟨I,h2⟩:=dB.1 h
    refine⟨max H I, ?_⟩
    have J:=Nat.le_max_left H I
    have K:=Nat.le_max_right H I
    simp only[gH,dw (cj J) J a h1]
    exact dw (cj K) K b h2
   |ext id=>refine⟨H, ?_⟩;simp only[gH,h1];exact h
   |ret=>refine⟨H, ?_⟩;simp only[gH,h1];exact h
theorem ac5{n:Nat}{c:aX}{a b:ak}{st:St}:DC E n (.cond c a b) st=match st.rho c with| .b true=>DC E n a st| .b false=>DC E n b st|_=>none:=by
 refine pk fun r=> ?_
 grind [dB,gH,dB.2,dB.1]
def yf(id:Nat)(x:Option (Out×St)):Option (Out×St):=
 match x with
 |some (.ext Qc,D)=>if Qc=id then some (.nrm,D)else some (.ext Qc,D)
 |r=>r
theorem Qs{id:Nat}{st:St}:yf id (some (.nrm,st))=some (.nrm,st):=rfl
theorem Qt{id:Nat}{st:St}:yf id (some (.ret,st))=some (.ret,st):=rfl
theorem Qu{id Qc:Nat}{st:St}:yf id (some (.ext Qc,st))=if Qc=id then some (.nrm,st)else some (.ext Qc,st):=rfl
theorem Lz{id:Nat}:yf id none=none:=rfl
theorem V3{n id:Nat}{a:ak}{st:St}:DC E n (.block id a) st=yf id (DC E n a st):=by
 refine pk fun r=> ?_
 rw[dB]
 constructor
 ·rintro⟨m,h⟩
  simp only[gH]at h
  cases D:gH E (cV E m) m n a st with
  |none=>grind
  |some p=>
   rw[D]at h
   rw[dB.2 ⟨m,D⟩]
   exact h
 ·intro h
  cases D:DC E n a st with
  |none=>rw[D]at h;cases h
  |some p=>
   rw[D]at h
   obtain⟨H,h1⟩:=dB.1 D
   refine⟨H, ?_⟩
   simp only[gH,h1]
   exact h
theorem sd{n:Nat}{a:ak}{st:St}:DC E n (.loop a) st=andThen (DC E n a st) (DC E n (.loop a)):=by
 refine pk fun r=> ?_
 rw[dB]
 constructor
 ·rintro⟨m,h⟩
  simp only[gH]at h
  cases m with
  |zero=>simp[iter]at h
  |succ m=>
   rw[iter]at h
   cases H:gH E (cV E (m+1)) (m+1) n a st with
   |none=>grind
   |some p=>
    rw[H]at h
    rw[dB.2 ⟨m+1,H⟩]
    obtain⟨o,s⟩:=p
    cases o with
    |nrm=>
     refine dB.2 ⟨m+1, ?_⟩
     simp only[gH]
     exact rZ (fun _ _ h=>h) (Nat.le_succ m) h
    |ext id=>exact h
    |ret=>exact h
 ·intro h
  cases H:DC E n a st with
  |none=>rw[H]at h;cases h
  |some p=>
   rw[H]at h
   obtain⟨D,h1⟩:=dB.1 H
   obtain⟨o,s⟩:=p
   cases o with
   |nrm=>
    obtain⟨I,h2⟩:=dB.1 h
    refine⟨max D I+1, ?_⟩
    have J:D≤max D I+1:=zO
    have K:I≤max D I+1:=zO
    have N:I≤max D I:=zO
    simp only[gH]at h2
    simp only[gH]
    rw[iter,dw (cj J) J a h1]
    exact rZ (fun st r O=>dw (cj K) K a O) N h2
   |ext id=>
    refine⟨D+1, ?_⟩
    simp only[gH]
    rw[iter,dw (cj (Nat.le_succ D)) (Nat.le_succ D) a h1]
    exact h
   |ret=>
    refine⟨D+1, ?_⟩
    simp only[gH]
    rw[iter,dw (cj (Nat.le_succ D)) (Nat.le_succ D) a h1]
    exact h
def V4(af:ai)(x:Option (Out×St)):Option (T×List ah):=
 match x with
 |some (.ext _,_)=>none
 |some (_,st)=>match jc st af.res with
  |some r=>oW af.own af.eff r st
  |none=>none
 |none=>none
theorem IE{f:Nat}{af:ai}{args:List T}{sh:List ah}(D:E.fn f=some af)(H:args.length≤af.n):
  ae E f args sh=V4 af (DC E af.n af.code {fr:=lb args,lh:= .nil,sh}):=by
 refine pk fun r=> ?_
 rw[DCall_iff]
 constructor
 ·rintro⟨m,h⟩
  cases m with
  |zero=>simp[cV]at h
  |succ m=>
   simp only[cV,D,if_neg (Nat.not_lt.2 H)]at h
   cases hc:gH E (cV E m) m af.n af.code {fr:=lb args,lh:= .nil,sh}with
   |none=>grind
   |some p=>rw[hc]at h;rw[dB.2 ⟨m,hc⟩];exact h
 ·intro h
  cases hc:DC E af.n af.code {fr:=lb args,lh:= .nil,sh}with
  |none=>rw[hc]at h;cases h
  |some p=>
   rw[hc]at h
   obtain⟨m,I⟩:=dB.1 hc
   refine⟨m+1, ?_⟩
   simp only[cV,D,if_neg (Nat.not_lt.2 H),I]
   exact h
end
end Go.Ev
namespace Go.Ev
open Go
theorem nr{α:Sort _}{a b:α}(h:a=b):a=b:=h
def rd(fr:Fr):aX→T
 | .t k=>aa fr k
 | .c v=>v
theorem aEd(fr:Fr)(k:Nat):rd fr (.t k)=aa fr k:=nr rfl
theorem aEe(fr:Fr)(v:T):rd fr (.c v)=v:=nr rfl
theorem dC(fr:Fr)(lh:aB ah)(sh:List ah):(St.mk fr lh sh).rho=rd fr:=by funext x;cases x <;> rfl
theorem V5(fr:Fr)(d:Nat)(v:T):aa (cQ fr d v) d=v:=by rw[lL,if_pos rfl]
theorem V6(fr:Fr){d m:Nat}(v:T)(h:m≠d):aa (cQ fr d v) m=aa fr m:=by rw[lL,if_neg h]
def ab(lh:aB ah)(k:Nat):ah:=aB.get fv lh k
def iK(lh:aB ah)(k:Nat)(e:ah):aB ah:=aB.set fv lh k e
theorem wR(lh:aB ah)(k:Nat)(e:ah):ab (iK lh k e) k=e:=by grind [ab,iK,aB.get_set]
theorem bK(lh:aB ah){k m:Nat}(e:ah)(h:m≠k):ab (iK lh k e) m=ab lh m:=by grind [ab,iK,aB.get_set]
theorem V7(k:Nat):ab .nil k=fv:=by unfold ab;exact aB.get_nil _ _
theorem get_nil(k:Nat):aa .nil k=ba:=by unfold aa;exact aB.get_nil _ _
theorem NP(fr:Fr)(lh:aB ah)(sh:List ah)(k:Nat):(St.mk fr lh sh).get .L k=ab lh k:=rfl
theorem zH(st:St):st.ups []=st:=rfl
theorem aiX(fr:Fr)(lh:aB ah)(sh:List ah)(k:Nat)(e:ah)(us:List Up):(St.mk fr lh sh).ups ((.L,k,e)::us)=(St.mk fr (iK lh k e) sh).ups us:=rfl
def lr:Option AV→Option (T×List Up)
 |some (.val v r)=>some (v,r)
 |none=>none
def one(fr:Fr)(lh:aB ah)(sh:List ah)(d:Nat)(op:mV):Option (T×List Up):=
 lr ((bC d (rd fr) op).run (St.mk fr lh sh).get sh.length)
def uU(fr:Fr):Option Nat→T→Fr
 |some d,v=>cQ fr d v
 |none,_=>fr
def CU(n:Nat):Option Nat→Prop
 |some d=>d<n
 |none=>True
section
variable{E:Env}{call:kg}{n:Nat}{fr:Fr}{lh:aB ah}{sh:List ah}{os:List aF}
theorem aw5{st:St}:aj E call n [] st=some st:=rfl
theorem kJ{d:Option Nat}{op:mV}(hc:bI (rd fr) op=none)(D:CU n d):
  aj E call n (⟨d,op,none⟩::os) ⟨fr,lh,sh⟩=(one fr lh sh (d.getD 0) op).bind fun r=>aj E call n os {(St.mk fr lh sh).ups r.2 with fr:=uU fr d r.1}:=by
 simp only[aj,br,dC,hc]
 unfold one
 cases h:(bC (d.getD 0) (rd fr) op).run (St.mk fr lh sh).get sh.length with
 |none=>rfl
 |some r=>
  obtain⟨v,ups⟩:=r
  simp only[Option.bind_some,lr]
  cases d with
  |none=>rfl
  |some d=>simp only[iI,if_pos (show d<n from D),uU,Option.map_some]
theorem dP{d:Option Nat}{op:mV}(hc:bI (rd fr) op=none)(r:CU n d){v:Option T}(h1:one fr lh sh (d.getD 0) op=v.map fun v=>(v,[])):
  aj E call n (⟨d,op,none⟩::os) ⟨fr,lh,sh⟩=v.bind fun v=>aj E call n os ⟨uU fr d v,lh,sh⟩:=by
 rw[kJ hc r,h1]
 cases v <;> rfl
theorem jz{o:Option T}{h:Sp→Nat→ah}{nx:Nat}:lr ((val o).run h nx)=o.map fun v=>(v,([]:List Up)):=by
 cases o <;> rfl
variable{d:Nat}
theorem aEf{x:aX}(r:d<n):aj E call n (⟨some d,.mv x,none⟩::os) ⟨fr,lh,sh⟩=aj E call n os ⟨cQ fr d (rd fr x),lh,sh⟩:=
 dP (d:=some d) (v:=some (rd fr x)) (by rfl) r rfl
def NQ(c a b:T):Option T:=match c with| .b x=>some (if x=true then a else b)|_=>none
theorem ac6(x:Bool)(a b:T):NQ (.b x) a b=some (if x=true then a else b):=rfl
theorem alj{c a b:aX}(r:d<n):aj E call n (⟨some d,.pick c a b,none⟩::os) ⟨fr,lh,sh⟩=(NQ (rd fr c) (rd fr a) (rd fr b)).bind fun v=>aj E call n os ⟨cQ fr d v,lh,sh⟩:=by
 refine dP (d:=some d) (by rfl) r ?_
 unfold one NQ
 simp only[bC]
 cases h:rd fr c <;> try rfl
 rename_i x
 cases x <;> rfl
theorem aw6{op:BinOp}{x y:aX}(r:d<n):aj E call n (⟨some d,.bin op x y,none⟩::os) ⟨fr,lh,sh⟩=(Ev.bin op (rd fr x) (rd fr y)).bind fun v=>aj E call n os ⟨cQ fr d v,lh,sh⟩:=
 dP (d:=some d) (by rfl) r jz
theorem aEg{neg:Bool}{k:EK}{x y:aX}(D:d<n):aj E call n (⟨some d,.eq neg k x y,none⟩::os) ⟨fr,lh,sh⟩=((sy k (rd fr x) (rd fr y)).map fun r=>T.b (r != neg)).bind fun v=>aj E call n os ⟨cQ fr d v,lh,sh⟩:=
 dP (d:=some d) (by rfl) D jz
theorem aEh{op:UnOp}{x:aX}(r:d<n):aj E call n (⟨some d,.un op x,none⟩::os) ⟨fr,lh,sh⟩=(Ev.un op (rd fr x)).bind fun v=>aj E call n os ⟨cQ fr d v,lh,sh⟩:=
 dP (d:=some d) (by rfl) r jz
def ac7(k:IntKind):T→Option T
 | .i _ n=>some (.i k (wr k n))
 |_=>none
theorem aw7{k:IntKind}{x:aX}(r:d<n):aj E call n (⟨some d,.cvi k x,none⟩::os) ⟨fr,lh,sh⟩=(ac7 k (rd fr x)).bind fun v=>aj E call n os ⟨cQ fr d v,lh,sh⟩:=by
 refine dP (d:=some d) (by rfl) r ?_
 unfold one ac7
 simp only[bC]
 cases h:rd fr x <;> rfl
def ac8:T→Option T
 | .sl [.i .u8 (.ofNat k)] 1 _=>if k<256 then some (.s [k])else none
 |_=>none
theorem aw8{x:aX}(r:d<n):aj E call n (⟨some d,.b2s x,none⟩::os) ⟨fr,lh,sh⟩=(ac8 (rd fr x)).bind fun v=>aj E call n os ⟨cQ fr d v,lh,sh⟩:=by
 refine dP (d:=some d) (by rfl) r ?_
 unfold one ac8
 simp only[bC]
 generalize rd fr x=y
 split
 ·rename_i k ex
  by_cases hk:k<256
  ·rw[if_pos hk];simp only[hk,if_true];rfl
  ·rw[if_neg hk];simp only[hk,if_false];rfl
 ·rename_i h
  split
  ·rename_i k ex;exact absurd rfl (h k ex)
  ·rfl
theorem alk{f:Nat}{a c:List aX}(r:d<n):aj E call n (⟨some d,.mkfn f a c,none⟩::os) ⟨fr,lh,sh⟩=aj E call n os ⟨cQ fr d (.fn f (a.map (rd fr)) (c.map (rd fr))),lh,sh⟩:=
 dP (d:=some d) (v:=some _) (by rfl) r rfl
def LA(fr:Fr)(z:List T)(r:List (Nat×Nat×aX)):Option T:=
 if(r.all fun p=>(cellsOf (rd fr p.2.2)).length=p.2.1&&noTup (rd fr p.2.2))=true then(mW z (r.map fun p=>(p.1,cellsOf (rd fr p.2.2)))).map .agg else none
theorem ac9{z:List T}{r:List (Nat×Nat×aX)}(D:d<n):aj E call n (⟨some d,.build z r,none⟩::os) ⟨fr,lh,sh⟩=(LA fr z r).bind fun v=>aj E call n os ⟨cQ fr d v,lh,sh⟩:=by
 refine dP (d:=some d) (by rfl) D ?_
 unfold one LA
 simp only[bC]
 split
 ·exact jz
 ·rfl
def tq(fr:Fr)(x:T)(l h:Option aX):Option T:=
 match x with
 | .s r=>match eY (rd fr) 0 l,eY (rd fr) r.length h with
   |some l,some h=>if l≤h∧h≤r.length then some (.s ((r.drop l).take (h-l)))else none
   |_,_=>none
 |_=>none
theorem aw9{x:aX}{l h:Option aX}(H:d<n):aj E call n (⟨some d,.slS x l h,none⟩::os) ⟨fr,lh,sh⟩=(tq fr (rd fr x) l h).bind fun v=>aj E call n os ⟨cQ fr d v,lh,sh⟩:=by
 refine dP (d:=some d) (by rfl) H ?_
 unfold one tq
 simp only[bC]
 cases hx:rd fr x <;> try rfl
 rename_i r
 simp only[]
 cases h1:eY (rd fr) 0 l <;> cases h2:eY (rd fr) r.length h <;> try rfl
 rename_i a b
 simp only[Bool.and_eq_true,decide_eq_true_eq]
 by_cases D:a≤b∧b≤r.length
 ·simp only[if_pos D];rfl
 ·simp only[if_neg D];rfl
def faV(x:T)(off:Nat):Option T:=
 match x with
 | .vp cs=>if off≤cs.length then some (.vp (cs.drop off))else none
 | .ptr sp k g o=>some (.ptr sp k g (o+off))
 |_=>none
theorem aEi{x:aX}{off:Nat}(r:d<n):aj E call n (⟨some d,.fa x off,none⟩::os) ⟨fr,lh,sh⟩=(faV (rd fr x) off).bind fun v=>aj E call n os ⟨cQ fr d v,lh,sh⟩:=by
 refine dP (d:=some d) (by rfl) r ?_
 unfold one faV
 simp only[bC]
 cases hx:rd fr x <;> try rfl
 rename_i cs
 simp only[]
 split <;> rfl
def ada(x:T)(off n:Nat)(r:Bool):Option T:=match x with| .agg cs=>part cs off n r|_=>none
theorem axb{x:aX}{off m:Nat}{r:Bool}(D:d<n):aj E call n (⟨some d,.fld x off m r,none⟩::os) ⟨fr,lh,sh⟩=(ada (rd fr x) off m r).bind fun v=>aj E call n os ⟨cQ fr d v,lh,sh⟩:=by
 refine dP (d:=some d) (by rfl) D ?_
 unfold one ada
 simp only[bC]
 cases hx:rd fr x <;> try rfl
 exact jz
def dV(x r:T)(sz:Nat):Option T:=
 match asNat r,x with
 |some j,.sl cs len _=>if j<len∧(j+1)*sz≤cs.length then some (.vp (cs.drop (j*sz)))else none
 |some j,.isl sp k g off len D=>if j<len∧D=sz then some (.ptr sp k g (off+j*sz))else none
 |_,_=>none
theorem aEj{x r:aX}{sz:Nat}(D:d<n):aj E call n (⟨some d,.ia x r sz,none⟩::os) ⟨fr,lh,sh⟩=(dV (rd fr x) (rd fr r) sz).bind fun v=>aj E call n os ⟨cQ fr d v,lh,sh⟩:=by
 refine dP (d:=some d) (by rfl) D ?_
 unfold one dV
 simp only[bC]
 cases h1:asNat (rd fr r)with
 |none=>rfl
 |some j=>
  cases hx:rd fr x <;> try rfl
  ·simp only[Bool.and_eq_true,decide_eq_true_eq];split <;> rfl
  ·simp only[Bool.and_eq_true,decide_eq_true_eq];split <;> rfl
def eJ(x r:T)(len sz:Nat):Option T:=
 match asNat r,x with
 |some j,.vp cs=>if j<len∧(j+1)*sz≤cs.length then some (.vp (cs.drop (j*sz)))else none
 |some j,.ptr sp k g off=>if j<len then some (.ptr sp k g (off+j*sz))else none
 |_,_=>none
theorem axc{x r:aX}{len sz:Nat}(D:d<n):aj E call n (⟨some d,.iaA x r len sz,none⟩::os) ⟨fr,lh,sh⟩=(eJ (rd fr x) (rd fr r) len sz).bind fun v=>aj E call n os ⟨cQ fr d v,lh,sh⟩:=by
 refine dP (d:=some d) (by rfl) D ?_
 unfold one eJ
 simp only[bC]
 cases h1:asNat (rd fr r)with
 |none=>rfl
 |some j=>
  cases hx:rd fr x <;> try rfl
  ·simp only[Bool.and_eq_true,decide_eq_true_eq];split <;> rfl
  ·simp only[];split <;> rfl
def Dg(x r:T):Option T:=
 match asNat r,x with
 |some j,.s D=>D[j]?.map fun c=> .i .u8 c
 |_,_=>none
theorem axd{x r:aX}(D:d<n):aj E call n (⟨some d,.ixS x r,none⟩::os) ⟨fr,lh,sh⟩=(Dg (rd fr x) (rd fr r)).bind fun v=>aj E call n os ⟨cQ fr d v,lh,sh⟩:=by
 refine dP (d:=some d) (by rfl) D ?_
 unfold one Dg
 simp only[bC]
 cases h1:asNat (rd fr r)with
 |none=>rfl
 |some j=>
  cases hx:rd fr x <;> try rfl
  rename_i H
  simp only[]
  cases I:H[j]? <;> rfl
def adb(x r:T)(len sz:Nat)(D:Bool):Option T:=
 match asNat r,x with
 |some j,.agg cs=>if j<len then part cs (j*sz) sz D else none
 |_,_=>none
theorem axe{x r:aX}{len sz:Nat}{D:Bool}(H:d<n):aj E call n (⟨some d,.ixA x r len sz D,none⟩::os) ⟨fr,lh,sh⟩=(adb (rd fr x) (rd fr r) len sz D).bind fun v=>aj E call n os ⟨cQ fr d v,lh,sh⟩:=by
 refine dP (d:=some d) (by rfl) H ?_
 unfold one adb
 simp only[bC]
 cases h1:asNat (rd fr r)with
 |none=>rfl
 |some j=>
  cases hx:rd fr x <;> try rfl
  simp only[]
  split
  ·exact jz
  ·rfl
def ade(x:T)(j:Nat):Option T:=match x with| .tup vs=>vs[j]? |_=>none
theorem axf{x:aX}{j:Nat}(r:d<n):aj E call n (⟨some d,.ext x j,none⟩::os) ⟨fr,lh,sh⟩=(ade (rd fr x) j).bind fun v=>aj E call n os ⟨cQ fr d v,lh,sh⟩:=by
 refine dP (d:=some d) (by rfl) r ?_
 unfold one ade
 simp only[bC]
 cases hx:rd fr x <;> try rfl
 exact jz
def NR(x:T):Option T:=match x with| .s bs=>some (.i .i64 bs.length)|_=>none
theorem alm{x:aX}(r:d<n):aj E call n (⟨some d,.lenS x,none⟩::os) ⟨fr,lh,sh⟩=(NR (rd fr x)).bind fun v=>aj E call n os ⟨cQ fr d v,lh,sh⟩:=by
 refine dP (d:=some d) (by rfl) r ?_
 unfold one NR
 simp only[bC]
 cases hx:rd fr x <;> rfl
theorem aln{x:aX}(r:d<n):aj E call n (⟨some d,.lenV x,none⟩::os) ⟨fr,lh,sh⟩=((lF (rd fr x)).map fun m=>T.i .i64 m).bind fun v=>aj E call n os ⟨cQ fr d v,lh,sh⟩:=
 dP (d:=some d) (by rfl) r jz
theorem alo{m:Nat}(r:d<n):aj E call n (⟨some d,.lenC m,none⟩::os) ⟨fr,lh,sh⟩=aj E call n os ⟨cQ fr d (.i .i64 m),lh,sh⟩:=
 dP (d:=some d) (v:=some _) (by rfl) r rfl
def mmV(r:Bool)(l:List T):Option T:=match l with|x::rest=>jV r x rest| []=>none
theorem aEl{r:Bool}{args:List aX}(H:d<n):aj E call n (⟨some d,.mm r args,none⟩::os) ⟨fr,lh,sh⟩=(mmV r (args.map (rd fr))).bind fun v=>aj E call n os ⟨cQ fr d v,lh,sh⟩:=by
 refine dP (d:=some d) (by rfl) H ?_
 unfold one mmV
 simp only[bC]
 cases hx:args.map (rd fr)with
 |nil=>rfl
 |cons x D=>exact jz
def FO(x:T):Option T:=match x with| .vp cs=>some (.vp cs)| .ptr sp k g off=>some (.ptr sp k g off)| .fn f a c=>some (.fn f a c)|_=>none
theorem NS{x:aX}:one fr lh sh d (.nck x)=(FO (rd fr x)).map fun v=>(v,[]):=by
 unfold one FO
 simp only[bC]
 cases hx:rd fr x <;> rfl
theorem axg{x:aX}(r:d<n):aj E call n (⟨some d,.nck x,none⟩::os) ⟨fr,lh,sh⟩=(FO (rd fr x)).bind fun v=>aj E call n os ⟨cQ fr d v,lh,sh⟩:=
 dP (d:=some d) (by rfl) r NS
theorem alp{x:aX}:aj E call n (⟨none,.nck x,none⟩::os) ⟨fr,lh,sh⟩=(FO (rd fr x)).bind fun v=>aj E call n os ⟨fr,lh,sh⟩:=
 dP (d:=none) (by rfl) trivial NS
def ldE(e:ah)(g off m:Nat)(r:Bool):Option T:=
 match e with
 |⟨D,.cells cs _ _⟩=>if D=g then part cs off m r else none
 |_=>none
theorem Qv{g r off m wm:Nat}{D bx:Bool}{cs:List T}:ldE ⟨r,.cells cs wm bx⟩ g off m D=if r=g then part cs off m D else none:=rfl
def ldV(lh:aB ah)(sh:List ah)(x:T)(m:Nat)(r:Bool):Option T:=
 match x with
 | .vp cs=>part cs 0 m r
 | .ptr .L k g off=>ldE (ab lh k) g off m r
 | .ptr .S k g off=>ldE (aE sh k) g off m r
 |_=>none
theorem V8{α:Type}{o:Option α}{h:Sp→Nat→ah}{nx:Nat}:(Q.of o).run h nx=o:=by cases o <;> rfl
theorem ldQ{h:Sp→Nat→ah}{nx g off m:Nat}{r:Bool}(e:ah):Q.run h nx (if e.g=g then(match e.ob with| .cells cs _ _=>Q.of (part cs off m r)|_=> .fail)else .fail)=ldE e g off m r:=by
 obtain⟨H,ob⟩:=e
 unfold ldE
 by_cases D:H=g
 ·cases ob <;> simp only[D,if_true] <;> first|rfl|exact V8
 ·cases ob <;> simp only[D,if_false] <;> rfl
theorem NT{x:T}{m:Nat}{r:Bool}:(Fo x m r).run (St.mk fr lh sh).get sh.length=ldV lh sh x m r:=by
 unfold Fo ldV
 cases x <;> try rfl
 ·exact V8
 ·rename_i sp k g off
  cases sp
  ·exact ldQ (ab lh k)
  ·exact ldQ (aE sh k)
theorem bq{α β:Type}{h:Sp→Nat→ah}{nx:Nat}{f:α→Q β}: ∀(q:Q α),(q.bind f).run h nx=(q.run h nx).bind fun a=>(f a).run h nx
 | .ret a=>rfl
 | .fail=>rfl
 | .rd sp k g=>bq (g (h sp k))
 | .new g=>bq (g nx)
theorem aEm{x:aX}{m:Nat}{r:Bool}(D:d<n):aj E call n (⟨some d,.ld x m r,none⟩::os) ⟨fr,lh,sh⟩=(ldV lh sh (rd fr x) m r).bind fun v=>aj E call n os ⟨cQ fr d v,lh,sh⟩:=by
 refine dP (d:=some d) (by rfl) D ?_
 unfold one
 simp only[bC,bq,NT]
 cases ldV lh sh (rd fr x) m r <;> rfl
theorem adf{z:List T}(r:d<n):aj E call n (⟨some d,.alloc z false,none⟩::os) ⟨fr,lh,sh⟩=aj E call n os ⟨cQ fr d (.ptr .L d ((ab lh d).g+1) 0),iK lh d ⟨(ab lh d).g+1,.cells z 0 true⟩,sh⟩:=by
 rw[kJ (by rfl) (show CU n (some d)from r)];rfl
theorem axh{x:aX}(r:d<n)(D:noTup (rd fr x)=true):aj E call n (⟨some d,.box x false,none⟩::os) ⟨fr,lh,sh⟩=aj E call n os ⟨cQ fr d (.ptr .L d ((ab lh d).g+1) 0),iK lh d ⟨(ab lh d).g+1,.cells (cellsOf (rd fr x)) 0 true⟩,sh⟩:=by
 rw[kJ (by rfl) (show CU n (some d)from r)]
 unfold one
 simp only[bC,D]
 rfl
theorem adg(r:d<n):aj E call n (⟨some d,.mkmap false,none⟩::os) ⟨fr,lh,sh⟩=aj E call n os ⟨cQ fr d (.mp .L d ((ab lh d).g+1)),iK lh d ⟨(ab lh d).g+1,.map [] [] false⟩,sh⟩:=by
 rw[kJ (by rfl) (show CU n (some d)from r)];rfl
def Qw(x:T)(bytes:Nat):Option Nat:=match asNat x with|some m=>if m*bytes≤roomy∧m≤roomy then some m else none|none=>none
theorem alr{z:List T}{bytes:Nat}{x:aX}(r:d<n):aj E call n (⟨some d,.mksl z bytes x false,none⟩::os) ⟨fr,lh,sh⟩=
  (Qw (rd fr x) bytes).bind fun m=>aj E call n os ⟨cQ fr d (.isl .L d ((ab lh d).g+1) 0 m z.length),iK lh d ⟨(ab lh d).g+1,.cells (repl z m) 0 (SN z)⟩,sh⟩:=by
 rw[kJ (by rfl) (show CU n (some d)from r)]
 unfold one Qw
 simp only[bC]
 cases asNat (rd fr x)with
 |none=>rfl
 |some m=>
  simp only[Bool.and_eq_true,decide_eq_true_eq]
  split <;> rfl
end
end Go.Ev
namespace Go.Ev
open Go
def froz1:T→Bool
 | .b _| .i .. | .s _| .nilsl| .sl .. | .nilptr| .vp _| .nilmp| .vm .. | .nilfn=>true
 |_=>false
def froz:T→Bool
 | .agg cs=>cs.all froz1
 | .tup cs=>cs.all froz1
 | .fn _ a c=>a.all froz1&&c.all froz1
 |t=>froz1 t
theorem kK{keep:Bool}{n:Nat}{t:T}(h:froz1 t=true):fz keep (n+1) t= .ret (t,[]):=by
 cases t <;> first|rfl|(simp[froz1]at h)
theorem jd{keep:Bool}{n:Nat}: ∀(ts:List T),ts.all froz1=true→bn (fz keep (n+1)) ts= .ret (ts,[])
 | [],_=>rfl
 |t::ts,h=>by
  simp_all[List.all_cons,Bool.and_eq_true,bn,kK,jd,Q.bind,List.append_nil]
theorem FQ{keep:Bool}{n:Nat}{cs:List T}:fz keep (n+1) (.agg cs)=(bn (fz keep n) cs).bind fun q=> .ret (.agg q.1,q.2):=rfl
theorem LB{keep:Bool}{n:Nat}{cs:List T}:fz keep (n+1) (.tup cs)=(bn (fz keep n) cs).bind fun q=> .ret (.tup q.1,q.2):=rfl
theorem V9{keep:Bool}{n f:Nat}{a c:List T}:fz keep (n+1) (.fn f a c)=(bn (fz keep n) a).bind fun p=>(bn (fz keep n) c).bind fun q=> .ret (.fn f p.1 q.1,p.2++q.2):=rfl
theorem ky{keep:Bool}{n:Nat}{t:T}(h:froz t=true):fz keep (n+2) t= .ret (t,[]):=by
 cases t with
 |agg cs=>simp only[froz]at h;rw[FQ,jd cs h];rfl
 |tup cs=>simp only[froz]at h;rw[LB,jd cs h];rfl
 |fn f a c=>simp only[froz,Bool.and_eq_true]at h;rw[V9,jd a h.1,jd c h.2];rfl
 |_=>exact kK h
def fzV(lh:aB ah)(sh:List ah)(keep:Bool)(v:T):Option (T×List Up):=(fz keep aL v).run (St.mk .nil lh sh).get sh.length
def zD(lh:aB ah)(sh:List ah)(keep:Bool)(r:List T):Option (List T×List Up):=(bn (fz keep aL) r).run (St.mk .nil lh sh).get sh.length
section
variable{lh:aB ah}{sh:List ah}{keep:Bool}
theorem od{v:T}(h:froz v=true):fzV lh sh keep v=some (v,[]):=by
 unfold fzV aL;rw[ky h];rfl
theorem zI:zD lh sh keep []=some ([],[]):=rfl
theorem l7{v:T}{r:List T}:zD lh sh keep (v::r)=(fzV lh sh keep v).bind fun p=>(zD lh sh keep r).bind fun q=>some (p.1::q.1,p.2++q.2):=by
 unfold zD fzV
 rw[bn,bq]
 congr 1
 funext p
 rw[bq]
 rfl
theorem Bx{r:List T}(h:r.all froz=true):zD lh sh keep r=some (r,[]):=by
 induction r with
 |nil=>rfl
 |cons v r ih=>
  simp_all[List.all_cons,Bool.and_eq_true,l7,od]
def Qx(m:Nat)(lh:aB ah)(sh:List ah)(k:Nat)(e:ah)(g off len sz:Nat):Option (T×List Up):=
 match e with
 |⟨r,.cells cs _ false⟩=>if r=g∧off+len*sz≤cs.length then some (.sl ((cs.drop off).take (len*sz)) len false,[(.L,k,⟨g,.cells cs cs.length false⟩)])else none
 |⟨r,.cells cs _ true⟩=>if r=g∧off+len*sz≤cs.length then((bn (fz false m) ((cs.drop off).take (len*sz))).run (St.mk .nil lh sh).get sh.length).map fun q=>(.sl q.1 len false,q.2++ [(.L,k,⟨g,.cells cs cs.length true⟩)])else none
 |_=>none
theorem axi{m k g off len sz:Nat}(e:ah):Q.run (St.mk .nil lh sh).get sh.length (if e.g=g then(match e.ob with
        | .cells cs _ false=>if off+len*sz≤cs.length then .ret (T.sl ((cs.drop off).take (len*sz)) len false,[(Sp.L,k,(⟨g,.cells cs cs.length false⟩:ah))])else .fail
        | .cells cs _ true=>if off+len*sz≤cs.length then(bn (fz false m) ((cs.drop off).take (len*sz))).bind fun q=> .ret (T.sl q.1 len false,q.2++ [(Sp.L,k,(⟨g,.cells cs cs.length true⟩:ah))])else .fail
        |_=> .fail)else .fail)=Qx m lh sh k e g off len sz:=by
 obtain⟨H,ob⟩:=e
 unfold Qx
 by_cases r:H=g
 ·cases ob with
  |cells cs wm bx=>
   cases bx
   ·grind [Q.run]
   ·by_cases D:off+len*sz≤cs.length
    ·simp only[r,D,if_true,and_self,bq]
     cases (bn (fz false m) ((cs.drop off).take (len*sz))).run (St.mk .nil lh sh).get sh.length <;> rfl
    ·simp[r,D,Q.run]
  |_=>simp[r,Q.run]
 grind [Q.run]
theorem FR{k g off len sz:Nat}:fzV lh sh keep (.isl .L k g off len sz)=Qx 7 lh sh k (ab lh k) g off len sz:=by
 cases keep <;> exact axi (ab lh k)
def mpV(k:Nat)(e:ah)(g:Nat):Option (T×List Up):=
 match e with
 |⟨D,.map ks r _⟩=>if D=g then some (.vm ks r,[(.L,k,⟨g,.map ks r true⟩)])else none
 |_=>none
theorem mpQ{h:Sp→Nat→ah}{nx k g:Nat}(e:ah):Q.run h nx (if e.g=g then(match e.ob with
        | .map ks r _=> .ret (T.vm ks r,[(Sp.L,k,(⟨g,.map ks r true⟩:ah))])
        |_=> .fail)else .fail)=mpV k e g:=by
 obtain⟨D,ob⟩:=e
 unfold mpV
 grind [Q.run]
theorem als{k g:Nat}:fzV lh sh keep (.mp .L k g)=mpV k (ab lh k) g:=by
 cases keep <;> exact mpQ (ab lh k)
theorem Qy{k g off len sz:Nat}:fzV lh sh true (.isl .S k g off len sz)=some (.isl .S k g off len sz,[]):=rfl
theorem Qz{k g off:Nat}:fzV lh sh true (.ptr .S k g off)=some (.ptr .S k g off,[]):=rfl
theorem QA{k g:Nat}:fzV lh sh true (.mp .S k g)=some (.mp .S k g,[]):=rfl
theorem adh{cs:List T}:fzV lh sh keep (.agg cs)=((bn (fz keep 7) cs).run (St.mk .nil lh sh).get sh.length).map fun q=>(.agg q.1,q.2):=by
 unfold fzV aL
 rw[FQ,bq]
 cases (bn (fz keep 7) cs).run (St.mk .nil lh sh).get sh.length <;> rfl
theorem adi{cs:List T}:fzV lh sh keep (.tup cs)=((bn (fz keep 7) cs).run (St.mk .nil lh sh).get sh.length).map fun q=>(.tup q.1,q.2):=by
 unfold fzV aL
 rw[LB,bq]
 cases (bn (fz keep 7) cs).run (St.mk .nil lh sh).get sh.length <;> rfl
end
section
variable{E:Env}{call:kg}{n:Nat}{fr:Fr}{lh:aB ah}{sh:List ah}{os:List aF}{d:Nat}
theorem l8:(St.mk fr lh sh).get=(St.mk .nil lh sh).get:=by funext sp k;cases sp <;> rfl
theorem lO: ∀(us:List Up) (lh:aB ah) (sh:List ah),(St.mk fr lh sh).ups us={(St.mk .nil lh sh).ups us with fr:=fr}
 | [],lh,sh=>rfl
 |(.L,k,e)::us,lh,sh=>lO us (iK lh k e) sh
 |(.S,k,e)::us,lh,sh=>lO us lh (aK sh k e)
def stV(lh:aB ah)(sh:List ah)(x v:T)(m:Nat):Option (aB ah×List ah):=
 match(nI x v m).run (St.mk .nil lh sh).get sh.length with
 |some (.val _ us)=>some (((St.mk .nil lh sh).ups us).lh,((St.mk .nil lh sh).ups us).sh)
 |none=>none
theorem aEn{x v:aX}{m:Nat}:aj E call n (⟨none,.st x v m,none⟩::os) ⟨fr,lh,sh⟩=(stV lh sh (rd fr x) (rd fr v) m).bind fun r=>aj E call n os ⟨fr,r.1,r.2⟩:=by
 rw[kJ (by rfl) (show CU n none from trivial)]
 grind [one,stV,bC,l8,uU,lr,lO]
def FT(lh:aB ah)(sh:List ah)(k:Nat)(e:ah)(g off:Nat)(v:T)(m:Nat):Option (aB ah×List ah):=
 match e with
 |⟨r,.cells cs wm true⟩=>if r=g∧(cellsOf v).length=m∧noTup v=true∧wm≤off∧off+m≤cs.length then some (iK lh k ⟨g,.cells (splice cs off (cellsOf v)) wm true⟩,sh)else none
 |⟨r,.cells cs wm false⟩=>if r=g∧(cellsOf v).length=m∧noTup v=true∧wm≤off∧off+m≤cs.length then
    (fzV lh sh false v).bind fun p=>if jU p.2 .L k=true∨noTup p.1=false∨(cellsOf p.1).length≠m then none else some (((St.mk .nil lh sh).ups (p.2++ [(.L,k,⟨g,.cells (splice cs off (cellsOf p.1)) wm false⟩)])).lh,((St.mk .nil lh sh).ups (p.2++ [(.L,k,⟨g,.cells (splice cs off (cellsOf p.1)) wm false⟩)])).sh)
  else none
 |_=>none
def iS(lh:aB ah)(sh:List ah):Option AV→Option (aB ah×List ah)
 |some (.val _ us)=>some (((St.mk .nil lh sh).ups us).lh,((St.mk .nil lh sh).ups us).sh)
 |none=>none
def adj(k g off m:Nat)(v:T)(e:ah):Q AV:=if e.g=g then match e.ob with
     | .cells cs wm bx=>if wm≤off&&off+m≤cs.length then
         (if bx&&Sp.L== .L then .ret (.val ba [(Sp.L,k,⟨g,.cells (splice cs off (cellsOf v)) wm bx⟩)])
         else(fz (bx&&Sp.L== .S) aL v).bind fun p=>if jU p.2 .L k|| !noTup p.1||(cellsOf p.1).length≠m then .fail else .ret (.val ba (p.2++ [(Sp.L,k,⟨g,.cells (splice cs off (cellsOf p.1)) wm bx⟩)])))
       else .fail
     |_=> .fail
    else .fail
theorem stQ{k g off m:Nat}{v:T}(e:ah)(h1:(cellsOf v).length=m)(h2:noTup v=true):iS lh sh (Q.run (St.mk .nil lh sh).get sh.length (adj k g off m v e))=FT lh sh k e g off v m:=by
 obtain⟨H,ob⟩:=e
 unfold FT adj
 by_cases I:H=g
 ·subst I
  cases ob with
  |none=>simp[Q.run,iS]
  |map ks J z=>simp[Q.run,iS]
  |cells cs wm bx=>
   by_cases r:wm≤off∧off+m≤cs.length
   ·cases bx with
    |true=>grind [Q.run,aiX,zH,iS]
    |false=>
     have D:(decide (wm≤off)&&decide (off+m≤cs.length))=true:=by simp[r.1,r.2]
     simp only[if_true,D,Bool.false_and,Bool.false_eq_true,if_false,bq]
     rw[if_pos (show True∧(cellsOf v).length=m∧noTup v=true∧wm≤off∧off+m≤cs.length from⟨trivial,h1,h2,r⟩)]
     show iS lh sh (Option.bind (fzV lh sh false v) _)=_
     cases K:fzV lh sh false v with
     |none=>rfl
     |some p=>
      simp only[Option.bind_some]
      by_cases N:(jU p.2 .L k=true∨noTup p.1=false∨(cellsOf p.1).length≠m)
      ·grind [Q.run,iS]
      simp_all[Bool.false_eq_true,Q.run,iS,Classical.byContradiction]
   grind [Bool.false_eq_true,Q.run,iS]
 grind [Q.run,iS]
theorem axk{k g off m:Nat}{v:T}:stV lh sh (.ptr .L k g off) v m=FT lh sh k (ab lh k) g off v m:=by
 by_cases h1:(cellsOf v).length=m
 ·cases h2:noTup v with
  |false=>
   unfold stV nI
   have:(decide ((cellsOf v).length≠m)|| !noTup v)=true:=by simp[h2]
   simp only[this,if_true,Q.run]
   unfold FT
   grind
  |true=>
   unfold stV nI
   have:(decide ((cellsOf v).length≠m)|| !noTup v)=false:=by simp[h1,h2]
   simp only[this,Bool.false_eq_true,if_false]
   exact stQ (ab lh k) h1 h2
 ·unfold stV nI
  have:(decide ((cellsOf v).length≠m)|| !noTup v)=true:=by simp[h1]
  simp only[this,if_true,Q.run]
  unfold FT
  grind
theorem adk{k g r off m wm:Nat}{cs:List T}{v:T}:FT lh sh k ⟨r,.cells cs wm true⟩ g off v m=if r=g∧(cellsOf v).length=m∧noTup v=true∧wm≤off∧off+m≤cs.length then some (iK lh k ⟨g,.cells (splice cs off (cellsOf v)) wm true⟩,sh)else none:=rfl
theorem adl{k g r off m wm:Nat}{cs:List T}{v:T}(D:froz v=true):FT lh sh k ⟨r,.cells cs wm false⟩ g off v m=if r=g∧(cellsOf v).length=m∧noTup v=true∧wm≤off∧off+m≤cs.length then some (iK lh k ⟨g,.cells (splice cs off (cellsOf v)) wm false⟩,sh)else none:=by
 unfold FT
 simp only[od D,Option.bind_some,jU,List.any_nil,Bool.false_eq_true,false_or]
 by_cases h:r=g∧(cellsOf v).length=m∧noTup v=true∧wm≤off∧off+m≤cs.length
 ·rw[if_pos h,if_pos h,if_neg (by rintro(hc|hc) <;> simp_all)]
  rfl
 ·grind
def slC(lh:aB ah)(sh:List ah)(sz:Nat)(x:T):Option (Nat×List T):=(cg sz x).run (St.mk .nil lh sh).get sh.length
theorem adm{sz:Nat}:slC lh sh sz .nilsl=some (0,[]):=rfl
theorem FU{sz len:Nat}{cs:List T}{ex:Bool}:slC lh sh sz (.sl cs len ex)=if cs.length=len*sz then some (len,cs)else none:=by
 unfold slC cg;simp only[];split <;> rfl
theorem axl{l:List Nat}:slC lh sh 1 (.s l)=some (l.length,l.map fun(n:Nat)=>T.i .u8 (n:Int)):=rfl
def slE(sz:Nat)(e:ah)(g off len:Nat):Option (Nat×List T):=
 match e with
 |⟨r,.cells cs _ false⟩=>if r=g∧off+len*sz≤cs.length then some (len,(cs.drop off).take (len*sz))else none
 |_=>none
theorem slQ{h:Sp→Nat→ah}{nx sz g off len:Nat}(e:ah):Q.run h nx (if e.g=g then(match e.ob with
        | .cells cs _ false=>if off+len*sz≤cs.length then .ret (len,(cs.drop off).take (len*sz))else .fail
        |_=> .fail)
   else .fail)=slE sz e g off len:=by
 obtain⟨r,ob⟩:=e
 unfold slE
 grind [Q.run]
theorem NU{sz r k g off len:Nat}:slC lh sh sz (.isl .L k g off len r)=if r=sz then slE sz (ab lh k) g off len else none:=by
 unfold slC cg
 simp only[]
 by_cases hs:r=sz
 ·simp only[if_pos hs]
  exact slQ (ab lh k)
 ·simp only[if_neg hs];rfl
def QB(lh:aB ah)(k:Nat)(e:ah)(g off len sz r bytes:Nat)(p:Nat×List T):Option (T×aB ah):=
 match e with
 |⟨D,.cells cs wm false⟩=>if r=sz∧off=0∧(len+p.1)*bytes≤roomy∧D=g∧len*sz=cs.length then some (.isl .L k (g+1) 0 (len+p.1) sz,iK lh k ⟨g+1,.cells (cs++p.2) wm false⟩)else none
 |_=>none
def By(lh:aB ah)(d sz bytes:Nat)(s:T)(p:Nat×List T):Option (T×aB ah):=
 if p.1=0 then(match s with| .nilsl| .sl .. | .isl .. =>some (s,lh)|_=>none)else
 match s with
 | .nilsl=>if p.1*bytes≤roomy then some (.isl .L d ((ab lh d).g+1) 0 p.1 sz,iK lh d ⟨(ab lh d).g+1,.cells p.2 0 false⟩)else none
 | .sl cs len true=>if cs.length=len*sz∧(len+p.1)*bytes≤roomy then some (.isl .L d ((ab lh d).g+1) 0 (len+p.1) sz,iK lh d ⟨(ab lh d).g+1,.cells (cs++p.2) 0 false⟩)else none
 | .isl .L k g off len r=>QB lh k (ab lh k) g off len sz r bytes p
 |_=>none
def aiY(k g off len sz r bytes:Nat)(p:Nat×List T)(e:ah):Q AV:=
     if e.g=g then match e.ob with
      | .cells cs wm false=>if len*sz=cs.length then .ret (.val (.isl .L k (g+1) 0 (len+p.1) sz) [(.L,k,⟨g+1,.cells (cs++p.2) wm false⟩)])else .fail
      |_=> .fail
     else .fail
theorem aEo{k g off len sz D bytes:Nat}{p:Nat×List T}(e:ah)(h1:D=sz∧off=0∧(len+p.1)*bytes≤roomy):
  ((lr (Q.run (St.mk .nil lh sh).get sh.length (aiY k g off len sz D bytes p e))).bind fun r=>aj E call n os {(St.mk fr lh sh).ups r.2 with fr:=cQ fr d r.1})=
    (QB lh k e g off len sz D bytes p).bind fun q=>aj E call n os ⟨cQ fr d q.1,q.2,sh⟩:=by
 obtain⟨H,ob⟩:=e
 unfold aiY QB
 by_cases I:H=g
 ·cases ob with
  |cells cs wm bx=>
   cases bx
   ·by_cases J:len*sz=cs.length
    ·simp only[I,J,if_true,Q.run,lr,h1,and_self,Option.bind_some]
     rfl
    ·grind [Q.run,lr]
   ·grind [Q.run,lr]
  |_=>grind [Q.run,lr]
 grind [Q.run,lr]
theorem axm{sz bytes:Nat}{s x:aX}(D:d<n)(hs: ∀k g off len sz,rd fr s≠ .isl .S k g off len sz):aj E call n (⟨some d,.app sz bytes s x false false,none⟩::os) ⟨fr,lh,sh⟩=
  (slC lh sh sz (rd fr x)).bind fun p=>(By lh d sz bytes (rd fr s) p).bind fun q=>aj E call n os ⟨cQ fr d q.1,q.2,sh⟩:=by
 rw[kJ (by rfl) (show CU n (some d)from D)]
 unfold one slC
 simp only[bC,jr,bq,l8]
 cases hx:(cg sz (rd fr x)).run (St.mk .nil lh sh).get sh.length with
 |none=>rfl
 |some p=>
  simp only[Option.bind_some]
  unfold By
  by_cases r:p.1=0
  ·simp only[if_pos r]
   cases LC:rd fr s <;> rfl
  ·simp only[if_neg r]
   cases LC:rd fr s <;> try rfl
   ·simp only[]
    split <;> rfl
   ·rename_i cs len ex
    cases ex
    ·rfl
    ·simp only[Bool.and_eq_true,decide_eq_true_eq]
     split <;> rfl
   ·rename_i sp k g off len H
    cases sp
    ·simp only[Bool.and_eq_true,decide_eq_true_eq]
     by_cases h1:(H=sz∧off=0)∧(len+p.1)*bytes≤roomy
     ·simp only[if_pos h1]
      exact aEo (ab lh k) ⟨h1.1.1,h1.1.2,h1.2⟩
     ·simp only[if_neg h1,Q.run,lr]
      unfold QB
      grind
    ·grind
def tu(sz:Nat)(x:T)(l h:Nat):Option T:=
 match x with
 | .nilsl=>if l=0∧h=0 then some .nilsl else none
 | .sl cs len ex=>if l≤h∧h≤len∧cs.length=len*sz then some (.sl ((cs.drop (l*sz)).take ((h-l)*sz)) (h-l) (ex&&decide (h=len)))else none
 | .isl sp k g off len r=>if l≤h∧h≤len∧r=sz then some (if l=h then(if sp= .S∧h=0∧off=0 then .isl sp k g 0 0 sz else .sl [] 0 false)else .isl sp k g (off+l*sz) (h-l) sz)else none
 |_=>none
def alu(fr:Fr)(sz:Nat)(x:T)(l h:Option aX):Option T:=
 (lF x).bind fun m=>(eY (rd fr) 0 l).bind fun l=>(eY (rd fr) m h).bind fun h=>tu sz x l h
theorem QC{sz l h nx:Nat}{x:T}{r:Sp→Nat→ah}:(xO sz x l h).run r nx=tu sz x l h:=by
 unfold xO tu
 cases x <;> try rfl
 ·simp only[Bool.and_eq_true,decide_eq_true_eq];split <;> rfl
 ·simp only[Bool.and_eq_true,decide_eq_true_eq,and_assoc];split <;> rfl
 ·simp only[Bool.and_eq_true,decide_eq_true_eq,and_assoc];split <;> rfl
theorem axn{sz:Nat}{x:aX}{l h:Option aX}(r:d<n):aj E call n (⟨some d,.slV sz x l h none,none⟩::os) ⟨fr,lh,sh⟩=(alu fr sz (rd fr x) l h).bind fun v=>aj E call n os ⟨cQ fr d v,lh,sh⟩:=by
 refine dP (d:=some d) (by rfl) r ?_
 unfold one alu
 simp only[bC]
 cases lF (rd fr x)with
 |none=>rfl
 |some m=>
  simp only[Option.bind_some]
  cases eY (rd fr) 0 l with
  |none=>rfl
  |some l=>
   cases eY (rd fr) m h with
   |none=>rfl
   |some h=>
    simp only[bq,QC,Option.bind_some]
    cases tu sz (rd fr x) l h <;> rfl
def lkE(e:ah)(g:Nat)(r:EK)(k z:T)(D:Bool):Option T:=
 match e with
 |⟨H,.map ks I _⟩=>if H=g then jb r ks I k z D else none
 |_=>none
def lkV(lh:aB ah)(sh:List ah)(r:EK)(m k z:T)(D:Bool):Option T:=
 match m with
 | .nilmp=>if isKey r k=true then some (if D=true then .tup [z,.b false]else z)else none
 | .vm ks H=>jb r ks H k z D
 | .mp .L kk g=>lkE (ab lh kk) g r k z D
 | .mp .S kk g=>lkE (aE sh kk) g r k z D
 |_=>none
theorem lkQ{h:Sp→Nat→ah}{nx g:Nat}{r:EK}{k z:T}{D:Bool}(e:ah):lr (Q.run h nx (if e.g=g then(match e.ob with| .map ks vs _=>val (jb r ks vs k z D)|_=> .fail)else .fail))=(lkE e g r k z D).map fun v=>(v,[]):=by
 obtain⟨I,ob⟩:=e
 unfold lkE
 by_cases H:I=g
 ·cases ob <;> simp only[H,if_true] <;> first|rfl|exact jz
 ·cases ob <;> simp only[H,if_false] <;> rfl
theorem aEq{r:EK}{m k:aX}{z:T}{D:Bool}(H:d<n):aj E call n (⟨some d,.lk r m k z D,none⟩::os) ⟨fr,lh,sh⟩=(lkV lh sh r (rd fr m) (rd fr k) z D).bind fun v=>aj E call n os ⟨cQ fr d v,lh,sh⟩:=by
 refine dP (d:=some d) (by rfl) H ?_
 unfold one lkV
 simp only[bC]
 cases I:rd fr m <;> try rfl
 ·simp only[];split <;> rfl
 ·exact jz
 ·rename_i sp kk g
  cases sp
  ·exact lkQ (ab lh kk)
  ·exact lkQ (aE sh kk)
def muE(lh:aB ah)(kk:Nat)(e:ah)(g:Nat)(r:EK)(k v:T):Option (aB ah):=
 match e with
 |⟨D,.map ks H false⟩=>if D=g∧isKey r k=true then(lU r k v ks H).map fun q=>iK lh kk ⟨g,.map q.1 q.2 false⟩else none
 |_=>none
def adn(kk g:Nat)(r:EK)(k v:T)(e:ah):Q AV:=if e.g=g&&isKey r k then match e.ob with
      | .map ks D false=>(fz false aL v).bind fun p=>match lU r k p.1 ks D with
        |some q=>if jU p.2 .L kk then .fail else .ret (.val ba (p.2++ [(.L,kk,⟨g,.map q.1 q.2 false⟩)]))
        |none=> .fail
      |_=> .fail
     else .fail
theorem muQ{kk g:Nat}{D:EK}{k v:T}(e:ah)(J:froz v=true):((lr (Q.run (St.mk fr lh sh).get sh.length (adn kk g D k v e))).bind fun r=>aj E call n os {(St.mk fr lh sh).ups r.2 with fr:=fr})=
  (muE lh kk e g D k v).bind fun K=>aj E call n os ⟨fr,K,sh⟩:=by
 obtain⟨I,ob⟩:=e
 unfold adn muE
 by_cases H:I=g∧isKey D k=true
 ·have:(decide (I=g)&&isKey D k)=true:=by simp[H.1,H.2]
  simp only[this,if_true]
  cases ob with
  |none=>rfl
  |cells cs wm bx=>rfl
  |map ks N z=>
   cases z with
   |true=>rfl
   |false=>
    simp only[if_pos H]
    unfold aL
    rw[ky J]
    simp only[Q.bind]
    cases lU D k v ks N with
    |none=>rfl
    |some q=>simp only[jU,List.any_nil,Bool.false_eq_true,if_false,Q.run,List.nil_append];rfl
 grind [Bool.false_eq_true,Q.run,lr]
theorem axo{r:EK}{m k v:aX}{kk g:Nat}(D:rd fr m= .mp .L kk g)(H:froz (rd fr v)=true):aj E call n (⟨none,.mu r m k v,none⟩::os) ⟨fr,lh,sh⟩=(muE lh kk (ab lh kk) g r (rd fr k) (rd fr v)).bind fun I=>aj E call n os ⟨fr,I,sh⟩:=by
 rw[kJ (by rfl) (show CU n none from trivial)]
 unfold one
 simp only[bC,D]
 exact muQ (ab lh kk) H
def muV(lh:aB ah)(r:EK)(m k v:T):Option (aB ah):=
 match m with
 | .mp .L kk g=>muE lh kk (ab lh kk) g r k v
 |_=>none
theorem aEs{r:EK}{m k v:aX}(I: ∀kk g,rd fr m≠ .mp .S kk g)(D:froz (rd fr v)=true):aj E call n (⟨none,.mu r m k v,none⟩::os) ⟨fr,lh,sh⟩=(muV lh r (rd fr m) (rd fr k) (rd fr v)).bind fun H=>aj E call n os ⟨fr,H,sh⟩:=by
 cases h:rd fr m with
 |mp sp kk g=>
  cases sp with
  |L=>rw[axo h D];rfl
  |S=>grind
 |_=>
  rw[kJ (by rfl) (show CU n none from trivial)]
  unfold one
  simp only[bC,h]
  rfl
def Wa(z:List T)(len:Nat)(D:List Nat)(r:List T):Option T:=
 if(r.all fun v=>(cellsOf v).length=z.length&&noTup v)=true then(mW (repl z len) ((D.map fun i=>i*z.length).zip (r.map cellsOf))).map fun cs=> .sl cs len true else none
theorem axp{z:List T}{len:Nat}{r:List (Nat×aX)}(D:d<n):aj E call n (⟨some d,.bsl z len r,none⟩::os) ⟨fr,lh,sh⟩=
  (zD lh sh false (r.map fun p=>rd fr p.2)).bind fun q=>(Wa z len (r.map (·.1)) q.1).bind fun v=>aj E call n os {(St.mk fr lh sh).ups q.2 with fr:=cQ fr d v}:=by
 rw[kJ (by rfl) (show CU n (some d)from D)]
 unfold one zD Wa
 simp only[bC,bq,l8]
 cases (bn (fz false aL) (r.map fun p=>rd fr p.2)).run (St.mk .nil lh sh).get sh.length with
 |none=>rfl
 |some q=>
  simp only[Option.bind_some]
  have e:(r.map (·.1)).map (fun i=>i*z.length)=r.map fun p=>p.1*z.length:=by rw[List.map_map];rfl
  rw[e]
  split
  ·cases mW (repl z len) ((r.map fun p=>p.1*z.length).zip (q.1.map cellsOf)) <;> rfl
  ·rfl
theorem LD{d:Option Nat}{op:mV}{f:Nat}{args:List T}(hc:bI (rd fr) op=some (some (f,args)))(D:CU n d):
  aj E call n (⟨d,op,none⟩::os) ⟨fr,lh,sh⟩=(bB E call (d.getD 0) ⟨fr,lh,sh⟩ f args).bind fun r=>aj E call n os ⟨uU fr d r.1,r.2.lh,r.2.sh⟩:=by
 simp only[aj,br,dC,hc]
 cases bB E call (d.getD 0) ⟨fr,lh,sh⟩ f args with
 |none=>rfl
 |some r=>
  simp only[Option.bind_some]
  cases d with
  |none=>rfl
  |some d=>simp only[iI,if_pos (show d<n from D),uU,Option.map_some]
theorem alv{f:Nat}{as:List aX}(D:d<n):aj E call n (⟨some d,.callf f as,none⟩::os) ⟨fr,lh,sh⟩=(bB E call d ⟨fr,lh,sh⟩ f (as.map (rd fr))).bind fun r=>aj E call n os ⟨cQ fr d r.1,r.2.lh,r.2.sh⟩:=
 LD (d:=some d) rfl D
theorem ado{f:Nat}{as:List aX}:aj E call n (⟨none,.callf f as,none⟩::os) ⟨fr,lh,sh⟩=(bB E call 0 ⟨fr,lh,sh⟩ f (as.map (rd fr))).bind fun r=>aj E call n os ⟨fr,r.2.lh,r.2.sh⟩:=
 LD (d:=none) rfl trivial
def FV(E:Env)(call:kg)(d:Nat)(st:St)(f:T)(args:List T):Option (T×St):=
 match f with
 | .fn f a c=>bB E call d st f (a++args++c)
 |_=>none
theorem adp{f:aX}{as:List aX}(D:d<n):aj E call n (⟨some d,.callv f as,none⟩::os) ⟨fr,lh,sh⟩=(FV E call d ⟨fr,lh,sh⟩ (rd fr f) (as.map (rd fr))).bind fun r=>aj E call n os ⟨cQ fr d r.1,r.2.lh,r.2.sh⟩:=by
 unfold FV
 cases H:rd fr f with
 |fn I a c=>exact LD (d:=some d) (by simp only[bI,H]) D
 |_=>simp_all[aj,br,dC,bI]
theorem HU{D:Nat}{af:ai}{f:Nat}{args:List T}(H:E.fn f=some af)(I:af.eff=false)(J:af.own=none):bB E call D ⟨fr,lh,sh⟩ f args=
  (zD lh sh false args).bind fun q=>(call f q.1 []).bind fun r=>some (r.1,if scalar r.1=true then⟨fr,lh,sh⟩else(St.mk fr lh sh).ups q.2):=by
 grind [bB,zD,l8,Bool.false_eq_true]
theorem HT{D:Nat}{af:ai}{f:Nat}{args:List T}(H:E.fn f=some af)(I:af.eff=false)(J:af.own=none)(K:args.all froz=true):bB E call D ⟨fr,lh,sh⟩ f args=
  (call f args []).bind fun r=>some (r.1,⟨fr,lh,sh⟩):=by
 grind [HU,Bx,zH]
theorem Wb{D:Nat}{af:ai}{f j:Nat}{args:List T}(H:E.fn f=some af)(I:af.eff=false)(J:af.own=some j):bB E call D ⟨fr,lh,sh⟩ f args=
  (zD lh sh false args).bind fun q=>(call f q.1 []).bind fun r=>tg D j r.1 ⟨fr,lh,sh⟩ q.2:=by
 grind [bB,zD,l8,Bool.false_eq_true]
theorem Uz{D:Nat}{af:ai}{f:Nat}{args:List T}(H:E.fn f=some af)(I:af.eff=true):bB E call D ⟨fr,lh,sh⟩ f args=
  (zD lh sh true args).bind fun q=>(call f q.1 ((St.mk fr lh sh).ups q.2).sh).bind fun r=>some (r.1,{(St.mk fr lh sh).ups q.2 with sh:=r.2}):=by
 unfold bB zD
 simp only[H,I,l8]
 cases (bn (fz true aL) args).run (St.mk .nil lh sh).get sh.length with
 |none=>rfl
 |some q=>
  simp only[if_true,Option.bind_some]
  cases call f q.1 ((St.mk fr lh sh).ups q.2).sh <;> rfl
theorem Wc{d:Option Nat}{op:mV}{j:Nat}{w:Bool}(h:aa fr j= .b w):aj E call n (⟨d,op,some (j,w)⟩::os) ⟨fr,lh,sh⟩=aj E call n (⟨d,op,none⟩::os) ⟨fr,lh,sh⟩:=by
 grind [aj,br]
theorem Bz{d:Option Nat}{op:mV}{j:Nat}{w:Bool}(r:CU n d)(h:aa fr j= .b (!w)):aj E call n (⟨d,op,some (j,w)⟩::os) ⟨fr,lh,sh⟩=aj E call n os ⟨uU fr d ba,lh,sh⟩:=by
 simp only[aj,br,h]
 rw[if_neg (by cases w <;> simp)]
 cases d with
 |none=>rfl
 |some d=>simp only[iI,if_pos (show d<n from r),uU,Option.map_some]
theorem NV{d:Option Nat}{op:mV}{j:Nat}{w:Bool}(r:CU n d)(h:aa fr j=ba):aj E call n (⟨d,op,some (j,w)⟩::os) ⟨fr,lh,sh⟩=aj E call n os ⟨uU fr d ba,lh,sh⟩:=by
 simp only[aj,br,h,ba]
 cases d with
 |none=>rfl
 |some d=>simp only[iI,if_pos (show d<n from r),uU,Option.map_some]
theorem axq{bw:List FP}{st:St}:aM E call n [] bw st=some st:=rfl
end
section
variable{E:Env}{n:Nat}{fr:Fr}{lh:aB ah}{sh:List ah}
def aiZ(t:T)(x y:Option (Out×St)):Option (Out×St):=match t with| .b c=>if c=true then x else y|_=>none
theorem Wd{c:aX}{a b:ak}:DC E n (.cond c a b) ⟨fr,lh,sh⟩=aiZ (rd fr c) (DC E n a ⟨fr,lh,sh⟩) (DC E n b ⟨fr,lh,sh⟩):=by
 rw[ac5,dC]
 unfold aiZ
 grind
theorem andThen_ite{c:Prop}[Decidable c]{x y:Option (Out×St)}{f:St→Option (Out×St)}:andThen (if c then x else y) f=if c then andThen x f else andThen y f:=by split <;> rfl
theorem QD{c:Prop}[Decidable c]{id:Nat}{x y:Option (Out×St)}:yf id (if c then x else y)=if c then yf id x else yf id y:=by split <;> rfl
theorem adq{α β:Type}{c:Prop}[Decidable c]{x y:Option α}{f:α→β}:(if c then x else y).map f=if c then x.map f else y.map f:=by split <;> rfl
theorem We{α β:Type}{c:Prop}[Decidable c]{x y:Option α}{f:α→Option β}:(if c then x else y).bind f=if c then x.bind f else y.bind f:=by split <;> rfl
def BA(fr:Fr)(lh:aB ah)(sh:List ah):List tf→Option (List T)
 | []=>some []
 | .tmp t::rs=>(BA fr lh sh rs).map fun r=>aa fr t::r
 | .cell t m D::rs=>(ldV lh sh (aa fr t) m D).bind fun v=>(BA fr lh sh rs).map fun r=>v::r
theorem lP: ∀rs,jc ⟨fr,lh,sh⟩ rs=BA fr lh sh rs
 | []=>rfl
 | .tmp t::rs=>by
   rw[jc,BA,lP rs]
   simp only[H7]
   cases BA fr lh sh rs <;> rfl
 | .cell t m r::rs=>by
   rw[jc,BA,lP rs]
   simp only[H7,NT]
   cases ldV lh sh (aa fr t) m r <;> cases BA fr lh sh rs <;> rfl
def QE(lh:aB ah)(sh:List ah)(r:Bool)(vs:List T):Option (T×List ah):=
 (fzV lh sh r (match vs with| [v]=>v|vs=> .tup vs)).map fun p=>(p.1,((St.mk .nil lh sh).ups p.2).sh)
theorem wS{r:Bool}{D:List T}:answer r D ⟨fr,lh,sh⟩=QE lh sh r D:=by
 unfold answer QE fzV
 grind [l8,lO]
end
theorem wU{fr r:Fr}{n:Nat}{d:Option Nat}{v:T}(h:iI fr n d v=some r){s:Nat}(hs:some s≠d):aa r s=aa fr s:=by
 cases d with
 |none=>grind [iI]
 |some d=>
  grind [iI,V6]
theorem yg{E:Env}{call:kg}{n:Nat}{o:aF}{st H:St}(h:br E call n o st=some H){s:Nat}(hs:some s≠o.d):aa H.fr s=aa st.fr s:=by
 have J: ∀H,(match bI st.rho o.op with
  |some (some I)=>match bB E call (o.d.getD 0) st I.1 I.2 with
   |some r=>(iI st.fr n o.d r.1).map fun fr=>{r.2 with fr}
   |none=>none
  |some none=>none
  |none=>match(bC (o.d.getD 0) st.rho o.op).run st.get st.sh.length with
   |some (.val v ups)=>(iI st.fr n o.d v).map fun fr=>{st.ups ups with fr}
   |none=>none)=some H→aa H.fr s=aa st.fr s:=by
  intro H D
  split at D
  ·split at D
   ·simp only[Option.map_eq_some_iff]at D
    obtain⟨fr,h1,rfl⟩:=D
    exact wU h1 hs
   ·cases D
  ·cases D
  ·split at D
   ·simp only[Option.map_eq_some_iff]at D
    obtain⟨fr,h1,rfl⟩:=D
    exact wU h1 hs
   ·cases D
 grind [br,Option.map_eq_some_iff,wU]
theorem pn{E:Env}{call:kg}{n:Nat}: ∀(os:List aF) {st r:St},aj E call n os st=some r→ ∀s,s∉wG os→aa r.fr s=aa st.fr s
 | [],st,r,h,s,_=>by cases h;rfl
 |o::os,st,r,h,s,hs=>by
  simp only[aj]at h
  cases H:br E call n o st with
  |none=>grind
  |some J=>
   simp only[H]at h
   have h1:s∉wG os:=fun D=>hs (by
    unfold wG at D ⊢
    rw[List.filterMap_cons]
    split
    ·exact D
    ·exact List.mem_cons_of_mem _ D)
   have h2:some s≠o.d:=fun I=>hs (by
    unfold wG
    rw[List.filterMap_cons]
    rw[←I]
    exact List.mem_cons_self)
   rw[pn os h s h1,yg H h2]
theorem yh{E:Env}{call:kg}{n:Nat}: ∀(os:List (List Nat×aF)) {bw:List FP} {st r:St},aM E call n os bw st=some r→ ∀s,s∉wG (os.map (·.2))→aa r.fr s=aa st.fr s
 | [],bw,st,r,h,s,_=>by cases h;rfl
 |(u,o)::os,bw,st,r,h,s,hs=>by
  simp only[aM]at h
  split at h
  ·cases h
  ·split at h
   ·cases H:br E call n o st with
    |none=>grind
    |some J=>
     simp only[H]at h
     have h1:s∉wG (os.map (·.2)):=fun D=>hs (by
      unfold wG at D ⊢
      rw[List.map_cons,List.filterMap_cons]
      split
      ·exact D
      ·exact List.mem_cons_of_mem _ D)
     have h2:some s≠o.d:=fun I=>hs (by
      unfold wG
      rw[List.map_cons,List.filterMap_cons]
      rw[←I]
      exact List.mem_cons_self)
     rw[yh os h s h1,yg H h2]
   ·cases h
theorem DY{f:St→Option (Out×St)}{s:Nat}(D: ∀st r,f st=some r→aa r.2.fr s=aa st.fr s): ∀(k:Nat) {st:St} {r:Out×St},iter f k st=some r→aa r.2.fr s=aa st.fr s
 |0,st,r,h=>by simp[iter]at h
 |k+1,st,r,h=>by
  simp only[iter]at h
  cases H:f st with
  |none=>grind
  |some p=>
   rw[H]at h
   obtain⟨o,I⟩:=p
   have h1:=D _ _ H
   cases o with
   |nrm=>rw[DY D k h];exact h1
   |ext id=>grind
   |ret=>grind
theorem adr{ks:List Nat}{t u:St}{k:Nat}(h:k∉ks):aa (nW ks t u).fr k=aa t.fr k:=by
 show aa (uv ks t.fr) k=_
 rw[oa,if_neg h]
theorem kM{E:Env}{call:kg}{fl n:Nat}: ∀(code:ak) {st:St} {r:Out×St},gH E call fl n code st=some r→ ∀s,s∉jh code→aa r.2.fr s=aa st.fr s
 | .skip,st,r,h,s,_=>by cases h;rfl
 | .region ops,st,r,h,s,hs=>by
   simp only[gH,Option.map_eq_some_iff]at h
   obtain⟨a,h1,rfl⟩:=h
   exact pn ops h1 s hs
 | .draws ops,st,r,h,s,hs=>by
   simp only[gH,Option.map_eq_some_iff]at h
   obtain⟨a,h1,rfl⟩:=h
   exact yh ops h1 s hs
 | .seq a b,st,r,h,s,hs=>by
   simp only[jh,List.mem_append,not_or]at hs
   simp only[gH]at h
   cases D:gH E call fl n a st with
   |none=>grind
   |some p=>
    rw[D]at h
    obtain⟨o,I⟩:=p
    have h1:=kM a D s hs.1
    cases o with
    |nrm=>rw[kM b h s hs.2];exact h1
    |ext id=>grind
    |ret=>grind
 | .fork os CT b,st,r,h,s,hs=>by
   simp only[gH]at h
   cases h1:aj E call n os st with
   |none=>grind
   |some I=>
    cases h2:aj E call n CT st with
    |none=>grind
    |some s2=>
     rw[h1,h2]at h
     simp only[]at h
     obtain⟨o,N⟩:=r
     obtain⟨O,U,J,V,W,rfl⟩:=tn h
     have H:s∉wG os++jh b:=hs
     rw[adr H]
     simp only[List.mem_append,not_or]at H
     rw[kM b J s H.2]
     grind [pn]
 | .cond x a b,st,r,h,s,hs=>by
   simp only[jh,List.mem_append,not_or]at hs
   simp only[gH]at h
   split at h
   ·exact kM a h s hs.1
   ·exact kM b h s hs.2
   ·cases h
 | .block id a,st,r,h,s,hs=>by
   simp only[gH]at h
   cases D:gH E call fl n a st with
   |none=>grind
   |some p=>
    rw[D]at h
    obtain⟨o,I⟩:=p
    have h1:=kM a D s hs
    grind
 | .loop a,st,r,h,s,hs=>by
   simp only[gH]at h
   exact DY (fun st r K=>kM a K s hs) fl h
 | .exit id,st,r,h,s,_=>by cases h;rfl
 | .ret,st,r,h,s,_=>by cases h;rfl
theorem dY{E:Env}{n:Nat}{code:ak}{st r:St}{o:Out}(h:DC E n code st=some (o,r))(s:Nat)(hs:(jh code).contains s=false):aa r.fr s=aa st.fr s:=by
 obtain⟨m,D⟩:=dB.1 h
 exact kM code D s (by intro hc;simp[hc]at hs)
end Go.Ev
namespace Go.Ev
open Go
def Q.calm:Q AV→Prop
 | .ret (.val _ r)=>r= []
 | .fail=>True
 | .rd _ _ f=> ∀e,(f e).calm
 | .new _=>False
theorem Q.calm_run{h:Sp→Nat→ah}{nx:Nat}: ∀(q:Q AV),q.calm→ ∀{v:T} {r:List Up},q.run h nx=some (.val v r)→r= []∧q.asks h nx=false
 | .ret (.val _ _),hc,v,r,hr=>by simp[Q.run]at hr;obtain⟨rfl,rfl⟩:=hr;exact⟨hc,rfl⟩
 | .fail,hc,v,r,hr=>by simp[Q.run]at hr
 | .rd sp k f,hc,v,r,hr=>Q.calm_run (f (h sp k)) (hc _) hr
 | .new f,hc,v,r,hr=>hc.elim
theorem iT{o:Option T}:(val o).calm:=by cases o <;> simp[val,Q.calm]
def qQ:mV→Bool
 | .mv _| .pick .. | .bin .. | .eq .. | .un .. | .cvi .. | .b2s _| .mkfn .. | .build .. | .slS .. | .fa .. | .fld .. | .ia .. | .iaA .. | .ixS .. | .ixA .. | .ext .. | .lenS _| .lenV _| .lenC _| .mm .. | .nck _| .ld .. | .lk .. | .lenM _=>true
 | .slV _ _ _ _ none=>true
 |_=>false
theorem FW{d:Nat}{ρ:aX→T}{op:mV}(h:qQ op=true):(bC d ρ op).calm∧bI ρ op=none:=by
 refine⟨?_,by cases op <;> first|rfl|(simp[qQ]at h)⟩
 cases op with
 |mv x=>exact rfl
 |pick c a b=>grind [bC,Q.calm]
 |bin op x y=>exact iT
 |eq neg k x y=>exact iT
 |un op x=>exact iT
 |cvi k x=>grind [bC,Q.calm]
 |b2s x=>simp only[bC];repeat' split
         all_goals trivial
 |mkfn f a c=>exact rfl
 |build z J=>
  simp only[bC]
  by_cases K:(J.all fun p=>decide ((cellsOf (ρ p.2.2)).length=p.2.1)&&noTup (ρ p.2.2))=true
  ·grind [iT]
  ·rw[if_neg K];trivial
 |slS x l h=>
  grind [bC,Q.calm]
 |fa x off=>
  grind [bC,Q.calm]
 |fld x off m D=>
  simp only[bC]
  split
  ·exact iT
  ·trivial
 |ia x H sz=>
  grind [bC,Q.calm]
 |iaA x H len sz=>
  grind [bC,Q.calm]
 |ixS x H=>
  grind [bC,Q.calm]
 |ixA x H len sz D=>
  simp only[bC]
  split
  ·split
   ·exact iT
   ·trivial
  ·trivial
 |ext x j=>
  simp only[bC]
  split
  ·exact iT
  ·trivial
 |lenS x=>grind [bC,Q.calm]
 |lenV x=>exact iT
 |lenC m=>exact rfl
 |mm b as=>
  simp only[bC]
  split
  ·exact iT
  ·trivial
 |nck x=>grind [bC,Q.calm]
 |ld x m D=>
  simp only[bC,Fo]
  split
  ·rename_i cs _
   cases part cs 0 m D <;> simp[Q.of,Q.bind,Q.calm]
  ·rename_i g off _
   intro e
   obtain⟨I,ob⟩:=e
   by_cases r:I=g
   ·cases ob with
    |cells cs wm bx=>
     simp only[r,if_true]
     generalize part cs _ m D=o
     cases o <;> simp[Q.of,Q.bind,Q.calm]
    |_=>simp only[r,if_true];trivial
   ·simp only[r,if_false];trivial
  ·trivial
 |lk O m k z U=>
  grind [bC,Q.calm,iT]
 |lenM x=>
  simp only[bC]
  split
  ·exact rfl
  ·exact rfl
  ·rename_i g _
   intro e
   obtain⟨I,ob⟩:=e
   by_cases r:I=g
   ·cases ob with
    |map ks V z=>simp only[r,if_true];exact rfl
    |_=>simp only[r,if_true];trivial
   ·simp only[r,if_false];trivial
  ·trivial
 |slV sz x l h N=>
  cases N with
  |some m=>simp[qQ]at h
  |none=>
   simp only[bC]
   split
   ·trivial
   ·split
    ·rename_i W X _ _ _
     unfold xO
     grind [Q.bind,Q.calm]
    ·grind
    ·trivial
 |_=>simp[qQ]at h
def Calm(fp:FP):Prop:=fp.all=false∧fp.w= []
theorem BB{x y:FP}(hx:Calm x)(D:Calm y):apart x y=true:=by
 obtain⟨a,r,w⟩:=x
 obtain⟨H,I,w'⟩:=y
 obtain⟨rfl,rfl⟩:=hx
 obtain⟨rfl,rfl⟩:=D
 simp[apart,eZ]
section
variable{E:Env}{call:kg}{n:Nat}
theorem ads{o:aF}{st H:St}(hc:qQ o.op=true)(hr:br E call n o st=some H): ∃fp,ch E call o st=some fp∧Calm fp:=by
 obtain⟨J,K⟩:=FW (d:=o.d.getD 0) (ρ:=st.rho) hc
 have N: ∀H,(match(bC (o.d.getD 0) st.rho o.op).run st.get st.sh.length with
   |some (.val v ups)=>(iI st.fr n o.d v).map fun fr=>{st.ups ups with fr}
   |none=>none)=some H→ ∃fp,(match(bC (o.d.getD 0) st.rho o.op).run st.get st.sh.length with
   |some (.val _ ups)=>if((bC (o.d.getD 0) st.rho o.op).asks st.get st.sh.length||inB st ups)=true then some (⟨(bC (o.d.getD 0) st.rho o.op).asks st.get st.sh.length,(bC (o.d.getD 0) st.rho o.op).log st.get st.sh.length,dg ups⟩:FP)else none
   |none=>none)=some fp∧Calm fp:=by
  intro H h
  cases I:(bC (o.d.getD 0) st.rho o.op).run st.get st.sh.length with
  |none=>rw[I]at h;cases h
  |some r=>
   obtain⟨v,ups⟩:=r
   obtain⟨rfl,O⟩:=Q.calm_run _ J I
   refine⟨⟨false,(bC (o.d.getD 0) st.rho o.op).log st.get st.sh.length,[]⟩, ?_,rfl,rfl⟩
   simp only[O,inB,List.all_nil,Bool.or_true,if_true,dg,List.map_nil]
 unfold br at hr
 unfold ch
 simp only[K]at hr ⊢
 cases U:o.gd with
 |none=>grind
 |some p=>
  obtain⟨j,D⟩:=p
  simp only[U]at hr ⊢
  split at hr
  ·rename_i x hx
   simp only[hx]
   by_cases V:x=D
   ·grind
   ·rw[if_neg V];exact⟨gG,rfl,rfl,rfl⟩
  ·cases hr
  ·split
   ·grind
   ·exact⟨gG,rfl,rfl,rfl⟩
theorem DZ: ∀(ds:List (List Nat×aF)) (bw:List FP) (st:St),(ds.all fun p=>qQ p.2.op&&p.1.all fun i=>decide (i<bw.length+ds.length))=true→(∀fp∈bw,Calm fp)→
  (∀(k:Nat) (u:List Nat) (o:aF),ds[k]? =some (u,o)→ ∀i∈u,i<bw.length+k)→
  aM E call n ds bw st=aj E call n (ds.map (·.2)) st
 | [],bw,st,_,_,_=>rfl
 |(u,o)::ds,bw,st,h,K,hi=>by
  simp only[List.all_cons,Bool.and_eq_true]at h
  simp only[aM,List.map_cons,aj]
  cases D:br E call n o st with
  |none=>
   grind
  |some s=>
   obtain⟨fp,h1,h2⟩:=ads h.1.1 D
   simp only[h1]
   have H:(u.all fun i=>apart (aJ ⟨true,[],[]⟩ bw i) fp)=true:=by
    rw[List.all_eq_true]
    intro i r
    have:=hi 0 u o rfl i r
    have N:aJ ⟨true,[],[]⟩ bw i∈bw:=by
     have: ∀(l:List FP) (j:Nat),j<l.length→aJ ⟨true,[],[]⟩ l j∈l:=by
      intro l
      induction l with
      |nil=>grind
      |cons x xs ih=>
       intro j I
       cases j with
       |zero=>exact List.mem_cons_self
       |succ j=>exact List.mem_cons_of_mem _ (ih j (by simpa using I))
     grind
    grind [BB]
   simp only[H,if_true]
   refine DZ ds (bw++ [fp]) s ?_ ?_ ?_
   ·grind
   ·grind
   ·intro k J o' hk i r
    have:=hi (k+1) J o' hk i r
    grind
def NW:Nat→List (List Nat×aF)→Bool
 |_,[]=>true
 |k,(u,o)::ds=>qQ o.op&&(u.all fun i=>decide (i<k))&&NW (k+1) ds
theorem D0: ∀(ds:List (List Nat×aF)) (m:Nat),NW m ds=true→(∀(k:Nat) (u:List Nat) (o:aF),ds[k]? =some (u,o)→qQ o.op=true∧ ∀i∈u,i<m+k)
 | [],m,_,k,u,o,hk=>by simp at hk
 |(r,D)::ds,m,h,k,u,o,hk=>by
  simp only[NW,Bool.and_eq_true]at h
  cases k with
  |zero=>
   grind
  |succ k=>
   obtain⟨h1,h2⟩:=D0 ds (m+1) h.2 k u o (by simpa using hk)
   grind
theorem adt{E:Env}{n:Nat}{ds:List (List Nat×aF)}{st:St}(h:NW 0 ds=true):DC E n (.draws ds) st=(aj E (ae E) n (ds.map (·.2)) st).map fun D=>(.nrm,D):=by
 rw[IB]
 congr 1
 have r:=D0 ds 0 h
 refine DZ ds [] st ?_ xv (fun k u o hk i hi=>by have:=(r k u o hk).2 i hi;simpa using this)
 rw[List.all_eq_true]
 intro p H
 obtain⟨k,hk,I⟩:=List.getElem_of_mem H
 obtain⟨u,o⟩:=p
 obtain⟨h1,h2⟩:=r k u o (by rw[List.getElem?_eq_getElem hk,I])
 grind
end
end Go.Ev
namespace Go.Ev
open Go
def kv(F:St→Option St)(fr:Fr)(lh:aB ah)(sh:List ah)(d:Nat)(v:Option T):Option St:=v.bind fun v=>F ⟨cQ fr d v,lh,sh⟩
def kn(F:St→Option St)(st:St)(v:Option T):Option St:=v.bind fun _=>F st
def ks(F:St→Option St)(fr:Fr)(r:Option (aB ah×List ah)):Option St:=r.bind fun r=>F ⟨fr,r.1,r.2⟩
def ka(F:St→Option St)(fr:Fr)(sh:List ah)(d:Nat)(r:Option (T×aB ah)):Option St:=r.bind fun q=>F ⟨cQ fr d q.1,q.2,sh⟩
def kc(F:St→Option St)(fr:Fr)(d:Option Nat)(r:Option (T×St)):Option St:=r.bind fun r=>F ⟨uU fr d r.1,r.2.lh,r.2.sh⟩
section
variable{F:St→Option St}{fr:Fr}{lh:aB ah}{sh:List ah}{d:Nat}{v:T}
theorem adu:kv F fr lh sh d (some v)=F ⟨cQ fr d v,lh,sh⟩:=rfl
theorem adv:kv F fr lh sh d none=none:=rfl
theorem alw{c:Prop}[Decidable c]{x y:Option T}:kv F fr lh sh d (if c then x else y)=if c then kv F fr lh sh d x else kv F fr lh sh d y:=by split <;> rfl
theorem adw{st:St}:kn F st (some v)=F st:=rfl
theorem adx{st:St}:kn F st none=none:=rfl
theorem ady{r:aB ah×List ah}:ks F fr (some r)=F ⟨fr,r.1,r.2⟩:=rfl
theorem adz:ks F fr none=none:=rfl
theorem alx{c:Prop}[Decidable c]{x y:Option (aB ah×List ah)}:ks F fr (if c then x else y)=if c then ks F fr x else ks F fr y:=by split <;> rfl
theorem adA{q:T×aB ah}:ka F fr sh d (some q)=F ⟨cQ fr d q.1,q.2,sh⟩:=rfl
theorem adB:ka F fr sh d none=none:=rfl
theorem aly{c:Prop}[Decidable c]{x y:Option (T×aB ah)}:ka F fr sh d (if c then x else y)=if c then ka F fr sh d x else ka F fr sh d y:=by split <;> rfl
theorem adC{D:Option Nat}{r:T×St}:kc F fr D (some r)=F ⟨uU fr D r.1,r.2.lh,r.2.sh⟩:=rfl
theorem adD{r:Option Nat}:kc F fr r none=none:=rfl
theorem alz{c:Prop}[Decidable c]{r:Option Nat}{x y:Option (T×St)}:kc F fr r (if c then x else y)=if c then kc F fr r x else kc F fr r y:=by split <;> rfl
end
def isB:T→Bool
 | .b _=>true
 |_=>false
def isT:T→Bool
 | .b x=>x
 |_=>false
theorem axr{x:Bool}:isB (.b x)=true:=nr rfl
theorem axs{x:Bool}:isT (.b x)=x:=nr rfl
theorem adE{t:T}(h:isB t=true):t= .b (isT t):=by cases t <;> first|rfl|(simp[isB]at h)
section
variable{E:Env}{call:kg}{n:Nat}{fr:Fr}{lh:aB ah}{sh:List ah}{os:List aF}{d:Nat}
theorem alA{c a b:aX}(r:d<n):aj E call n (⟨some d,.pick c a b,none⟩::os) ⟨fr,lh,sh⟩=kv (aj E call n os) fr lh sh d (NQ (rd fr c) (rd fr a) (rd fr b)):=alj r
theorem axt{op:BinOp}{x y:aX}(r:d<n):aj E call n (⟨some d,.bin op x y,none⟩::os) ⟨fr,lh,sh⟩=kv (aj E call n os) fr lh sh d (Ev.bin op (rd fr x) (rd fr y)):=aw6 r
theorem aEv{neg:Bool}{k:EK}{x y:aX}(D:d<n):aj E call n (⟨some d,.eq neg k x y,none⟩::os) ⟨fr,lh,sh⟩=kv (aj E call n os) fr lh sh d ((sy k (rd fr x) (rd fr y)).map fun r=>T.b (r != neg)):=aEg D
theorem aEw{op:UnOp}{x:aX}(r:d<n):aj E call n (⟨some d,.un op x,none⟩::os) ⟨fr,lh,sh⟩=kv (aj E call n os) fr lh sh d (Ev.un op (rd fr x)):=aEh r
theorem axu{k:IntKind}{x:aX}(r:d<n):aj E call n (⟨some d,.cvi k x,none⟩::os) ⟨fr,lh,sh⟩=kv (aj E call n os) fr lh sh d (ac7 k (rd fr x)):=aw7 r
theorem yi{x:aX}(r:d<n):aj E call n (⟨some d,.b2s x,none⟩::os) ⟨fr,lh,sh⟩=kv (aj E call n os) fr lh sh d (ac8 (rd fr x)):=aw8 r
theorem adF{z:List T}{r:List (Nat×Nat×aX)}(D:d<n):aj E call n (⟨some d,.build z r,none⟩::os) ⟨fr,lh,sh⟩=kv (aj E call n os) fr lh sh d (LA fr z r):=ac9 D
theorem axv{x:aX}{l h:Option aX}(r:d<n):aj E call n (⟨some d,.slS x l h,none⟩::os) ⟨fr,lh,sh⟩=kv (aj E call n os) fr lh sh d (tq fr (rd fr x) l h):=aw9 r
theorem aEx{x:aX}{off:Nat}(r:d<n):aj E call n (⟨some d,.fa x off,none⟩::os) ⟨fr,lh,sh⟩=kv (aj E call n os) fr lh sh d (faV (rd fr x) off):=aEi r
theorem axw{x:aX}{off m:Nat}{r:Bool}(D:d<n):aj E call n (⟨some d,.fld x off m r,none⟩::os) ⟨fr,lh,sh⟩=kv (aj E call n os) fr lh sh d (ada (rd fr x) off m r):=axb D
theorem aEy{x r:aX}{sz:Nat}(D:d<n):aj E call n (⟨some d,.ia x r sz,none⟩::os) ⟨fr,lh,sh⟩=kv (aj E call n os) fr lh sh d (dV (rd fr x) (rd fr r) sz):=aEj D
theorem axx{x r:aX}{len sz:Nat}(D:d<n):aj E call n (⟨some d,.iaA x r len sz,none⟩::os) ⟨fr,lh,sh⟩=kv (aj E call n os) fr lh sh d (eJ (rd fr x) (rd fr r) len sz):=axc D
theorem axy{x r:aX}(D:d<n):aj E call n (⟨some d,.ixS x r,none⟩::os) ⟨fr,lh,sh⟩=kv (aj E call n os) fr lh sh d (Dg (rd fr x) (rd fr r)):=axd D
theorem axz{x r:aX}{len sz:Nat}{D:Bool}(H:d<n):aj E call n (⟨some d,.ixA x r len sz D,none⟩::os) ⟨fr,lh,sh⟩=kv (aj E call n os) fr lh sh d (adb (rd fr x) (rd fr r) len sz D):=axe H
theorem axA{x:aX}{j:Nat}(r:d<n):aj E call n (⟨some d,.ext x j,none⟩::os) ⟨fr,lh,sh⟩=kv (aj E call n os) fr lh sh d (ade (rd fr x) j):=axf r
theorem alC{x:aX}(r:d<n):aj E call n (⟨some d,.lenS x,none⟩::os) ⟨fr,lh,sh⟩=kv (aj E call n os) fr lh sh d (NR (rd fr x)):=alm r
def lenI(x:T):Option T:=match lF x with|some m=>some (.i .i64 ((m:Nat):Int))|none=>none
theorem adG{x:T}{m:Nat}(h:lF x=some m):lenI x=some (.i .i64 (m:Int)):=by unfold lenI;rw[h]
theorem alD{x:aX}(r:d<n):aj E call n (⟨some d,.lenV x,none⟩::os) ⟨fr,lh,sh⟩=kv (aj E call n os) fr lh sh d (lenI (rd fr x)):=by
 grind [kv,lenI,aln]
theorem aEz{r:Bool}{args:List aX}(D:d<n):aj E call n (⟨some d,.mm r args,none⟩::os) ⟨fr,lh,sh⟩=kv (aj E call n os) fr lh sh d (mmV r (args.map (rd fr))):=aEl D
theorem axB{x:aX}(r:d<n):aj E call n (⟨some d,.nck x,none⟩::os) ⟨fr,lh,sh⟩=kv (aj E call n os) fr lh sh d (FO (rd fr x)):=axg r
theorem alE{x:aX}:aj E call n (⟨none,.nck x,none⟩::os) ⟨fr,lh,sh⟩=kn (aj E call n os) ⟨fr,lh,sh⟩ (FO (rd fr x)):=alp
theorem aEA{x:aX}{m:Nat}{r:Bool}(D:d<n):aj E call n (⟨some d,.ld x m r,none⟩::os) ⟨fr,lh,sh⟩=kv (aj E call n os) fr lh sh d (ldV lh sh (rd fr x) m r):=aEm D
theorem axC{sz:Nat}{x:aX}{l h:Option aX}(r:d<n):aj E call n (⟨some d,.slV sz x l h none,none⟩::os) ⟨fr,lh,sh⟩=kv (aj E call n os) fr lh sh d (alu fr sz (rd fr x) l h):=axn r
theorem aEB{r:EK}{m k:aX}{z:T}{D:Bool}(H:d<n):aj E call n (⟨some d,.lk r m k z D,none⟩::os) ⟨fr,lh,sh⟩=kv (aj E call n os) fr lh sh d (lkV lh sh r (rd fr m) (rd fr k) z D):=aEq H
theorem axD{k:IntKind}{n:Int}:SN [.i k n]=false:=nr rfl
theorem axE{x:Bool}:SN [.b x]=false:=nr rfl
theorem axF{l:List Nat}:SN [.s l]=false:=nr rfl
theorem adH:SN [.nilsl]=true:=nr rfl
theorem Wf{a b:T}{l:List T}:SN (a::b::l)=false:=by cases a <;> rfl
def ai0(lh:aB ah)(d:Nat)(z:List T)(x:T)(bytes:Nat):Option (T×aB ah):=
 (Qw x bytes).map fun m=>(.isl .L d ((ab lh d).g+1) 0 m z.length,iK lh d ⟨(ab lh d).g+1,.cells (repl z m) 0 (SN z)⟩)
theorem alF{z:List T}{bytes:Nat}{x:aX}(r:d<n):aj E call n (⟨some d,.mksl z bytes x false,none⟩::os) ⟨fr,lh,sh⟩=ka (aj E call n os) fr sh d (ai0 lh d z (rd fr x) bytes):=by
 rw[alr r];unfold ai0 ka;cases Qw (rd fr x) bytes <;> rfl
theorem aEC{x v:aX}{m:Nat}:aj E call n (⟨none,.st x v m,none⟩::os) ⟨fr,lh,sh⟩=ks (aj E call n os) fr (stV lh sh (rd fr x) (rd fr v) m):=aEn
def appW(lh:aB ah)(sh:List ah)(d sz bytes:Nat)(s x:T):Option (T×aB ah):=(slC lh sh sz x).bind (By lh d sz bytes s)
def notS:T→Bool
 | .isl .S .. =>false
 | .mp .S .. =>false
 |_=>true
theorem axG{sz bytes:Nat}{s x:aX}(r:d<n)(hs:notS (rd fr s)=true):aj E call n (⟨some d,.app sz bytes s x false false,none⟩::os) ⟨fr,lh,sh⟩=ka (aj E call n os) fr sh d (appW lh sh d sz bytes (rd fr s) (rd fr x)):=by
 rw[axm r (fun k g off len sz D=>by rw[D]at hs;simp[notS]at hs)]
 grind [appW,ka]
theorem aED{r:EK}{m k v:aX}(D:notS (rd fr m)=true)(H:froz (rd fr v)=true):aj E call n (⟨none,.mu r m k v,none⟩::os) ⟨fr,lh,sh⟩=ks (aj E call n os) fr ((muV lh r (rd fr m) (rd fr k) (rd fr v)).map fun I=>(I,sh)):=by
 rw[aEs (fun kk g J=>by rw[J]at D;simp[notS]at D) H]
 unfold ks
 cases muV lh r (rd fr m) (rd fr k) (rd fr v) <;> rfl
def adI(lh:aB ah)(sh:List ah)(z:List T)(len:Nat)(r:List Nat)(D:List T):Option (T×St):=
 (zD lh sh false D).bind fun q=>(Wa z len r q.1).map fun v=>(v,(St.mk .nil lh sh).ups q.2)
theorem axH{z:List T}{len:Nat}{r:List (Nat×aX)}(D:d<n):aj E call n (⟨some d,.bsl z len r,none⟩::os) ⟨fr,lh,sh⟩=kc (aj E call n os) fr (some d) (adI lh sh z len (r.map (·.1)) (r.map fun p=>rd fr p.2)):=by
 rw[axp D]
 unfold kc adI
 cases zD lh sh false (r.map fun p=>rd fr p.2)with
 |none=>rfl
 |some q=>
  simp only[Option.bind_some]
  cases Wa z len (r.map (·.1)) q.1 with
  |none=>rfl
  |some v=>grind [uU,lO]
theorem QF{z:List T}{len:Nat}{D:List Nat}{r:List T}(h:r.all froz=true):adI lh sh z len D r=(Wa z len D r).map fun v=>(v,⟨.nil,lh,sh⟩):=by
 unfold adI
 rw[Bx h];rfl
theorem alG{f:Nat}{as:List aX}(r:d<n):aj E call n (⟨some d,.callf f as,none⟩::os) ⟨fr,lh,sh⟩=kc (aj E call n os) fr (some d) (bB E call d ⟨fr,lh,sh⟩ f (as.map (rd fr))):=alv r
theorem adJ{f:Nat}{as:List aX}:aj E call n (⟨none,.callf f as,none⟩::os) ⟨fr,lh,sh⟩=kc (aj E call n os) fr none (bB E call 0 ⟨fr,lh,sh⟩ f (as.map (rd fr))):=ado
theorem adL{f:aX}{as:List aX}(r:d<n):aj E call n (⟨some d,.callv f as,none⟩::os) ⟨fr,lh,sh⟩=kc (aj E call n os) fr (some d) (FV E call d ⟨fr,lh,sh⟩ (rd fr f) (as.map (rd fr))):=adp r
theorem adM{r:Option Nat}{op:mV}{j:Nat}(h:aa fr j= .b true):aj E call n (⟨r,op,some (j,true)⟩::os) ⟨fr,lh,sh⟩=aj E call n (⟨r,op,none⟩::os) ⟨fr,lh,sh⟩:=Wc h
theorem adN{r:Option Nat}{op:mV}{j:Nat}(h:aa fr j= .b false):aj E call n (⟨r,op,some (j,false)⟩::os) ⟨fr,lh,sh⟩=aj E call n (⟨r,op,none⟩::os) ⟨fr,lh,sh⟩:=Wc h
theorem adO{op:mV}{j:Nat}(r:d<n)(h:aa fr j= .b false):aj E call n (⟨some d,op,some (j,true)⟩::os) ⟨fr,lh,sh⟩=aj E call n os ⟨cQ fr d ba,lh,sh⟩:=Bz (d:=some d) r h
theorem adP{op:mV}{j:Nat}(r:d<n)(h:aa fr j= .b true):aj E call n (⟨some d,op,some (j,false)⟩::os) ⟨fr,lh,sh⟩=aj E call n os ⟨cQ fr d ba,lh,sh⟩:=Bz (d:=some d) r h
theorem Wg{op:mV}{j:Nat}{w:Bool}(r:d<n)(h:aa fr j=ba):aj E call n (⟨some d,op,some (j,w)⟩::os) ⟨fr,lh,sh⟩=aj E call n os ⟨cQ fr d ba,lh,sh⟩:=NV (d:=some d) r h
theorem Wh{op:mV}{j:Nat}(h:aa fr j= .b false):aj E call n (⟨none,op,some (j,true)⟩::os) ⟨fr,lh,sh⟩=aj E call n os ⟨fr,lh,sh⟩:=Bz (d:=none) trivial h
theorem Wi{op:mV}{j:Nat}(h:aa fr j= .b true):aj E call n (⟨none,op,some (j,false)⟩::os) ⟨fr,lh,sh⟩=aj E call n os ⟨fr,lh,sh⟩:=Bz (d:=none) trivial h
end
section
variable{E:Env}{n:Nat}{fr:Fr}{lh:aB ah}{sh:List ah}
theorem alH{c:aX}{a b:ak}(h:isB (rd fr c)=true):DC E n (.cond c a b) ⟨fr,lh,sh⟩=if isT (rd fr c)=true then DC E n a ⟨fr,lh,sh⟩else DC E n b ⟨fr,lh,sh⟩:=by
 rw[Wd,adE h];rfl
def uV(r:List tf)(D:Bool)(x:Option (Out×St)):Option (T×List ah):=
 match x with
 |some (.ext _,_)=>none
 |some (_,st)=>(jc st r).bind fun H=>answer D H st
 |none=>none
theorem an{f:Nat}{af:ai}{args:List T}{sh:List ah}(r:E.fn f=some af)(D:(af.n<args.length)=False)(H:af.own=none:=by rfl):
  ae E f args sh=uV af.res af.eff (DC E af.n af.code {fr:=lb args,lh:= .nil,sh}):=by
 rw[IE r (Nat.le_of_not_lt (of_eq_false D))]
 generalize DC E af.n af.code {fr:=lb args,lh:= .nil,sh}=x
 unfold V4 uV
 rw[H]
 cases x with
 |none=>rfl
 |some p=>
  obtain⟨o,st⟩:=p
  cases o with
  |ext id=>rfl
  |nrm=>simp only[];cases jc st af.res <;> rfl
  |ret=>simp only[];cases jc st af.res <;> rfl
def FX(r:List tf)(j:Nat)(x:Option (Out×St)):Option (T×List ah):=
 match x with
 |some (.ext _,_)=>none
 |some (_,st)=>(jc st r).bind fun D=>mY j D st
 |none=>none
theorem alI{f:Nat}{af:ai}{args:List T}{sh:List ah}{j:Nat}(r:E.fn f=some af)(D:(af.n<args.length)=False)(H:af.own=some j:=by rfl)(I:af.eff=false:=by rfl):
  ae E f args sh=FX af.res j (DC E af.n af.code {fr:=lb args,lh:= .nil,sh}):=by
 rw[IE r (Nat.le_of_not_lt (of_eq_false D))]
 generalize DC E af.n af.code {fr:=lb args,lh:= .nil,sh}=x
 unfold V4 FX
 grind [oW,Bool.false_eq_true]
def LF(lh:aB ah)(sh:List ah)(j:Nat)(r:List T):Option (T×List ah):=mY j r ⟨.nil,lh,sh⟩
theorem BC{j:Nat}{r:List T}:mY j r ⟨fr,lh,sh⟩=LF lh sh j r:=by
 unfold LF mY
 simp only[wS,l8]
 split
 ·rfl
 ·split
  ·rename_i p _
   rw[lO p.2 lh sh]
   rfl
  ·rfl
 ·rfl
theorem Wj{r:List tf}{j:Nat}:FX r j (some (.ret,⟨fr,lh,sh⟩))=(BA fr lh sh r).bind (LF lh sh j):=by
 simp_all[FX,lP,BC]
theorem Wk{r:List tf}{j:Nat}:FX r j (some (.nrm,⟨fr,lh,sh⟩))=(BA fr lh sh r).bind (LF lh sh j):=by
 simp_all[FX,lP,BC]
theorem Wl{c:Prop}[Decidable c]{r:List tf}{j:Nat}{x y:Option (Out×St)}:FX r j (if c then x else y)=if c then FX r j x else FX r j y:=by split <;> rfl
theorem Wm{r:List tf}{D:Bool}:uV r D (some (.ret,⟨fr,lh,sh⟩))=(BA fr lh sh r).bind (QE lh sh D):=by
 simp_all[uV,lP,wS]
theorem Wn{r:List tf}{D:Bool}:uV r D (some (.nrm,⟨fr,lh,sh⟩))=(BA fr lh sh r).bind (QE lh sh D):=by
 simp_all[uV,lP,wS]
theorem Wo{c:Prop}[Decidable c]{r:List tf}{D:Bool}{x y:Option (Out×St)}:uV r D (if c then x else y)=if c then uV r D x else uV r D y:=by split <;> rfl
end
section
variable{k:IntKind}{a b:Int}{x y:Bool}{s t:List Nat}
theorem adQ:Ev.bin .add (.i k a) (.i k b)=some (.i k (wr k (a+b))):=by simp[Ev.bin,mH]
theorem adR:Ev.bin .sub (.i k a) (.i k b)=some (.i k (wr k (a-b))):=by simp[Ev.bin,mH]
theorem adS:Ev.bin .mul (.i k a) (.i k b)=some (.i k (wr k (a*b))):=by simp[Ev.bin,mH]
theorem adT:Ev.bin .quo (.i k a) (.i k b)=if b=0 then none else some (.i k (wr k (a.tdiv b))):=by simp[Ev.bin,mH]
theorem adU:Ev.bin .rem (.i k a) (.i k b)=if b=0 then none else some (.i k (a.tmod b)):=by simp[Ev.bin,mH]
theorem NX:Ev.bin .eql (.i k a) (.i k b)=some (.b (decide (a=b))):=by simp[Ev.bin,mH];exact Bool.beq_eq_decide_eq a b
theorem NY:Ev.bin .neq (.i k a) (.i k b)=some (.b (!decide (a=b))):=by simp[Ev.bin,mH];rw[bne,Bool.beq_eq_decide_eq]
theorem NZ:Ev.bin .lss (.i k a) (.i k b)=some (.b (decide (a<b))):=by simp[Ev.bin,mH]
theorem N5:Ev.bin .leq (.i k a) (.i k b)=some (.b (decide (a≤b))):=by simp[Ev.bin,mH]
theorem N6:Ev.bin .gtr (.i k a) (.i k b)=some (.b (decide (b<a))):=by simp[Ev.bin,mH]
theorem N8:Ev.bin .geq (.i k a) (.i k b)=some (.b (decide (b≤a))):=by simp[Ev.bin,mH]
theorem IF:Ev.bin .eql (.s s) (.s t)=some (.b (decide (s=t))):=by simp[Ev.bin,K9];exact Bool.beq_eq_decide_eq s t
theorem IG:Ev.bin .neq (.s s) (.s t)=some (.b (!decide (s=t))):=by simp[Ev.bin,K9];rw[bne,Bool.beq_eq_decide_eq]
theorem II:Ev.bin .lss (.s s) (.s t)=some (.b (eU s t)):=by simp[Ev.bin,K9]
theorem Wp:Ev.bin .add (.s s) (.s t)=if s.length+t.length≤1099511627776 then some (.s (s++t))else none:=by simp[Ev.bin,K9]
theorem alJ:Ev.un .not (.b x)=some (.b (!x)):=rfl
theorem alK:Ev.un .neg (.i k a)=some (.i k (wr k (0-a))):=rfl
theorem alM{cs:List T}{off m:Nat}:Ev.part cs off m false=cs[off]? :=rfl
theorem alN{cs:List T}{off m:Nat}:Ev.part cs off m true=if off+m≤cs.length then some (.agg ((cs.drop off).take m))else none:=rfl
theorem bo{n:Int}(h: -9223372036854775808≤n∧n≤9223372036854775807):wr .i64 n=n:=by grind [wr,lo,hi]
theorem di{cs:List T}{len sz:Nat}{ex:Bool}{kk:IntKind}{j:Int}:dV (.sl cs len ex) (.i kk j) sz=if 0≤j∧j.toNat<len∧(j.toNat+1)*sz≤cs.length then some (.vp (cs.drop (j.toNat*sz)))else none:=by
 unfold dV asNat
 grind
theorem adV{sp:Sp}{i g off len sz r:Nat}{kk:IntKind}{j:Int}:dV (.isl sp i g off len r) (.i kk j) sz=if 0≤j∧j.toNat<len∧r=sz then some (.ptr sp i g (off+j.toNat*sz))else none:=by
 unfold dV asNat
 grind
theorem LG{r:List Nat}{kk:IntKind}{j:Int}:Dg (.s r) (.i kk j)=if 0≤j then r[j.toNat]?.map fun c=>T.i .u8 c else none:=by
 unfold Dg asNat
 grind
theorem adW{kk:IntKind}{j:Int}:asNat (.i kk j)=if 0≤j then some j.toNat else none:=rfl
end
end Go.Ev
