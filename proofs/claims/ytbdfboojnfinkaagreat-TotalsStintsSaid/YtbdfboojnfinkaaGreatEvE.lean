/- A tree evaluator over the model, proved against it (part E): where it answers, the call returns that answer. Conditions: none beyond its theorems' own. -/
import Derived.Test.YtbdfboojnfinkaaGreatEvD
set_option linter.unusedSimpArgs false
set_option linter.unusedVariables false
namespace Go.Ev
open Go
section
variable{E:Env}{call:p7}{fl n:Nat}
end
end Go.Ev
namespace Go.Ev
open Go
def ux(c h:p7):Prop:= ∀f a sh r,c f a sh=some r→h f a sh=some r
theorem ux.refl(c:p7):ux c c:=fun _ _ _ _ h=>h
section
variable{E:Env}
theorem Aj{c H:p7}(h:ux c H){I:Nat}{st:St}{f:Nat}{args:List T}{r:T×St}(D:je E c I st f args=some r):je E H I st f args=some r:=by
 unfold je at D ⊢
 cases N:E.fn f with
 |none=>grind
 |some af=>
  simp only[N]at D ⊢
  cases O:(jd (fz af.eff iE) args).run st.get st.sh.length with
  |none=>grind
  |some q=>
   simp only[O]at D ⊢
   cases J:af.eff with
   |true=>
    simp only[J,if_true,Option.map_eq_some_iff]at D ⊢
    obtain⟨a,U,V⟩:=D
    exact⟨a,h _ _ _ _ U,V⟩
   |false=>
    simp only[J]at D ⊢
    cases K:c f q.1 []with
    |none=>grind
    |some a=>
     simp only[K]at D
     simp only[h _ _ _ _ K]
     exact D
theorem qX{c K:p7}(h:ux c K){n:Nat}{o:be}{st H:St}(I:ja E c n o st=some H):ja E K n o st=some H:=by
 unfold ja at I ⊢
 have U: ∀H,(match jq st.rho o.op with
  |some (some D)=>match je E c (o.d.getD 0) st D.1 D.2 with
   |some r=>(nj st.fr n o.d r.1).map fun fr=>{r.2 with fr}
   |none=>none
  |some none=>none
  |none=>match(jk (o.d.getD 0) st.rho o.op).run st.get st.sh.length with
   |some (.val v ups)=>(nj st.fr n o.d v).map fun fr=>{st.ups ups with fr}
   |none=>none)=some H→(match jq st.rho o.op with
  |some (some D)=>match je E K (o.d.getD 0) st D.1 D.2 with
   |some r=>(nj st.fr n o.d r.1).map fun fr=>{r.2 with fr}
   |none=>none
  |some none=>none
  |none=>match(jk (o.d.getD 0) st.rho o.op).run st.get st.sh.length with
   |some (.val v ups)=>(nj st.fr n o.d v).map fun fr=>{st.ups ups with fr}
   |none=>none)=some H:=by
  intro H hs
  cases N:jq st.rho o.op with
  |none=>simp only[N]at hs ⊢; exact hs
  |some x=>
   cases x with
   |none=>simp only[N]at hs;cases hs
   |some D=>
    simp only[N]at hs ⊢
    cases O:je E c (o.d.getD 0) st D.1 D.2 with
    |none=>simp only[O]at hs;cases hs
    |some r=>
     simp only[O]at hs
     simp only[Aj h O]
     exact hs
 cases V:o.gd with
 |none=>grind
 |some p=>
  obtain⟨j,J⟩:=p
  simp only[V]at I ⊢
  split at I
  ·rename_i x W
   by_cases X:x=J
   ·grind
   ·grind
  ·cases I
  ·exact I
theorem mH{c I:p7}(h:ux c I){n:Nat}: ∀(os:List be) {st H:St},ij E c n os st=some H→ij E I n os st=some H
 | [],st,H,D=>D
 |o::os,st,H,D=>by
  simp only[ij]at D ⊢
  cases J:ja E c n o st with
  |none=>grind
  |some s=>
   simp only[J]at D
   simp only[qX h J]
   exact mH h os D
theorem Ak{c I:p7}(h:ux c I){J:Nat}{st:St}{f:Nat}{args:List T}{r:FP}(D:lE E c J st f args=some r):lE E I J st f args=some r:=by
 unfold lE at D ⊢
 cases K:E.fn f with
 |none=>grind
 |some af=>
  simp only[K]at D ⊢
  cases N:(jd (fz af.eff iE) args).run st.get st.sh.length with
  |none=>grind
  |some q=>
   simp only[N]at D ⊢
   by_cases hi:(!vW st q.2)=true
   ·grind
   ·rw[if_neg hi]at D ⊢
    cases O:af.eff with
    |true=>grind
    |false=>
     simp only[O]at D ⊢
     cases H:c f q.1 []with
     |none=>simp[H]at D
     |some a=>
      simp only[H]at D
      simp only[h _ _ _ _ H]
      exact D
theorem Al{c I:p7}(h:ux c I){o:be}{st:St}{r:FP}(K:jC E c o st=some r):jC E I o st=some r:=by
 unfold jC at K ⊢
 have N: ∀r,(match jq st.rho o.op with
  |some (some H)=>lE E c (o.d.getD 0) st H.1 H.2
  |some none=>none
  |none=>
   let q:=jk (o.d.getD 0) st.rho o.op
   match q.run st.get st.sh.length with
   |some (.val _ D)=>if q.asks st.get st.sh.length||vW st D then some ⟨q.asks st.get st.sh.length,q.log st.get st.sh.length,j4 D⟩else none
   |none=>none)=some r→(match jq st.rho o.op with
  |some (some H)=>lE E I (o.d.getD 0) st H.1 H.2
  |some none=>none
  |none=>
   let q:=jk (o.d.getD 0) st.rho o.op
   match q.run st.get st.sh.length with
   |some (.val _ D)=>if q.asks st.get st.sh.length||vW st D then some ⟨q.asks st.get st.sh.length,q.log st.get st.sh.length,j4 D⟩else none
   |none=>none)=some r:=by
  intro r hs
  cases J:jq st.rho o.op with
  |none=>simp only[J]at hs ⊢; exact hs
  |some x=>
   cases x with
   |none=>simp only[J]at hs;cases hs
   |some H=>simp only[J]at hs ⊢; exact Ak h hs
 cases O:o.gd with
 |none=>grind
 |some p=>
  grind
theorem qY{c J:p7}(h:ux c J){n:Nat}: ∀(os:List (List Nat×be)) {H:List FP} {st I:St},iQ E c n os H st=some I→iQ E J n os H st=some I
 | [],H,st,I,D=>D
 |(u,o)::os,H,st,I,D=>by
  simp only[iQ]at D ⊢
  cases K:jC E c o st with
  |none=>grind
  |some fp=>
   simp only[K]at D
   simp only[Al h K]
   split at D
   ·rename_i O
    rw[if_pos O]
    cases N:ja E c n o st with
    |none=>grind
    |some s=>
     simp only[N]at D
     simp only[qX h N]
     exact qY h os D
   ·cases D
theorem vi{f g:St→Option (Out×St)}(h: ∀st r,f st=some r→g st=some r): ∀{k k':Nat},k≤k'→ ∀{st:St} {r:Out×St},iter f k st=some r→iter g k' st=some r
 |0,_,_,st,r,D=>by simp[iter]at D
 |k+1,0,I,_,_,_=>by omega
 |k+1,k'+1,I,st,r,D=>by
  simp only[iter]at D ⊢
  cases H:f st with
  |none=>grind
  |some p=>
   rw[h _ _ H]
   rw[H]at D
   obtain⟨o,s⟩:=p
   cases o with
   |nrm=>exact vi h (by omega) D
   |ext id=>exact D
   |ret=>exact D
theorem j6{c O:p7}(h:ux c O){n:Nat}{fl K:Nat}(H:fl≤K): ∀(code:ic) {st:St} {r:Out×St},mE E c fl n code st=some r→mE E O K n code st=some r
 | .skip,st,r,D=>D
 | .region ops,st,r,D=>by
   simp only[mE,Option.map_eq_some_iff]at D ⊢
   obtain⟨a,I,J⟩:=D
   exact⟨a,mH h ops I,J⟩
 | .draws ops,st,r,D=>by
   simp only[mE,Option.map_eq_some_iff]at D ⊢
   obtain⟨a,I,J⟩:=D
   exact⟨a,qY h ops I,J⟩
 | .seq a b,st,r,D=>by
   simp only[mE]at D ⊢
   cases N:mE E c fl n a st with
   |none=>grind
   |some p=>
    rw[j6 h H a N]
    rw[N]at D
    obtain⟨o,s⟩:=p
    cases o with
    |nrm=>exact j6 h H b D
    |ext id=>exact D
    |ret=>exact D
 | .fork os Dp b,st,r,D=>by
   simp only[mE]at D ⊢
   cases I:ij E c n os st with
   |none=>grind
   |some X=>
    cases J:ij E c n Dp st with
    |none=>grind
    |some Y=>
     rw[mH h os I,mH h Dp J]
     rw[I,J]at D
     simp only[]at D ⊢
     obtain⟨o,s⟩:=r
     obtain⟨Z,t2,U,V,qW,rfl⟩:=wA D
     rw[U,V]at D
     rw[j6 h H b U,j6 h H b V]
     exact D
 | .cond x a b,st,r,D=>by
   simp only[mE]at D ⊢
   split at D
   ·exact j6 h H a D
   ·exact j6 h H b D
   ·cases D
 | .block id a,st,r,D=>by
   simp only[mE]at D ⊢
   cases N:mE E c fl n a st with
   |none=>grind
   |some p=>
    rw[j6 h H a N]
    grind
 | .loop a,st,r,D=>by
   simp only[mE]at D ⊢
   exact vi (fun st r W=>j6 h H a W) H D
 | .exit id,st,r,D=>D
 | .ret,st,r,D=>D
theorem jy: ∀{m D:Nat},m≤D→ux (jI E m) (jI E D)
 |0,D,_=>fun f a sh r h=>by simp[jI]at h
 |m+1,0,h=>by omega
 |m+1,D+1,h=>fun f a sh r H=>by
  simp only[jI]at H ⊢
  cases I:E.fn f with
  |none=>grind
  |some af=>
   simp only[I]at H ⊢
   split at H
   ·cases H
   ·rename_i J
    rw[if_neg J]
    cases K:mE E (jI E m) m af.n af.code {fr:=oX a,lh:= .nil,sh}with
    |none=>grind
    |some p=>
     rw[j6 (jy (Nat.le_of_succ_le_succ h)) (Nat.le_of_succ_le_succ h) af.code K]
     grind
end
noncomputable def lim{α:Type}(F:Nat→Option α):Option α:=
 open Classical in if h: ∃m,(F m).isSome=true then F (Classical.choose h)else none
def ann{α:Type}(F:Nat→Option α):Prop:= ∀m h r,m≤h→F m=some r→F h=some r
theorem MC{α:Type}{F:Nat→Option α}(H:ann F)(r:α):lim F=some r↔ ∃m,F m=some r:=by
 unfold lim
 constructor
 ·intro h
  split at h
  ·grind
  ·cases h
 ·rintro⟨m,I⟩
  have D: ∃m,(F m).isSome=true:=⟨m,by rw[I];rfl⟩
  rw[dif_pos D]
  have hs:=Classical.choose_spec D
  generalize Classical.choose D=k at hs
  cases J:F k with
  |none=>grind
  |some a=>
   have K:=H k (max k m) a (Nat.le_max_left _ _) J
   have N:=H m (max k m) r (Nat.le_max_right _ _) I
   grind
section
variable(E:Env)
noncomputable def hZ:p7:=fun f a sh=>lim fun m=>jI E m f a sh
noncomputable def DC(n:Nat)(code:ic)(st:St):Option (Out×St):=lim fun m=>mE E (jI E m) m n code st
end
section
variable{E:Env}
theorem DCall_iff{f:Nat}{a:List T}{sh:List ib}{r:T×List ib}:hZ E f a sh=some r↔ ∃m,jI E m f a sh=some r:=
 MC (fun m H r h D=>jy h _ _ _ _ D) r
theorem kh{n:Nat}{code:ic}{st:St}{r:Out×St}:DC E n code st=some r↔ ∃m,mE E (jI E m) m n code st=some r:=
 MC (fun m H r h D=>j6 (jy h) h code D) r
theorem sZ(m:Nat):ux (jI E m) (hZ E):=fun f a sh r h=>DCall_iff.2 ⟨m,h⟩
theorem KJ{D:Nat}{st:St}{f:Nat}{args:List T}{r:T×St}(h:je E (hZ E) D st f args=some r): ∃m,je E (jI E m) D st f args=some r:=by
 unfold je at h
 cases H:E.fn f with
 |none=>refine⟨0, ?_⟩;unfold je;cases I:E.ext f <;> simp only[H,I]at h ⊢ <;> exact h
 |some af=>
  simp only[H]at h
  grind [je,Option.map_eq_some_iff,DCall_iff.1]
theorem KK{D:Nat}{st:St}{f:Nat}{args:List T}{r:FP}(h:lE E (hZ E) D st f args=some r): ∃m,lE E (jI E m) D st f args=some r:=by
 unfold lE at h
 cases H:E.fn f with
 |none=>refine⟨0, ?_⟩;unfold lE;cases I:E.ext f <;> simp only[H,I]at h ⊢ <;> exact h
 |some af=>
  simp only[H]at h
  cases J:(jd (fz af.eff iE) args).run st.get st.sh.length with
  |none=>grind
  |some q=>
   simp only[J]at h
   by_cases hi:(!vW st q.2)=true
   ·grind
   ·rw[if_neg hi]at h
    cases K:af.eff with
    |true=>
     simp_all[lE]
    |false=>
     grind [lE,DCall_iff.1]
theorem Cp{n:Nat}{o:be}{st D:St}(J:ja E (hZ E) n o st=some D): ∃m,ja E (jI E m) n o st=some D:=by
 cases K:jq st.rho o.op with
 |none=>
  simp_all[ja]
 |some x=>
  cases x with
  |none=>
   simp_all[ja]
  |some h=>
   cases H:je E (hZ E) (o.d.getD 0) st h.1 h.2 with
   |none=>
    refine⟨0, ?_⟩
    have I:je E (jI E 0) (o.d.getD 0) st h.1 h.2=none:=by
     cases I:je E (jI E 0) (o.d.getD 0) st h.1 h.2 with
     |none=>rfl
     |some r=>rw[Aj (sZ 0) I]at H;cases H
    grind [ja]
   |some r=>
    grind [ja,KJ]
theorem KL{o:be}{st:St}{r:FP}(I:jC E (hZ E) o st=some r): ∃m,jC E (jI E m) o st=some r:=by
 cases J:jq st.rho o.op with
 |none=>
  simp_all[jC]
 |some x=>
  cases x with
  |none=>
   simp_all[jC]
  |some h=>
   cases D:lE E (hZ E) (o.d.getD 0) st h.1 h.2 with
   |none=>
    refine⟨0, ?_⟩
    have H:lE E (jI E 0) (o.d.getD 0) st h.1 h.2=none:=by
     cases H:lE E (jI E 0) (o.d.getD 0) st h.1 h.2 with
     |none=>rfl
     |some r=>rw[Ak (sZ 0) H]at D;cases D
    grind [jC]
   |some r=>
    grind [jC,KK]
theorem vn{n:Nat}: ∀(os:List be) {st D:St},ij E (hZ E) n os st=some D→ ∃m,ij E (jI E m) n os st=some D
 | [],st,D,h=>⟨0,h⟩
 |o::os,st,D,h=>by
  simp only[ij]at h
  cases J:ja E (hZ E) n o st with
  |none=>grind
  |some s=>
   simp only[J]at h
   obtain⟨H,K⟩:=Cp J
   obtain⟨I,N⟩:=vn os h
   refine⟨max H I, ?_⟩
   simp only[ij,qX (jy (Nat.le_max_left H I)) K]
   exact mH (jy (Nat.le_max_right H I)) os N
theorem Cq{n:Nat}: ∀(os:List (List Nat×be)) {J:List FP} {st K:St},iQ E (hZ E) n os J st=some K→ ∃m,iQ E (jI E m) n os J st=some K
 | [],J,st,K,h=>⟨0,h⟩
 |(u,o)::os,J,st,K,h=>by
  simp only[iQ]at h
  cases N:jC E (hZ E) o st with
  |none=>grind
  |some fp=>
   simp only[N]at h
   split at h
   ·rename_i U
    cases O:ja E (hZ E) n o st with
    |none=>grind
    |some s=>
     simp only[O]at h
     obtain⟨D,V⟩:=Cp O
     obtain⟨H,W⟩:=Cq os h
     obtain⟨I,X⟩:=KL N
     refine⟨max I (max D H), ?_⟩
     have Y:D≤max I (max D H):=by omega
     have Z:H≤max I (max D H):=by omega
     have l3:I≤max I (max D H):=by omega
     simp only[iQ,Al (jy l3) X,qX (jy Y) V]
     rw[if_pos U]
     exact qY (jy Z) os W
   ·cases h
theorem tb{α:Type}{x y:Option α}(h: ∀r,x=some r↔y=some r):x=y:=Option.ext h
theorem XL{n:Nat}{st:St}:DC E n .skip st=some (.nrm,st):=kh.2 ⟨0,rfl⟩
theorem XM{n id:Nat}{st:St}:DC E n (.exit id) st=some (.ext id,st):=kh.2 ⟨0,rfl⟩
theorem aeI{n:Nat}{st:St}:DC E n .ret st=some (.ret,st):=kh.2 ⟨0,rfl⟩
theorem Es{n:Nat}{ops:List be}{st:St}:DC E n (.region ops) st=(ij E (hZ E) n ops st).map fun D=>(.nrm,D):=by
 refine tb fun r=> ?_
 rw[kh,Option.map_eq_some_iff]
 constructor
 ·rintro⟨m,h⟩
  simp only[mE,Option.map_eq_some_iff]at h
  obtain⟨a,H,I⟩:=h
  exact⟨a,mH (sZ m) ops H,I⟩
 grind [mE,Option.map_eq_some_iff,vn]
theorem Iy{n:Nat}{ops:List (List Nat×be)}{st:St}:DC E n (.draws ops) st=(iQ E (hZ E) n ops [] st).map fun D=>(.nrm,D):=by
 refine tb fun r=> ?_
 rw[kh,Option.map_eq_some_iff]
 constructor
 ·rintro⟨m,h⟩
  simp only[mE,Option.map_eq_some_iff]at h
  obtain⟨a,H,I⟩:=h
  exact⟨a,qY (sZ m) ops H,I⟩
 grind [mE,Option.map_eq_some_iff,Cq]
def andThen(x:Option (Out×St))(f:St→Option (Out×St)):Option (Out×St):=
 match x with
 |some (.nrm,h)=>f h
 |r=>r
theorem Am{st:St}{f:St→Option (Out×St)}:andThen (some (.nrm,st)) f=f st:=rfl
theorem Iz{id:Nat}{st:St}{f:St→Option (Out×St)}:andThen (some (.ext id,st)) f=some (.ext id,st):=rfl
theorem IA{st:St}{f:St→Option (Out×St)}:andThen (some (.ret,st)) f=some (.ret,st):=rfl
theorem Tc{n:Nat}{a b:ic}{st:St}:DC E n (.seq a b) st=andThen (DC E n a st) (DC E n b):=by
 refine tb fun r=> ?_
 rw[kh]
 constructor
 ·rintro⟨m,h⟩
  simp only[mE]at h
  cases D:mE E (jI E m) m n a st with
  |none=>grind
  |some p=>
   rw[D]at h
   rw[kh.2 ⟨m,D⟩]
   obtain⟨o,s⟩:=p
   cases o with
   |nrm=>exact kh.2 ⟨m,h⟩
   |ext id=>exact h
   |ret=>exact h
 ·intro h
  cases D:DC E n a st with
  |none=>rw[D]at h;cases h
  |some p=>
   rw[D]at h
   obtain⟨H,I⟩:=kh.1 D
   obtain⟨o,s⟩:=p
   cases o with
   |nrm=>
    obtain⟨J,O⟩:=kh.1 h
    refine⟨max H J, ?_⟩
    have K:=Nat.le_max_left H J
    have N:=Nat.le_max_right H J
    simp only[mE,j6 (jy K) K a I]
    exact j6 (jy N) N b O
   |ext id=>refine⟨H, ?_⟩;simp only[mE,I];exact h
   |ret=>refine⟨H, ?_⟩;simp only[mE,I];exact h
theorem XN{n:Nat}{c:iD}{a b:ic}{st:St}:DC E n (.cond c a b) st=match st.rho c with| .b true=>DC E n a st| .b false=>DC E n b st|_=>none:=by
 refine tb fun r=> ?_
 grind [kh,mE,kh.2,kh.1]
def Cr(id:Nat)(x:Option (Out×St)):Option (Out×St):=
 match x with
 |some (.ext OG,h)=>if OG=id then some (.nrm,h)else some (.ext OG,h)
 |r=>r
theorem O1{id:Nat}{st:St}:Cr id (some (.nrm,st))=some (.nrm,st):=rfl
theorem O2{id:Nat}{st:St}:Cr id (some (.ret,st))=some (.ret,st):=rfl
theorem O3{id OG:Nat}{st:St}:Cr id (some (.ext OG,st))=if OG=id then some (.nrm,st)else some (.ext OG,st):=rfl
theorem Td{n id:Nat}{a:ic}{st:St}:DC E n (.block id a) st=Cr id (DC E n a st):=by
 refine tb fun r=> ?_
 rw[kh]
 constructor
 ·rintro⟨m,h⟩
  simp only[mE]at h
  cases D:mE E (jI E m) m n a st with
  |none=>grind
  |some p=>
   rw[D]at h
   rw[kh.2 ⟨m,D⟩]
   exact h
 ·intro h
  cases D:DC E n a st with
  |none=>rw[D]at h;cases h
  |some p=>
   rw[D]at h
   obtain⟨H,I⟩:=kh.1 D
   refine⟨H, ?_⟩
   simp only[mE,I]
   exact h
theorem vq{n:Nat}{a:ic}{st:St}:DC E n (.loop a) st=andThen (DC E n a st) (DC E n (.loop a)):=by
 refine tb fun r=> ?_
 rw[kh]
 constructor
 ·rintro⟨m,h⟩
  simp only[mE]at h
  cases m with
  |zero=>simp[iter]at h
  |succ m=>
   rw[iter]at h
   cases H:mE E (jI E (m+1)) (m+1) n a st with
   |none=>grind
   |some p=>
    rw[H]at h
    rw[kh.2 ⟨m+1,H⟩]
    obtain⟨o,s⟩:=p
    cases o with
    |nrm=>
     refine kh.2 ⟨m+1, ?_⟩
     simp only[mE]
     exact vi (fun _ _ h=>h) (Nat.le_succ m) h
    |ext id=>exact h
    |ret=>exact h
 ·intro h
  cases H:DC E n a st with
  |none=>rw[H]at h;cases h
  |some p=>
   rw[H]at h
   obtain⟨D,J⟩:=kh.1 H
   obtain⟨o,s⟩:=p
   cases o with
   |nrm=>
    obtain⟨I,K⟩:=kh.1 h
    refine⟨max D I+1, ?_⟩
    have N:D≤max D I+1:=by omega
    have O:I≤max D I+1:=by omega
    have U:I≤max D I:=by omega
    simp only[mE]at K
    simp only[mE]
    rw[iter,j6 (jy N) N a J]
    exact vi (fun st r V=>j6 (jy O) O a V) U K
   |ext id=>
    refine⟨D+1, ?_⟩
    simp only[mE]
    rw[iter,j6 (jy (Nat.le_succ D)) (Nat.le_succ D) a J]
    exact h
   |ret=>
    refine⟨D+1, ?_⟩
    simp only[mE]
    rw[iter,j6 (jy (Nat.le_succ D)) (Nat.le_succ D) a J]
    exact h
def Te(af:ig)(x:Option (Out×St)):Option (T×List ib):=
 match x with
 |some (.ext _,_)=>none
 |some (_,st)=>match nH st af.res with
  |some h=>sN af.own af.eff h st
  |none=>none
 |none=>none
theorem IB{f:Nat}{af:ig}{args:List T}{sh:List ib}(H:E.fn f=some af)(I:args.length≤af.n):
  hZ E f args sh=Te af (DC E af.n af.code {fr:=oX args,lh:= .nil,sh}):=by
 refine tb fun r=> ?_
 rw[DCall_iff]
 constructor
 ·rintro⟨m,h⟩
  cases m with
  |zero=>simp[jI]at h
  |succ m=>
   simp only[jI,H,if_neg (Nat.not_lt.2 I)]at h
   cases D:mE E (jI E m) m af.n af.code {fr:=oX args,lh:= .nil,sh}with
   |none=>grind
   |some p=>rw[D]at h;rw[kh.2 ⟨m,D⟩];exact h
 ·intro h
  cases D:DC E af.n af.code {fr:=oX args,lh:= .nil,sh}with
  |none=>rw[D]at h;cases h
  |some p=>
   rw[D]at h
   obtain⟨m,J⟩:=kh.1 D
   refine⟨m+1, ?_⟩
   simp only[jI,H,if_neg (Nat.not_lt.2 I),J]
   exact h
end
end Go.Ev
namespace Go.Ev
open Go
theorem nr{α:Sort _}{a b:α}(h:a=b):a=b:=h
def rd(fr:Fr):iD→T
 | .t k=>an fr k
 | .c v=>v
theorem aum(fr:Fr)(k:Nat):rd fr (.t k)=an fr k:=nr rfl
theorem rd_c(fr:Fr)(v:T):rd fr (.c v)=v:=nr rfl
theorem lG(fr:Fr)(lh:iz ib)(sh:List ib):(St.mk fr lh sh).rho=rd fr:=by funext x;cases x <;> rfl
theorem Tf(fr:Fr)(d:Nat)(v:T):an (j3 fr d v) d=v:=by rw[pS,if_pos rfl]
theorem Tg(fr:Fr){d m:Nat}(v:T)(h:m≠d):an (j3 fr d v) m=an fr m:=by rw[pS,if_neg h]
def a6(lh:iz ib)(k:Nat):ib:=iz.get lI lh k
def mr(lh:iz ib)(k:Nat)(e:ib):iz ib:=iz.set lI lh k e
theorem zq(lh:iz ib)(k:Nat)(e:ib):a6 (mr lh k e) k=e:=by grind [a6,mr,iz.get_set]
theorem jg(lh:iz ib){k m:Nat}(e:ib)(h:m≠k):a6 (mr lh k e) m=a6 lh m:=by grind [a6,mr,iz.get_set]
theorem Th(k:Nat):a6 .nil k=lI:=by unfold a6;exact iz.get_nil _ _
theorem MD(fr:Fr)(lh:iz ib)(sh:List ib)(k:Nat):(St.mk fr lh sh).get .L k=a6 lh k:=rfl
theorem AU(st:St):st.ups []=st:=rfl
theorem acn(fr:Fr)(lh:iz ib)(sh:List ib)(k:Nat)(e:ib)(us:List Up):(St.mk fr lh sh).ups ((.L,k,e)::us)=(St.mk fr (mr lh k e) sh).ups us:=rfl
def pF:Option BR→Option (T×List Up)
 |some (.val v h)=>some (v,h)
 |none=>none
def one(fr:Fr)(lh:iz ib)(sh:List ib)(d:Nat)(op:lH):Option (T×List Up):=
 pF ((jk d (rd fr) op).run (St.mk fr lh sh).get sh.length)
def vO(fr:Fr):Option Nat→T→Fr
 |some d,v=>j3 fr d v
 |none,_=>fr
def DH(n:Nat):Option Nat→Prop
 |some d=>d<n
 |none=>True
section
variable{E:Env}{call:p7}{n:Nat}{fr:Fr}{lh:iz ib}{sh:List ib}{os:List be}
theorem ano{st:St}:ij E call n [] st=some st:=rfl
theorem pG{d:Option Nat}{op:lH}(D:jq (rd fr) op=none)(H:DH n d):
  ij E call n (⟨d,op,none⟩::os) ⟨fr,lh,sh⟩=(one fr lh sh (d.getD 0) op).bind fun r=>ij E call n os {(St.mk fr lh sh).ups r.2 with fr:=vO fr d r.1}:=by
 simp only[ij,ja,lG,D]
 unfold one
 cases h:(jk (d.getD 0) (rd fr) op).run (St.mk fr lh sh).get sh.length with
 |none=>rfl
 |some r=>
  obtain⟨v,ups⟩:=r
  simp only[Option.bind_some,pF]
  cases d with
  |none=>rfl
  |some d=>simp only[nj,if_pos (show d<n from H),vO,Option.map_some]
theorem lr{d:Option Nat}{op:lH}(h:jq (rd fr) op=none)(D:DH n d){v:Option T}(H:one fr lh sh (d.getD 0) op=v.map fun v=>(v,[])):
  ij E call n (⟨d,op,none⟩::os) ⟨fr,lh,sh⟩=v.bind fun v=>ij E call n os ⟨vO fr d v,lh,sh⟩:=by
 rw[pG h D,H]
 cases v <;> rfl
theorem n4{o:Option T}{h:Sp→Nat→ib}{D:Nat}:pF ((val o).run h D)=o.map fun v=>(v,([]:List Up)):=by
 cases o <;> rfl
variable{d:Nat}
theorem aun{x:iD}(h:d<n):ij E call n (⟨some d,.mv x,none⟩::os) ⟨fr,lh,sh⟩=ij E call n os ⟨j3 fr d (rd fr x),lh,sh⟩:=
 lr (d:=some d) (v:=some (rd fr x)) (by rfl) h rfl
def ME(c a b:T):Option T:=match c with| .b x=>some (if x=true then a else b)|_=>none
theorem XO(x:Bool)(a b:T):ME (.b x) a b=some (if x=true then a else b):=rfl
theorem aeJ{c a b:iD}(D:d<n):ij E call n (⟨some d,.pick c a b,none⟩::os) ⟨fr,lh,sh⟩=(ME (rd fr c) (rd fr a) (rd fr b)).bind fun v=>ij E call n os ⟨j3 fr d v,lh,sh⟩:=by
 refine lr (d:=some d) (by rfl) D ?_
 unfold one ME
 simp only[jk]
 cases h:rd fr c <;> try rfl
 rename_i x
 cases x <;> rfl
theorem anp{op:BinOp}{x y:iD}(h:d<n):ij E call n (⟨some d,.bin op x y,none⟩::os) ⟨fr,lh,sh⟩=(Ev.bin op (rd fr x) (rd fr y)).bind fun v=>ij E call n os ⟨j3 fr d v,lh,sh⟩:=
 lr (d:=some d) (by rfl) h n4
theorem auo{neg:Bool}{k:EK}{x y:iD}(h:d<n):ij E call n (⟨some d,.eq neg k x y,none⟩::os) ⟨fr,lh,sh⟩=((tO k (rd fr x) (rd fr y)).map fun r=>T.b (r != neg)).bind fun v=>ij E call n os ⟨j3 fr d v,lh,sh⟩:=
 lr (d:=some d) (by rfl) h n4
theorem aup{op:UnOp}{x:iD}(h:d<n):ij E call n (⟨some d,.un op x,none⟩::os) ⟨fr,lh,sh⟩=(Ev.un op (rd fr x)).bind fun v=>ij E call n os ⟨j3 fr d v,lh,sh⟩:=
 lr (d:=some d) (by rfl) h n4
def XP(k:IntKind):T→Option T
 | .i _ n=>some (.i k (wr k n))
 |_=>none
theorem anq{k:IntKind}{x:iD}(D:d<n):ij E call n (⟨some d,.cvi k x,none⟩::os) ⟨fr,lh,sh⟩=(XP k (rd fr x)).bind fun v=>ij E call n os ⟨j3 fr d v,lh,sh⟩:=by
 refine lr (d:=some d) (by rfl) D ?_
 unfold one XP
 simp only[jk]
 cases h:rd fr x <;> rfl
def FW(fr:Fr)(z:List T)(h:List (Nat×Nat×iD)):Option T:=
 if(h.all fun p=>(cellsOf (rd fr p.2.2)).length=p.2.1&&noTup (rd fr p.2.2))=true then(pB z (h.map fun p=>(p.1,cellsOf (rd fr p.2.2)))).map .agg else none
theorem XQ{z:List T}{h:List (Nat×Nat×iD)}(D:d<n):ij E call n (⟨some d,.build z h,none⟩::os) ⟨fr,lh,sh⟩=(FW fr z h).bind fun v=>ij E call n os ⟨j3 fr d v,lh,sh⟩:=by
 refine lr (d:=some d) (by rfl) D ?_
 unfold one FW
 simp only[jk]
 split
 ·exact n4
 ·rfl
def te(fr:Fr)(x:T)(l h:Option iD):Option T:=
 match x with
 | .s D=>match ky (rd fr) 0 l,ky (rd fr) D.length h with
   |some l,some h=>if l≤h∧h≤D.length then some (.s ((D.drop l).take (h-l)))else none
   |_,_=>none
 |_=>none
theorem anr{x:iD}{l h:Option iD}(I:d<n):ij E call n (⟨some d,.slS x l h,none⟩::os) ⟨fr,lh,sh⟩=(te fr (rd fr x) l h).bind fun v=>ij E call n os ⟨j3 fr d v,lh,sh⟩:=by
 refine lr (d:=some d) (by rfl) I ?_
 unfold one te
 simp only[jk]
 cases J:rd fr x <;> try rfl
 rename_i D
 simp only[]
 cases K:ky (rd fr) 0 l <;> cases N:ky (rd fr) D.length h <;> try rfl
 rename_i a b
 simp only[Bool.and_eq_true,decide_eq_true_eq]
 by_cases H:a≤b∧b≤D.length
 ·simp only[if_pos H];rfl
 ·simp only[if_neg H];rfl
def faV(x:T)(off:Nat):Option T:=
 match x with
 | .vp cs=>if off≤cs.length then some (.vp (cs.drop off))else none
 | .ptr sp k g o=>some (.ptr sp k g (o+off))
 |_=>none
theorem auq{x:iD}{off:Nat}(h:d<n):ij E call n (⟨some d,.fa x off,none⟩::os) ⟨fr,lh,sh⟩=(faV (rd fr x) off).bind fun v=>ij E call n os ⟨j3 fr d v,lh,sh⟩:=by
 refine lr (d:=some d) (by rfl) h ?_
 unfold one faV
 simp only[jk]
 cases D:rd fr x <;> try rfl
 rename_i cs
 simp only[]
 split <;> rfl
def XR(x:T)(off n:Nat)(h:Bool):Option T:=match x with| .agg cs=>part cs off n h|_=>none
theorem ant{x:iD}{off m:Nat}{h:Bool}(D:d<n):ij E call n (⟨some d,.fld x off m h,none⟩::os) ⟨fr,lh,sh⟩=(XR (rd fr x) off m h).bind fun v=>ij E call n os ⟨j3 fr d v,lh,sh⟩:=by
 refine lr (d:=some d) (by rfl) D ?_
 unfold one XR
 simp only[jk]
 cases H:rd fr x <;> try rfl
 exact n4
def pv(x h:T)(sz:Nat):Option T:=
 match asNat h,x with
 |some j,.sl cs len _=>if j<len∧(j+1)*sz≤cs.length then some (.vp (cs.drop (j*sz)))else none
 |some j,.isl sp k g off len D=>if j<len∧D=sz then some (.ptr sp k g (off+j*sz))else none
 |_,_=>none
theorem aur{x h:iD}{sz:Nat}(D:d<n):ij E call n (⟨some d,.ia x h sz,none⟩::os) ⟨fr,lh,sh⟩=(pv (rd fr x) (rd fr h) sz).bind fun v=>ij E call n os ⟨j3 fr d v,lh,sh⟩:=by
 refine lr (d:=some d) (by rfl) D ?_
 unfold one pv
 simp only[jk]
 cases H:asNat (rd fr h)with
 |none=>rfl
 |some j=>
  cases I:rd fr x <;> try rfl
  ·simp only[Bool.and_eq_true,decide_eq_true_eq];split <;> rfl
  ·simp only[Bool.and_eq_true,decide_eq_true_eq];split <;> rfl
def mf(x h:T)(len sz:Nat):Option T:=
 match asNat h,x with
 |some j,.vp cs=>if j<len∧(j+1)*sz≤cs.length then some (.vp (cs.drop (j*sz)))else none
 |some j,.ptr sp k g off=>if j<len then some (.ptr sp k g (off+j*sz))else none
 |_,_=>none
theorem anu{x h:iD}{len sz:Nat}(D:d<n):ij E call n (⟨some d,.iaA x h len sz,none⟩::os) ⟨fr,lh,sh⟩=(mf (rd fr x) (rd fr h) len sz).bind fun v=>ij E call n os ⟨j3 fr d v,lh,sh⟩:=by
 refine lr (d:=some d) (by rfl) D ?_
 unfold one mf
 simp only[jk]
 cases H:asNat (rd fr h)with
 |none=>rfl
 |some j=>
  cases I:rd fr x <;> try rfl
  ·simp only[Bool.and_eq_true,decide_eq_true_eq];split <;> rfl
  ·simp only[];split <;> rfl
def DI(x h:T):Option T:=
 match asNat h,x with
 |some j,.s D=>D[j]?.map fun c=> .i .u8 c
 |_,_=>none
theorem anv{x h:iD}(D:d<n):ij E call n (⟨some d,.ixS x h,none⟩::os) ⟨fr,lh,sh⟩=(DI (rd fr x) (rd fr h)).bind fun v=>ij E call n os ⟨j3 fr d v,lh,sh⟩:=by
 refine lr (d:=some d) (by rfl) D ?_
 unfold one DI
 simp only[jk]
 cases I:asNat (rd fr h)with
 |none=>rfl
 |some j=>
  cases J:rd fr x <;> try rfl
  rename_i H
  simp only[]
  cases K:H[j]? <;> rfl
def XS(x h:T)(len sz:Nat)(D:Bool):Option T:=
 match asNat h,x with
 |some j,.agg cs=>if j<len then part cs (j*sz) sz D else none
 |_,_=>none
theorem anw{x h:iD}{len sz:Nat}{D:Bool}(H:d<n):ij E call n (⟨some d,.ixA x h len sz D,none⟩::os) ⟨fr,lh,sh⟩=(XS (rd fr x) (rd fr h) len sz D).bind fun v=>ij E call n os ⟨j3 fr d v,lh,sh⟩:=by
 refine lr (d:=some d) (by rfl) H ?_
 unfold one XS
 simp only[jk]
 cases I:asNat (rd fr h)with
 |none=>rfl
 |some j=>
  cases J:rd fr x <;> try rfl
  simp only[]
  split
  ·exact n4
  ·rfl
def XT(x:T)(j:Nat):Option T:=match x with| .tup vs=>vs[j]? |_=>none
theorem anx{x:iD}{j:Nat}(h:d<n):ij E call n (⟨some d,.ext x j,none⟩::os) ⟨fr,lh,sh⟩=(XT (rd fr x) j).bind fun v=>ij E call n os ⟨j3 fr d v,lh,sh⟩:=by
 refine lr (d:=some d) (by rfl) h ?_
 unfold one XT
 simp only[jk]
 cases D:rd fr x <;> try rfl
 exact n4
def MF(x:T):Option T:=match x with| .s bs=>some (.i .i64 bs.length)|_=>none
theorem aeK{x:iD}(h:d<n):ij E call n (⟨some d,.lenS x,none⟩::os) ⟨fr,lh,sh⟩=(MF (rd fr x)).bind fun v=>ij E call n os ⟨j3 fr d v,lh,sh⟩:=by
 refine lr (d:=some d) (by rfl) h ?_
 unfold one MF
 simp only[jk]
 cases D:rd fr x <;> rfl
theorem aeL{x:iD}(h:d<n):ij E call n (⟨some d,.lenV x,none⟩::os) ⟨fr,lh,sh⟩=((uh (rd fr x)).map fun m=>T.i .i64 m).bind fun v=>ij E call n os ⟨j3 fr d v,lh,sh⟩:=
 lr (d:=some d) (by rfl) h n4
def mmV(h:Bool)(l:List T):Option T:=match l with|x::rest=>nG h x rest| []=>none
theorem aus{h:Bool}{args:List iD}(H:d<n):ij E call n (⟨some d,.mm h args,none⟩::os) ⟨fr,lh,sh⟩=(mmV h (args.map (rd fr))).bind fun v=>ij E call n os ⟨j3 fr d v,lh,sh⟩:=by
 refine lr (d:=some d) (by rfl) H ?_
 unfold one mmV
 simp only[jk]
 cases I:args.map (rd fr)with
 |nil=>rfl
 |cons x D=>exact n4
def O4(x:T):Option T:=match x with| .vp cs=>some (.vp cs)| .ptr sp k g off=>some (.ptr sp k g off)| .fn f a c=>some (.fn f a c)|_=>none
theorem XU{x:iD}:one fr lh sh d (.nck x)=(O4 (rd fr x)).map fun v=>(v,[]):=by
 unfold one O4
 simp only[jk]
 cases h:rd fr x <;> rfl
theorem anz{x:iD}(h:d<n):ij E call n (⟨some d,.nck x,none⟩::os) ⟨fr,lh,sh⟩=(O4 (rd fr x)).bind fun v=>ij E call n os ⟨j3 fr d v,lh,sh⟩:=
 lr (d:=some d) (by rfl) h XU
def ldE(e:ib)(g off m:Nat)(h:Bool):Option T:=
 match e with
 |⟨D,.cells cs _ _⟩=>if D=g then part cs off m h else none
 |_=>none
theorem O5{g h off m H:Nat}{D bx:Bool}{cs:List T}:ldE ⟨h,.cells cs H bx⟩ g off m D=if h=g then part cs off m D else none:=rfl
def WK(lh:iz ib)(sh:List ib)(x:T)(m:Nat)(h:Bool):Option T:=
 match x with
 | .vp cs=>part cs 0 m h
 | .ptr .L k g off=>ldE (a6 lh k) g off m h
 | .ptr .S k g off=>ldE (jr sh k) g off m h
 |_=>none
theorem Ti{α:Type}{o:Option α}{h:Sp→Nat→ib}{D:Nat}:(Q.of o).run h D=o:=by cases o <;> rfl
theorem ldQ{h:Sp→Nat→ib}{I g off m:Nat}{D:Bool}(e:ib):Q.run h I (if e.g=g then(match e.ob with| .cells cs _ _=>Q.of (part cs off m D)|_=> .fail)else .fail)=ldE e g off m D:=by
 obtain⟨J,ob⟩:=e
 unfold ldE
 by_cases H:J=g
 ·cases ob <;> simp only[H,if_true] <;> first|rfl|exact Ti
 ·cases ob <;> simp only[H,if_false] <;> rfl
theorem MG{x:T}{m:Nat}{h:Bool}:(Fu x m h).run (St.mk fr lh sh).get sh.length=WK lh sh x m h:=by
 unfold Fu WK
 cases x <;> try rfl
 ·exact Ti
 ·rename_i sp k g off
  cases sp
  ·exact ldQ (a6 lh k)
  ·exact ldQ (jr sh k)
theorem jt{α β:Type}{h:Sp→Nat→ib}{D:Nat}{f:α→Q β}: ∀(q:Q α),(q.bind f).run h D=(q.run h D).bind fun a=>(f a).run h D
 | .ret a=>rfl
 | .fail=>rfl
 | .rd sp k g=>jt (g (h sp k))
 | .new g=>jt (g D)
theorem aut{x:iD}{m:Nat}{h:Bool}(D:d<n):ij E call n (⟨some d,.ld x m h,none⟩::os) ⟨fr,lh,sh⟩=(WK lh sh (rd fr x) m h).bind fun v=>ij E call n os ⟨j3 fr d v,lh,sh⟩:=by
 refine lr (d:=some d) (by rfl) D ?_
 unfold one
 simp only[jk,jt,MG]
 cases WK lh sh (rd fr x) m h <;> rfl
theorem XV{z:List T}(h:d<n):ij E call n (⟨some d,.alloc z false,none⟩::os) ⟨fr,lh,sh⟩=ij E call n os ⟨j3 fr d (.ptr .L d ((a6 lh d).g+1) 0),mr lh d ⟨(a6 lh d).g+1,.cells z 0 true⟩,sh⟩:=by
 rw[pG (by rfl) (show DH n (some d)from h)];rfl
theorem anA{x:iD}(h:d<n)(D:noTup (rd fr x)=true):ij E call n (⟨some d,.box x false,none⟩::os) ⟨fr,lh,sh⟩=ij E call n os ⟨j3 fr d (.ptr .L d ((a6 lh d).g+1) 0),mr lh d ⟨(a6 lh d).g+1,.cells (cellsOf (rd fr x)) 0 true⟩,sh⟩:=by
 rw[pG (by rfl) (show DH n (some d)from h)]
 unfold one
 simp only[jk,D]
 rfl
theorem XW(h:d<n):ij E call n (⟨some d,.mkmap false,none⟩::os) ⟨fr,lh,sh⟩=ij E call n os ⟨j3 fr d (.mp .L d ((a6 lh d).g+1)),mr lh d ⟨(a6 lh d).g+1,.map [] [] false⟩,sh⟩:=by
 rw[pG (by rfl) (show DH n (some d)from h)];rfl
def KM(x:T)(bytes:Nat):Option Nat:=match asNat x with|some m=>if m*bytes≤roomy∧m≤roomy then some m else none|none=>none
theorem aeN{z:List T}{bytes:Nat}{x:iD}(h:d<n):ij E call n (⟨some d,.mksl z bytes x false,none⟩::os) ⟨fr,lh,sh⟩=
  (KM (rd fr x) bytes).bind fun m=>ij E call n os ⟨j3 fr d (.isl .L d ((a6 lh d).g+1) 0 m z.length),mr lh d ⟨(a6 lh d).g+1,.cells (repl z m) 0 (Xg z)⟩,sh⟩:=by
 rw[pG (by rfl) (show DH n (some d)from h)]
 unfold one KM
 simp only[jk]
 cases asNat (rd fr x)with
 |none=>rfl
 |some m=>
  simp only[Bool.and_eq_true,decide_eq_true_eq]
  split <;> rfl
end
end Go.Ev
namespace Go.Ev
open Go
def froz1:T→Bool
 | .b _| .i .. | .s _| .nilsl| .sl .. | .nilptr| .vp _| .nilmp| .vm .. | .nilfn=>true
 |_=>false
def froz:T→Bool
 | .agg cs=>cs.all froz1
 | .tup cs=>cs.all froz1
 | .fn _ a c=>a.all froz1&&c.all froz1
 |t=>froz1 t
theorem uy{keep:Bool}{n:Nat}{t:T}(h:froz1 t=true):fz keep (n+1) t= .ret (t,[]):=by
 cases t <;> first|rfl|(simp[froz1]at h)
theorem nI{keep:Bool}{n:Nat}: ∀(ts:List T),ts.all froz1=true→jd (fz keep (n+1)) ts= .ret (ts,[])
 | [],_=>rfl
 |t::ts,h=>by
  simp_all[List.all_cons,Bool.and_eq_true,jd,uy,nI,Q.bind,List.append_nil]
theorem FX{keep:Bool}{n:Nat}{cs:List T}:fz keep (n+1) (.agg cs)=(jd (fz keep n) cs).bind fun q=> .ret (.agg q.1,q.2):=rfl
theorem KN{keep:Bool}{n:Nat}{cs:List T}:fz keep (n+1) (.tup cs)=(jd (fz keep n) cs).bind fun q=> .ret (.tup q.1,q.2):=rfl
theorem aco{keep:Bool}{n f:Nat}{a c:List T}:fz keep (n+1) (.fn f a c)=(jd (fz keep n) a).bind fun p=>(jd (fz keep n) c).bind fun q=> .ret (.fn f p.1 q.1,p.2++q.2):=rfl
theorem oS{keep:Bool}{n:Nat}{t:T}(h:froz t=true):fz keep (n+2) t= .ret (t,[]):=by
 cases t with
 |agg cs=>simp only[froz]at h;rw[FX,nI cs h];rfl
 |tup cs=>simp only[froz]at h;rw[KN,nI cs h];rfl
 |fn f a c=>simp only[froz,Bool.and_eq_true]at h;rw[aco,nI a h.1,nI c h.2];rfl
 |_=>exact uy h
def fzV(lh:iz ib)(sh:List ib)(keep:Bool)(v:T):Option (T×List Up):=(fz keep iE v).run (St.mk .nil lh sh).get sh.length
def Dn(lh:iz ib)(sh:List ib)(keep:Bool)(h:List T):Option (List T×List Up):=(jd (fz keep iE) h).run (St.mk .nil lh sh).get sh.length
section
variable{lh:iz ib}{sh:List ib}{keep:Bool}
theorem uz{v:T}(h:froz v=true):fzV lh sh keep v=some (v,[]):=by
 unfold fzV iE;rw[oS h];rfl
theorem FY:Dn lh sh keep []=some ([],[]):=rfl
theorem rZ{v:T}{h:List T}:Dn lh sh keep (v::h)=(fzV lh sh keep v).bind fun p=>(Dn lh sh keep h).bind fun q=>some (p.1::q.1,p.2++q.2):=by
 unfold Dn fzV
 rw[jd,jt]
 congr 1
 funext p
 rw[jt]
 rfl
theorem uA{D:List T}(h:D.all froz=true):Dn lh sh keep D=some (D,[]):=by
 induction D with
 |nil=>rfl
 |cons v D ih=>
  simp_all[List.all_cons,Bool.and_eq_true,rZ,uz]
def Tj(m:Nat)(lh:iz ib)(sh:List ib)(k:Nat)(e:ib)(g off len sz:Nat):Option (T×List Up):=
 match e with
 |⟨h,.cells cs _ false⟩=>if h=g∧off+len*sz≤cs.length then some (.sl ((cs.drop off).take (len*sz)) len false,[(.L,k,⟨g,.cells cs cs.length false⟩)])else none
 |⟨h,.cells cs _ true⟩=>if h=g∧off+len*sz≤cs.length then((jd (fz false m) ((cs.drop off).take (len*sz))).run (St.mk .nil lh sh).get sh.length).map fun q=>(.sl q.1 len false,q.2++ [(.L,k,⟨g,.cells cs cs.length true⟩)])else none
 |_=>none
theorem anB{m k g off len sz:Nat}(e:ib):Q.run (St.mk .nil lh sh).get sh.length (if e.g=g then(match e.ob with
        | .cells cs _ false=>if off+len*sz≤cs.length then .ret (T.sl ((cs.drop off).take (len*sz)) len false,[(Sp.L,k,(⟨g,.cells cs cs.length false⟩:ib))])else .fail
        | .cells cs _ true=>if off+len*sz≤cs.length then(jd (fz false m) ((cs.drop off).take (len*sz))).bind fun q=> .ret (T.sl q.1 len false,q.2++ [(Sp.L,k,(⟨g,.cells cs cs.length true⟩:ib))])else .fail
        |_=> .fail)else .fail)=Tj m lh sh k e g off len sz:=by
 obtain⟨H,ob⟩:=e
 unfold Tj
 by_cases h:H=g
 ·cases ob with
  |cells cs I bx=>
   cases bx
   ·grind [Q.run]
   ·by_cases D:off+len*sz≤cs.length
    ·simp only[h,D,if_true,and_self,jt]
     cases (jd (fz false m) ((cs.drop off).take (len*sz))).run (St.mk .nil lh sh).get sh.length <;> rfl
    ·simp[h,D,Q.run]
  |_=>simp[h,Q.run]
 grind [Q.run]
theorem MH{k g off len sz:Nat}:fzV lh sh keep (.isl .L k g off len sz)=Tj 7 lh sh k (a6 lh k) g off len sz:=by
 cases keep <;> exact anB (a6 lh k)
def mpV(k:Nat)(e:ib)(g:Nat):Option (T×List Up):=
 match e with
 |⟨D,.map ks h _⟩=>if D=g then some (.vm ks h,[(.L,k,⟨g,.map ks h true⟩)])else none
 |_=>none
theorem mpQ{h:Sp→Nat→ib}{H k g:Nat}(e:ib):Q.run h H (if e.g=g then(match e.ob with
        | .map ks D _=> .ret (T.vm ks D,[(Sp.L,k,(⟨g,.map ks D true⟩:ib))])
        |_=> .fail)else .fail)=mpV k e g:=by
 obtain⟨I,ob⟩:=e
 unfold mpV
 grind [Q.run]
theorem aeO{k g:Nat}:fzV lh sh keep (.mp .L k g)=mpV k (a6 lh k) g:=by
 cases keep <;> exact mpQ (a6 lh k)
theorem O6{k g off:Nat}:fzV lh sh true (.ptr .S k g off)=some (.ptr .S k g off,[]):=rfl
theorem XX{cs:List T}:fzV lh sh keep (.agg cs)=((jd (fz keep 7) cs).run (St.mk .nil lh sh).get sh.length).map fun q=>(.agg q.1,q.2):=by
 unfold fzV iE
 rw[FX,jt]
 cases (jd (fz keep 7) cs).run (St.mk .nil lh sh).get sh.length <;> rfl
theorem XY{cs:List T}:fzV lh sh keep (.tup cs)=((jd (fz keep 7) cs).run (St.mk .nil lh sh).get sh.length).map fun q=>(.tup q.1,q.2):=by
 unfold fzV iE
 rw[KN,jt]
 cases (jd (fz keep 7) cs).run (St.mk .nil lh sh).get sh.length <;> rfl
end
section
variable{E:Env}{call:p7}{n:Nat}{fr:Fr}{lh:iz ib}{sh:List ib}{os:List be}{d:Nat}
theorem rC:(St.mk fr lh sh).get=(St.mk .nil lh sh).get:=by funext sp k;cases sp <;> rfl
theorem pV: ∀(us:List Up) (lh:iz ib) (sh:List ib),(St.mk fr lh sh).ups us={(St.mk .nil lh sh).ups us with fr:=fr}
 | [],lh,sh=>rfl
 |(.L,k,e)::us,lh,sh=>pV us (mr lh k e) sh
 |(.S,k,e)::us,lh,sh=>pV us lh (jO sh k e)
def pg(lh:iz ib)(sh:List ib)(x v:T)(m:Nat):Option (iz ib×List ib):=
 match(tP x v m).run (St.mk .nil lh sh).get sh.length with
 |some (.val _ us)=>some (((St.mk .nil lh sh).ups us).lh,((St.mk .nil lh sh).ups us).sh)
 |none=>none
theorem auu{x v:iD}{m:Nat}:ij E call n (⟨none,.st x v m,none⟩::os) ⟨fr,lh,sh⟩=(pg lh sh (rd fr x) (rd fr v) m).bind fun r=>ij E call n os ⟨fr,r.1,r.2⟩:=by
 rw[pG (by rfl) (show DH n none from trivial)]
 grind [one,pg,jk,rC,vO,pF,pV]
def stB(lh:iz ib)(sh:List ib)(k:Nat)(e:ib)(g off:Nat)(v:T)(m:Nat):Option (iz ib×List ib):=
 match e with
 |⟨D,.cells cs h true⟩=>if D=g∧(cellsOf v).length=m∧noTup v=true∧h≤off∧off+m≤cs.length then some (mr lh k ⟨g,.cells (splice cs off (cellsOf v)) h true⟩,sh)else none
 |⟨D,.cells cs h false⟩=>if D=g∧(cellsOf v).length=m∧noTup v=true∧h≤off∧off+m≤cs.length then
    (fzV lh sh false v).bind fun p=>if oC p.2 .L k=true∨noTup p.1=false∨(cellsOf p.1).length≠m then none else some (((St.mk .nil lh sh).ups (p.2++ [(.L,k,⟨g,.cells (splice cs off (cellsOf p.1)) h false⟩)])).lh,((St.mk .nil lh sh).ups (p.2++ [(.L,k,⟨g,.cells (splice cs off (cellsOf p.1)) h false⟩)])).sh)
  else none
 |_=>none
def ny(lh:iz ib)(sh:List ib):Option BR→Option (iz ib×List ib)
 |some (.val _ us)=>some (((St.mk .nil lh sh).ups us).lh,((St.mk .nil lh sh).ups us).sh)
 |none=>none
def XZ(k g off m:Nat)(v:T)(e:ib):Q BR:=if e.g=g then match e.ob with
     | .cells cs h bx=>if h≤off&&off+m≤cs.length then
         (if bx&&Sp.L== .L then .ret (.val iI [(Sp.L,k,⟨g,.cells (splice cs off (cellsOf v)) h bx⟩)])
         else(fz (bx&&Sp.L== .S) iE v).bind fun p=>if oC p.2 .L k|| !noTup p.1||(cellsOf p.1).length≠m then .fail else .ret (.val iI (p.2++ [(Sp.L,k,⟨g,.cells (splice cs off (cellsOf p.1)) h bx⟩)])))
       else .fail
     |_=> .fail
    else .fail
theorem stQ{k g off m:Nat}{v:T}(e:ib)(I:(cellsOf v).length=m)(J:noTup v=true):ny lh sh (Q.run (St.mk .nil lh sh).get sh.length (XZ k g off m v e))=stB lh sh k e g off v m:=by
 obtain⟨K,ob⟩:=e
 unfold stB XZ
 by_cases N:K=g
 ·subst N
  cases ob with
  |none=>simp[Q.run,ny]
  |map ks O z=>simp[Q.run,ny]
  |cells cs h bx=>
   by_cases D:h≤off∧off+m≤cs.length
   ·cases bx with
    |true=>grind [Q.run,acn,AU,ny]
    |false=>
     have H:(decide (h≤off)&&decide (off+m≤cs.length))=true:=by simp[D.1,D.2]
     simp only[if_true,H,Bool.false_and,Bool.false_eq_true,if_false,jt]
     rw[if_pos (show True∧(cellsOf v).length=m∧noTup v=true∧h≤off∧off+m≤cs.length from⟨trivial,I,J,D⟩)]
     show ny lh sh (Option.bind (fzV lh sh false v) _)=_
     cases U:fzV lh sh false v with
     |none=>rfl
     |some p=>
      simp only[Option.bind_some]
      by_cases V:(oC p.2 .L k=true∨noTup p.1=false∨(cellsOf p.1).length≠m)
      ·grind [Q.run,ny]
      simp_all[Bool.false_eq_true,Q.run,ny,Classical.byContradiction]
   grind [Bool.false_eq_true,Q.run,ny]
 grind [Q.run,ny]
theorem anD{k g off m:Nat}{v:T}:pg lh sh (.ptr .L k g off) v m=stB lh sh k (a6 lh k) g off v m:=by
 by_cases h:(cellsOf v).length=m
 ·cases D:noTup v with
  |false=>
   unfold pg tP
   have:(decide ((cellsOf v).length≠m)|| !noTup v)=true:=by simp[D]
   simp only[this,if_true,Q.run]
   unfold stB
   grind
  |true=>
   unfold pg tP
   have:(decide ((cellsOf v).length≠m)|| !noTup v)=false:=by simp[h,D]
   simp only[this,Bool.false_eq_true,if_false]
   exact stQ (a6 lh k) h D
 ·unfold pg tP
  have:(decide ((cellsOf v).length≠m)|| !noTup v)=true:=by simp[h]
  simp only[this,if_true,Q.run]
  unfold stB
  grind
theorem X0{k g D off m h:Nat}{cs:List T}{v:T}:stB lh sh k ⟨D,.cells cs h true⟩ g off v m=if D=g∧(cellsOf v).length=m∧noTup v=true∧h≤off∧off+m≤cs.length then some (mr lh k ⟨g,.cells (splice cs off (cellsOf v)) h true⟩,sh)else none:=rfl
theorem X1{k g H off m D:Nat}{cs:List T}{v:T}(I:froz v=true):stB lh sh k ⟨H,.cells cs D false⟩ g off v m=if H=g∧(cellsOf v).length=m∧noTup v=true∧D≤off∧off+m≤cs.length then some (mr lh k ⟨g,.cells (splice cs off (cellsOf v)) D false⟩,sh)else none:=by
 unfold stB
 simp only[uz I,Option.bind_some,oC,List.any_nil,Bool.false_eq_true,false_or]
 by_cases h:H=g∧(cellsOf v).length=m∧noTup v=true∧D≤off∧off+m≤cs.length
 ·rw[if_pos h,if_pos h,if_neg (by rintro(hc|hc) <;> simp_all)]
  rfl
 ·grind
def slC(lh:iz ib)(sh:List ib)(sz:Nat)(x:T):Option (Nat×List T):=(jP sz x).run (St.mk .nil lh sh).get sh.length
theorem FZ{sz len:Nat}{cs:List T}{ex:Bool}:slC lh sh sz (.sl cs len ex)=if cs.length=len*sz then some (len,cs)else none:=by
 unfold slC jP;simp only[];split <;> rfl
def O7(lh:iz ib)(k:Nat)(e:ib)(g off len sz h bytes:Nat)(p:Nat×List T):Option (T×iz ib):=
 match e with
 |⟨D,.cells cs H false⟩=>if h=sz∧off=0∧(len+p.1)*bytes≤roomy∧D=g∧len*sz=cs.length then some (.isl .L k (g+1) 0 (len+p.1) sz,mr lh k ⟨g+1,.cells (cs++p.2) H false⟩)else none
 |_=>none
def F0(lh:iz ib)(d sz bytes:Nat)(s:T)(p:Nat×List T):Option (T×iz ib):=
 if p.1=0 then(match s with| .nilsl| .sl .. | .isl .. =>some (s,lh)|_=>none)else
 match s with
 | .nilsl=>if p.1*bytes≤roomy then some (.isl .L d ((a6 lh d).g+1) 0 p.1 sz,mr lh d ⟨(a6 lh d).g+1,.cells p.2 0 false⟩)else none
 | .sl cs len true=>if cs.length=len*sz∧(len+p.1)*bytes≤roomy then some (.isl .L d ((a6 lh d).g+1) 0 (len+p.1) sz,mr lh d ⟨(a6 lh d).g+1,.cells (cs++p.2) 0 false⟩)else none
 | .isl .L k g off len h=>O7 lh k (a6 lh k) g off len sz h bytes p
 |_=>none
def acq(k g off len sz D bytes:Nat)(p:Nat×List T)(e:ib):Q BR:=
     if e.g=g then match e.ob with
      | .cells cs h false=>if len*sz=cs.length then .ret (.val (.isl .L k (g+1) 0 (len+p.1) sz) [(.L,k,⟨g+1,.cells (cs++p.2) h false⟩)])else .fail
      |_=> .fail
     else .fail
theorem auv{k g off len sz h bytes:Nat}{p:Nat×List T}(e:ib)(D:h=sz∧off=0∧(len+p.1)*bytes≤roomy):
  ((pF (Q.run (St.mk .nil lh sh).get sh.length (acq k g off len sz h bytes p e))).bind fun r=>ij E call n os {(St.mk fr lh sh).ups r.2 with fr:=j3 fr d r.1})=
    (O7 lh k e g off len sz h bytes p).bind fun q=>ij E call n os ⟨j3 fr d q.1,q.2,sh⟩:=by
 obtain⟨H,ob⟩:=e
 unfold acq O7
 by_cases I:H=g
 ·cases ob with
  |cells cs K bx=>
   cases bx
   ·by_cases J:len*sz=cs.length
    ·simp only[I,J,if_true,Q.run,pF,D,and_self,Option.bind_some]
     rfl
    ·grind [Q.run,pF]
   ·grind [Q.run,pF]
  |_=>grind [Q.run,pF]
 grind [Q.run,pF]
theorem anE{sz bytes:Nat}{s x:iD}(I:d<n)(hs: ∀k g off len sz,rd fr s≠ .isl .S k g off len sz):ij E call n (⟨some d,.app sz bytes s x false false,none⟩::os) ⟨fr,lh,sh⟩=
  (slC lh sh sz (rd fr x)).bind fun p=>(F0 lh d sz bytes (rd fr s) p).bind fun q=>ij E call n os ⟨j3 fr d q.1,q.2,sh⟩:=by
 rw[pG (by rfl) (show DH n (some d)from I)]
 unfold one slC
 simp only[jk,rP,jt,rC]
 cases K:(jP sz (rd fr x)).run (St.mk .nil lh sh).get sh.length with
 |none=>rfl
 |some p=>
  simp only[Option.bind_some]
  unfold F0
  by_cases H:p.1=0
  ·simp only[if_pos H]
   cases D:rd fr s <;> rfl
  ·simp only[if_neg H]
   cases D:rd fr s <;> try rfl
   ·simp only[]
    split <;> rfl
   ·rename_i cs len ex
    cases ex
    ·rfl
    ·simp only[Bool.and_eq_true,decide_eq_true_eq]
     split <;> rfl
   ·rename_i sp k g off len J
    cases sp
    ·simp only[Bool.and_eq_true,decide_eq_true_eq]
     by_cases h:(J=sz∧off=0)∧(len+p.1)*bytes≤roomy
     ·simp only[if_pos h]
      exact auv (a6 lh k) ⟨h.1.1,h.1.2,h.2⟩
     ·simp only[if_neg h,Q.run,pF]
      unfold O7
      grind
    ·grind
def wC(sz:Nat)(x:T)(l h:Nat):Option T:=
 match x with
 | .nilsl=>if l=0∧h=0 then some .nilsl else none
 | .sl cs len ex=>if l≤h∧h≤len∧cs.length=len*sz then some (.sl ((cs.drop (l*sz)).take ((h-l)*sz)) (h-l) (ex&&decide (h=len)))else none
 | .isl sp k g off len D=>if l≤h∧h≤len∧D=sz then some (if l=h then(if sp= .S∧h=0∧off=0 then .isl sp k g 0 0 sz else .sl [] 0 false)else .isl sp k g (off+l*sz) (h-l) sz)else none
 |_=>none
def X2(fr:Fr)(sz:Nat)(x:T)(l h:Option iD):Option T:=
 (uh x).bind fun m=>(ky (rd fr) 0 l).bind fun l=>(ky (rd fr) m h).bind fun h=>wC sz x l h
theorem O8{sz l h D:Nat}{x:T}{H:Sp→Nat→ib}:(z7 sz x l h).run H D=wC sz x l h:=by
 unfold z7 wC
 cases x <;> try rfl
 ·simp only[Bool.and_eq_true,decide_eq_true_eq];split <;> rfl
 ·simp only[Bool.and_eq_true,decide_eq_true_eq,and_assoc];split <;> rfl
 ·simp only[Bool.and_eq_true,decide_eq_true_eq,and_assoc];split <;> rfl
theorem anF{sz:Nat}{x:iD}{l h:Option iD}(D:d<n):ij E call n (⟨some d,.slV sz x l h none,none⟩::os) ⟨fr,lh,sh⟩=(X2 fr sz (rd fr x) l h).bind fun v=>ij E call n os ⟨j3 fr d v,lh,sh⟩:=by
 refine lr (d:=some d) (by rfl) D ?_
 unfold one X2
 simp only[jk]
 cases uh (rd fr x)with
 |none=>rfl
 |some m=>
  simp only[Option.bind_some]
  cases ky (rd fr) 0 l with
  |none=>rfl
  |some l=>
   cases ky (rd fr) m h with
   |none=>rfl
   |some h=>
    simp only[jt,O8,Option.bind_some]
    cases wC sz (rd fr x) l h <;> rfl
def lkE(e:ib)(g:Nat)(h:EK)(k z:T)(D:Bool):Option T:=
 match e with
 |⟨H,.map ks I _⟩=>if H=g then nF h ks I k z D else none
 |_=>none
def lkV(lh:iz ib)(sh:List ib)(h:EK)(m k z:T)(D:Bool):Option T:=
 match m with
 | .nilmp=>if isKey h k=true then some (if D=true then .tup [z,.b false]else z)else none
 | .vm ks H=>nF h ks H k z D
 | .mp .L kk g=>lkE (a6 lh kk) g h k z D
 | .mp .S kk g=>lkE (jr sh kk) g h k z D
 |_=>none
theorem lkQ{h:Sp→Nat→ib}{J g:Nat}{D:EK}{k z:T}{H:Bool}(e:ib):pF (Q.run h J (if e.g=g then(match e.ob with| .map ks vs _=>val (nF D ks vs k z H)|_=> .fail)else .fail))=(lkE e g D k z H).map fun v=>(v,[]):=by
 obtain⟨K,ob⟩:=e
 unfold lkE
 by_cases I:K=g
 ·cases ob <;> simp only[I,if_true] <;> first|rfl|exact n4
 ·cases ob <;> simp only[I,if_false] <;> rfl
theorem auw{h:EK}{m k:iD}{z:T}{D:Bool}(H:d<n):ij E call n (⟨some d,.lk h m k z D,none⟩::os) ⟨fr,lh,sh⟩=(lkV lh sh h (rd fr m) (rd fr k) z D).bind fun v=>ij E call n os ⟨j3 fr d v,lh,sh⟩:=by
 refine lr (d:=some d) (by rfl) H ?_
 unfold one lkV
 simp only[jk]
 cases I:rd fr m <;> try rfl
 ·simp only[];split <;> rfl
 ·exact n4
 ·rename_i sp kk g
  cases sp
  ·exact lkQ (a6 lh kk)
  ·exact lkQ (jr sh kk)
def muE(lh:iz ib)(kk:Nat)(e:ib)(g:Nat)(h:EK)(k v:T):Option (iz ib):=
 match e with
 |⟨D,.map ks H false⟩=>if D=g∧isKey h k=true then(p6 h k v ks H).map fun q=>mr lh kk ⟨g,.map q.1 q.2 false⟩else none
 |_=>none
def X3(kk g:Nat)(h:EK)(k v:T)(e:ib):Q BR:=if e.g=g&&isKey h k then match e.ob with
      | .map ks D false=>(fz false iE v).bind fun p=>match p6 h k p.1 ks D with
        |some q=>if oC p.2 .L kk then .fail else .ret (.val iI (p.2++ [(.L,kk,⟨g,.map q.1 q.2 false⟩)]))
        |none=> .fail
      |_=> .fail
     else .fail
theorem muQ{kk g:Nat}{h:EK}{k v:T}(e:ib)(I:froz v=true):((pF (Q.run (St.mk fr lh sh).get sh.length (X3 kk g h k v e))).bind fun r=>ij E call n os {(St.mk fr lh sh).ups r.2 with fr:=fr})=
  (muE lh kk e g h k v).bind fun J=>ij E call n os ⟨fr,J,sh⟩:=by
 obtain⟨H,ob⟩:=e
 unfold X3 muE
 by_cases D:H=g∧isKey h k=true
 ·have:(decide (H=g)&&isKey h k)=true:=by simp[D.1,D.2]
  simp only[this,if_true]
  cases ob with
  |none=>rfl
  |cells cs N bx=>rfl
  |map ks K z=>
   cases z with
   |true=>rfl
   |false=>
    simp only[if_pos D]
    unfold iE
    rw[oS I]
    simp only[Q.bind]
    cases p6 h k v ks K with
    |none=>rfl
    |some q=>simp only[oC,List.any_nil,Bool.false_eq_true,if_false,Q.run,List.nil_append];rfl
 grind [Bool.false_eq_true,Q.run,pF]
theorem anG{h:EK}{m k v:iD}{kk g:Nat}(D:rd fr m= .mp .L kk g)(H:froz (rd fr v)=true):ij E call n (⟨none,.mu h m k v,none⟩::os) ⟨fr,lh,sh⟩=(muE lh kk (a6 lh kk) g h (rd fr k) (rd fr v)).bind fun I=>ij E call n os ⟨fr,I,sh⟩:=by
 rw[pG (by rfl) (show DH n none from trivial)]
 unfold one
 simp only[jk,D]
 exact muQ (a6 lh kk) H
def muV(lh:iz ib)(h:EK)(m k v:T):Option (iz ib):=
 match m with
 | .mp .L kk g=>muE lh kk (a6 lh kk) g h k v
 |_=>none
theorem auy{D:EK}{m k v:iD}(J: ∀kk g,rd fr m≠ .mp .S kk g)(H:froz (rd fr v)=true):ij E call n (⟨none,.mu D m k v,none⟩::os) ⟨fr,lh,sh⟩=(muV lh D (rd fr m) (rd fr k) (rd fr v)).bind fun I=>ij E call n os ⟨fr,I,sh⟩:=by
 cases h:rd fr m with
 |mp sp kk g=>
  cases sp with
  |L=>rw[anG h H];rfl
  |S=>grind
 |_=>
  rw[pG (by rfl) (show DH n none from trivial)]
  unfold one
  simp only[jk,h]
  rfl
def O9(z:List T)(len:Nat)(D:List Nat)(h:List T):Option T:=
 if(h.all fun v=>(cellsOf v).length=z.length&&noTup v)=true then(pB (repl z len) ((D.map fun i=>i*z.length).zip (h.map cellsOf))).map fun cs=> .sl cs len true else none
theorem anH{z:List T}{len:Nat}{h:List (Nat×iD)}(D:d<n):ij E call n (⟨some d,.bsl z len h,none⟩::os) ⟨fr,lh,sh⟩=
  (Dn lh sh false (h.map fun p=>rd fr p.2)).bind fun q=>(O9 z len (h.map (·.1)) q.1).bind fun v=>ij E call n os {(St.mk fr lh sh).ups q.2 with fr:=j3 fr d v}:=by
 rw[pG (by rfl) (show DH n (some d)from D)]
 unfold one Dn O9
 simp only[jk,jt,rC]
 cases (jd (fz false iE) (h.map fun p=>rd fr p.2)).run (St.mk .nil lh sh).get sh.length with
 |none=>rfl
 |some q=>
  simp only[Option.bind_some]
  have e:(h.map (·.1)).map (fun i=>i*z.length)=h.map fun p=>p.1*z.length:=by rw[List.map_map];rfl
  rw[e]
  split
  ·cases pB (repl z len) ((h.map fun p=>p.1*z.length).zip (q.1.map cellsOf)) <;> rfl
  ·rfl
theorem aeP{d:Option Nat}{op:lH}{f:Nat}{args:List T}(h:jq (rd fr) op=some (some (f,args)))(D:DH n d):
  ij E call n (⟨d,op,none⟩::os) ⟨fr,lh,sh⟩=(je E call (d.getD 0) ⟨fr,lh,sh⟩ f args).bind fun r=>ij E call n os ⟨vO fr d r.1,r.2.lh,r.2.sh⟩:=by
 simp only[ij,ja,lG,h]
 cases je E call (d.getD 0) ⟨fr,lh,sh⟩ f args with
 |none=>rfl
 |some r=>
  simp only[Option.bind_some]
  cases d with
  |none=>rfl
  |some d=>simp only[nj,if_pos (show d<n from D),vO,Option.map_some]
theorem aeQ{f:Nat}{as:List iD}(h:d<n):ij E call n (⟨some d,.callf f as,none⟩::os) ⟨fr,lh,sh⟩=(je E call d ⟨fr,lh,sh⟩ f (as.map (rd fr))).bind fun r=>ij E call n os ⟨j3 fr d r.1,r.2.lh,r.2.sh⟩:=
 aeP (d:=some d) rfl h
theorem HU{h:Nat}{af:ig}{f:Nat}{args:List T}(D:E.fn f=some af)(H:af.eff=false)(I:af.own=none):je E call h ⟨fr,lh,sh⟩ f args=
  (Dn lh sh false args).bind fun q=>(call f q.1 []).bind fun r=>some (r.1,if scalar r.1=true then⟨fr,lh,sh⟩else(St.mk fr lh sh).ups q.2):=by
 grind [je,Dn,rC,Bool.false_eq_true]
theorem HT{h:Nat}{af:ig}{f:Nat}{args:List T}(D:E.fn f=some af)(H:af.eff=false)(I:af.own=none)(J:args.all froz=true):je E call h ⟨fr,lh,sh⟩ f args=
  (call f args []).bind fun r=>some (r.1,⟨fr,lh,sh⟩):=by
 grind [HU,uA,AU]
theorem Tk{h:Nat}{af:ig}{f j:Nat}{args:List T}(D:E.fn f=some af)(H:af.eff=false)(I:af.own=some j):je E call h ⟨fr,lh,sh⟩ f args=
  (Dn lh sh false args).bind fun q=>(call f q.1 []).bind fun r=>rn h j r.1 ⟨fr,lh,sh⟩ q.2:=by
 grind [je,Dn,rC,Bool.false_eq_true]
theorem OC{h:Nat}{af:ig}{f j:Nat}{args:List T}(D:E.fn f=some af)(H:af.eff=false)(I:af.own=some j)(J:args.all froz=true):je E call h ⟨fr,lh,sh⟩ f args=
  (call f args []).bind fun r=>rn h j r.1 ⟨fr,lh,sh⟩ []:=by
 grind [Tk,uA]
theorem RM{h:Nat}{af:ig}{f:Nat}{args:List T}(D:E.fn f=some af)(H:af.eff=true):je E call h ⟨fr,lh,sh⟩ f args=
  (Dn lh sh true args).bind fun q=>(call f q.1 ((St.mk fr lh sh).ups q.2).sh).bind fun r=>some (r.1,{(St.mk fr lh sh).ups q.2 with sh:=r.2}):=by
 unfold je Dn
 simp only[D,H,rC]
 cases (jd (fz true iE) args).run (St.mk .nil lh sh).get sh.length with
 |none=>rfl
 |some q=>
  simp only[if_true,Option.bind_some]
  cases call f q.1 ((St.mk fr lh sh).ups q.2).sh <;> rfl
theorem Tl{h:Nat}{g:List T→Option T}{f:Nat}{args:List T}(D:E.fn f=none)(H:E.ext f=some g):je E call h ⟨fr,lh,sh⟩ f args=
  (Dn lh sh false args).bind fun q=>(g q.1).bind fun r=>some (r,⟨fr,lh,sh⟩):=by
 unfold je Dn
 simp only[D,H,rC]
 cases (jd (fz false iE) args).run (St.mk .nil lh sh).get sh.length with
 |none=>rfl
 |some q=>
  simp only[Option.bind_some]
  cases g q.1 <;> rfl
theorem Tm{d:Option Nat}{op:lH}{j:Nat}{w:Bool}(h:an fr j= .b w):ij E call n (⟨d,op,some (j,w)⟩::os) ⟨fr,lh,sh⟩=ij E call n (⟨d,op,none⟩::os) ⟨fr,lh,sh⟩:=by
 grind [ij,ja]
theorem KO{d:Option Nat}{op:lH}{j:Nat}{w:Bool}(D:DH n d)(h:an fr j= .b (!w)):ij E call n (⟨d,op,some (j,w)⟩::os) ⟨fr,lh,sh⟩=ij E call n os ⟨vO fr d iI,lh,sh⟩:=by
 simp only[ij,ja,h]
 rw[if_neg (by cases w <;> simp)]
 cases d with
 |none=>rfl
 |some d=>simp only[nj,if_pos (show d<n from D),vO,Option.map_some]
theorem MI{d:Option Nat}{op:lH}{j:Nat}{w:Bool}(D:DH n d)(h:an fr j=iI):ij E call n (⟨d,op,some (j,w)⟩::os) ⟨fr,lh,sh⟩=ij E call n os ⟨vO fr d iI,lh,sh⟩:=by
 simp only[ij,ja,h,iI]
 cases d with
 |none=>rfl
 |some d=>simp only[nj,if_pos (show d<n from D),vO,Option.map_some]
theorem anI{h:List FP}{st:St}:iQ E call n [] h st=some st:=rfl
end
section
variable{E:Env}{n:Nat}{fr:Fr}{lh:iz ib}{sh:List ib}
def acr(t:T)(x y:Option (Out×St)):Option (Out×St):=match t with| .b c=>if c=true then x else y|_=>none
theorem Tn{c:iD}{a b:ic}:DC E n (.cond c a b) ⟨fr,lh,sh⟩=acr (rd fr c) (DC E n a ⟨fr,lh,sh⟩) (DC E n b ⟨fr,lh,sh⟩):=by
 rw[XN,lG]
 unfold acr
 grind
theorem andThen_ite{c:Prop}[Decidable c]{x y:Option (Out×St)}{f:St→Option (Out×St)}:andThen (if c then x else y) f=if c then andThen x f else andThen y f:=by split <;> rfl
theorem Pa{c:Prop}[Decidable c]{id:Nat}{x y:Option (Out×St)}:Cr id (if c then x else y)=if c then Cr id x else Cr id y:=by split <;> rfl
theorem X4{α β:Type}{c:Prop}[Decidable c]{x y:Option α}{f:α→β}:(if c then x else y).map f=if c then x.map f else y.map f:=by split <;> rfl
theorem To{α β:Type}{c:Prop}[Decidable c]{x y:Option α}{f:α→Option β}:(if c then x else y).bind f=if c then x.bind f else y.bind f:=by split <;> rfl
def zr(fr:Fr)(lh:iz ib)(sh:List ib):List po→Option (List T)
 | []=>some []
 | .tmp t::h=>(zr fr lh sh h).map fun D=>an fr t::D
 | .cell t m H::h=>(WK lh sh (an fr t) m H).bind fun v=>(zr fr lh sh h).map fun D=>v::D
theorem r8: ∀h,nH ⟨fr,lh,sh⟩ h=zr fr lh sh h
 | []=>rfl
 | .tmp t::h=>by
   rw[nH,zr,r8 h]
   simp only[H4]
   cases zr fr lh sh h <;> rfl
 | .cell t m D::h=>by
   rw[nH,zr,r8 h]
   simp only[H4,MG]
   cases WK lh sh (an fr t) m D <;> cases zr fr lh sh h <;> rfl
def Pb(lh:iz ib)(sh:List ib)(h:Bool)(vs:List T):Option (T×List ib):=
 (fzV lh sh h (match vs with| [v]=>v|vs=> .tup vs)).map fun p=>(p.1,((St.mk .nil lh sh).ups p.2).sh)
theorem zt{h:Bool}{D:List T}:answer h D ⟨fr,lh,sh⟩=Pb lh sh h D:=by
 unfold answer Pb fzV
 grind [rC,pV]
end
theorem zu{fr D:Fr}{n:Nat}{d:Option Nat}{v:T}(h:nj fr n d v=some D){s:Nat}(hs:some s≠d):an D s=an fr s:=by
 cases d with
 |none=>grind [nj]
 |some d=>
  grind [nj,Tg]
theorem An{E:Env}{call:p7}{n:Nat}{o:be}{st H:St}(h:ja E call n o st=some H){s:Nat}(hs:some s≠o.d):an H.fr s=an st.fr s:=by
 have K: ∀H,(match jq st.rho o.op with
  |some (some J)=>match je E call (o.d.getD 0) st J.1 J.2 with
   |some r=>(nj st.fr n o.d r.1).map fun fr=>{r.2 with fr}
   |none=>none
  |some none=>none
  |none=>match(jk (o.d.getD 0) st.rho o.op).run st.get st.sh.length with
   |some (.val v ups)=>(nj st.fr n o.d v).map fun fr=>{st.ups ups with fr}
   |none=>none)=some H→an H.fr s=an st.fr s:=by
  intro H D
  split at D
  ·split at D
   ·simp only[Option.map_eq_some_iff]at D
    obtain⟨fr,I,rfl⟩:=D
    exact zu I hs
   ·cases D
  ·cases D
  ·split at D
   ·simp only[Option.map_eq_some_iff]at D
    obtain⟨fr,I,rfl⟩:=D
    exact zu I hs
   ·cases D
 grind [ja,Option.map_eq_some_iff,zu]
theorem tf{E:Env}{call:p7}{n:Nat}: ∀(os:List be) {st D:St},ij E call n os st=some D→ ∀s,s∉yZ os→an D.fr s=an st.fr s
 | [],st,D,h,s,_=>by cases h;rfl
 |o::os,st,D,h,s,hs=>by
  simp only[ij]at h
  cases I:ja E call n o st with
  |none=>grind
  |some O=>
   simp only[I]at h
   have J:s∉yZ os:=fun H=>hs (by
    unfold yZ at H ⊢
    rw[List.filterMap_cons]
    split
    ·exact H
    ·exact List.mem_cons_of_mem _ H)
   have K:some s≠o.d:=fun N=>hs (by
    unfold yZ
    rw[List.filterMap_cons]
    rw[←N]
    exact List.mem_cons_self)
   rw[tf os h s J,An I K]
theorem Ao{E:Env}{call:p7}{n:Nat}: ∀(os:List (List Nat×be)) {H:List FP} {st D:St},iQ E call n os H st=some D→ ∀s,s∉yZ (os.map (·.2))→an D.fr s=an st.fr s
 | [],H,st,D,h,s,_=>by cases h;rfl
 |(u,o)::os,H,st,D,h,s,hs=>by
  simp only[iQ]at h
  split at h
  ·cases h
  ·split at h
   ·cases J:ja E call n o st with
    |none=>grind
    |some U=>
     simp only[J]at h
     have K:s∉yZ (os.map (·.2)):=fun I=>hs (by
      unfold yZ at I ⊢
      rw[List.map_cons,List.filterMap_cons]
      split
      ·exact I
      ·exact List.mem_cons_of_mem _ I)
     have N:some s≠o.d:=fun O=>hs (by
      unfold yZ
      rw[List.map_cons,List.filterMap_cons]
      rw[←O]
      exact List.mem_cons_self)
     rw[Ao os h s K,An J N]
   ·cases h
theorem Et{f:St→Option (Out×St)}{s:Nat}(D: ∀st r,f st=some r→an r.2.fr s=an st.fr s): ∀(k:Nat) {st:St} {r:Out×St},iter f k st=some r→an r.2.fr s=an st.fr s
 |0,st,r,h=>by simp[iter]at h
 |k+1,st,r,h=>by
  simp only[iter]at h
  cases H:f st with
  |none=>grind
  |some p=>
   rw[H]at h
   obtain⟨o,J⟩:=p
   have I:=D _ _ H
   cases o with
   |nrm=>rw[Et D k h];exact I
   |ext id=>grind
   |ret=>grind
theorem X5{ks:List Nat}{t u:St}{k:Nat}(h:k∉ks):an (rQ ks t u).fr k=an t.fr k:=by
 show an (xh ks t.fr) k=_
 rw[rX,if_neg h]
theorem pa{E:Env}{call:p7}{fl n:Nat}: ∀(code:ic) {st:St} {r:Out×St},mE E call fl n code st=some r→ ∀s,s∉jV code→an r.2.fr s=an st.fr s
 | .skip,st,r,h,s,_=>by cases h;rfl
 | .region ops,st,r,h,s,hs=>by
   simp only[mE,Option.map_eq_some_iff]at h
   obtain⟨a,D,rfl⟩:=h
   exact tf ops D s hs
 | .draws ops,st,r,h,s,hs=>by
   simp only[mE,Option.map_eq_some_iff]at h
   obtain⟨a,D,rfl⟩:=h
   exact Ao ops D s hs
 | .seq a b,st,r,h,s,hs=>by
   simp only[jV,List.mem_append,not_or]at hs
   simp only[mE]at h
   cases H:mE E call fl n a st with
   |none=>grind
   |some p=>
    rw[H]at h
    obtain⟨o,J⟩:=p
    have D:=pa a H s hs.1
    cases o with
    |nrm=>rw[pa b h s hs.2];exact D
    |ext id=>grind
    |ret=>grind
 | .fork os Dp b,st,r,h,s,hs=>by
   simp only[mE]at h
   cases D:ij E call n os st with
   |none=>grind
   |some J=>
    cases K:ij E call n Dp st with
    |none=>grind
    |some U=>
     rw[D,K]at h
     simp only[]at h
     obtain⟨o,V⟩:=r
     obtain⟨W,X,N,Y,Z,rfl⟩:=wA h
     have I:s∉yZ os++jV b:=hs
     rw[X5 I]
     simp only[List.mem_append,not_or]at I
     rw[pa b N s I.2]
     grind [tf]
 | .cond x a b,st,r,h,s,hs=>by
   simp only[jV,List.mem_append,not_or]at hs
   simp only[mE]at h
   split at h
   ·exact pa a h s hs.1
   ·exact pa b h s hs.2
   ·cases h
 | .block id a,st,r,h,s,hs=>by
   simp only[mE]at h
   cases H:mE E call fl n a st with
   |none=>grind
   |some p=>
    rw[H]at h
    obtain⟨o,J⟩:=p
    have D:=pa a H s hs
    grind
 | .loop a,st,r,h,s,hs=>by
   simp only[mE]at h
   exact Et (fun st r O=>pa a O s hs) fl h
 | .exit id,st,r,h,s,_=>by cases h;rfl
 | .ret,st,r,h,s,_=>by cases h;rfl
theorem nC{E:Env}{n:Nat}{code:ic}{st D:St}{o:Out}(h:DC E n code st=some (o,D))(s:Nat)(hs:(jV code).contains s=false):an D.fr s=an st.fr s:=by
 obtain⟨m,H⟩:=kh.1 h
 exact pa code H s (by intro I;simp[I]at hs)
end Go.Ev
namespace Go.Ev
open Go
def Q.calm:Q BR→Prop
 | .ret (.val _ h)=>h= []
 | .fail=>True
 | .rd _ _ f=> ∀e,(f e).calm
 | .new _=>False
theorem Q.calm_run{h:Sp→Nat→ib}{J:Nat}: ∀(q:Q BR),q.calm→ ∀{v:T} {D:List Up},q.run h J=some (.val v D)→D= []∧q.asks h J=false
 | .ret (.val _ _),I,v,D,H=>by simp[Q.run]at H;obtain⟨rfl,rfl⟩:=H;exact⟨I,rfl⟩
 | .fail,I,v,D,H=>by simp[Q.run]at H
 | .rd sp k f,I,v,D,H=>Q.calm_run (f (h sp k)) (I _) H
 | .new f,I,v,D,H=>I.elim
theorem nz{o:Option T}:(val o).calm:=by cases o <;> simp[val,Q.calm]
def k6:lH→Bool
 | .mv _| .pick .. | .bin .. | .eq .. | .un .. | .cvi .. | .mkfn .. | .build .. | .slS .. | .fa .. | .fld .. | .ia .. | .iaA .. | .ixS .. | .ixA .. | .ext .. | .lenS _| .lenV _| .lenC _| .mm .. | .nck _| .ld .. | .lk .. | .lenM _=>true
 | .slV _ _ _ _ none=>true
 |_=>false
theorem F1{d:Nat}{ρ:iD→T}{op:lH}(h:k6 op=true):(jk d ρ op).calm∧jq ρ op=none:=by
 refine⟨?_,by cases op <;> first|rfl|(simp[k6]at h)⟩
 cases op with
 |mv x=>exact rfl
 |pick c a b=>grind [jk,Q.calm]
 |bin op x y=>exact nz
 |eq neg k x y=>exact nz
 |un op x=>exact nz
 |cvi k x=>grind [jk,Q.calm]
 |mkfn f a c=>exact rfl
 |build z K=>
  simp only[jk]
  by_cases N:(K.all fun p=>decide ((cellsOf (ρ p.2.2)).length=p.2.1)&&noTup (ρ p.2.2))=true
  ·grind [nz]
  ·rw[if_neg N];trivial
 |slS x l h=>
  grind [jk,Q.calm]
 |fa x off=>
  grind [jk,Q.calm]
 |fld x off m H=>
  simp only[jk]
  split
  ·exact nz
  ·trivial
 |ia x I sz=>
  grind [jk,Q.calm]
 |iaA x I len sz=>
  grind [jk,Q.calm]
 |ixS x I=>
  grind [jk,Q.calm]
 |ixA x I len sz H=>
  simp only[jk]
  split
  ·split
   ·exact nz
   ·trivial
  ·trivial
 |ext x j=>
  simp only[jk]
  split
  ·exact nz
  ·trivial
 |lenS x=>grind [jk,Q.calm]
 |lenV x=>exact nz
 |lenC m=>exact rfl
 |mm b as=>
  simp only[jk]
  split
  ·exact nz
  ·trivial
 |nck x=>grind [jk,Q.calm]
 |ld x m H=>
  simp only[jk,Fu]
  split
  ·rename_i cs _
   cases part cs 0 m H <;> simp[Q.of,Q.bind,Q.calm]
  ·rename_i g off _
   intro e
   obtain⟨J,ob⟩:=e
   by_cases D:J=g
   ·cases ob with
    |cells cs U bx=>
     simp only[D,if_true]
     generalize part cs _ m H=o
     cases o <;> simp[Q.of,Q.bind,Q.calm]
    |_=>simp only[D,if_true];trivial
   ·simp only[D,if_false];trivial
  ·trivial
 |lk V m k z W=>
  grind [jk,Q.calm,nz]
 |lenM x=>
  simp only[jk]
  split
  ·exact rfl
  ·exact rfl
  ·rename_i g _
   intro e
   obtain⟨J,ob⟩:=e
   by_cases D:J=g
   ·cases ob with
    |map ks X z=>simp only[D,if_true];exact rfl
    |_=>simp only[D,if_true];trivial
   ·simp only[D,if_false];trivial
  ·trivial
 |slV sz x l h O=>
  cases O with
  |some m=>simp[k6]at h
  |none=>
   simp only[jk]
   split
   ·trivial
   ·split
    ·rename_i Y Z _ _ _
     unfold z7
     grind [Q.bind,Q.calm]
    ·grind
    ·trivial
 |_=>simp[k6]at h
def Calm(fp:FP):Prop:=fp.all=false∧fp.w= []
theorem KP{x y:FP}(h:Calm x)(D:Calm y):apart x y=true:=by
 obtain⟨a,r,w⟩:=x
 obtain⟨H,I,w'⟩:=y
 obtain⟨rfl,rfl⟩:=h
 obtain⟨rfl,rfl⟩:=D
 simp[apart,mD]
section
variable{E:Env}{call:p7}{n:Nat}
theorem X6{o:be}{st I:St}(K:k6 o.op=true)(D:ja E call n o st=some I): ∃fp,jC E call o st=some fp∧Calm fp:=by
 obtain⟨N,Ck⟩:=F1 (d:=o.d.getD 0) (ρ:=st.rho) K
 have O: ∀I,(match(jk (o.d.getD 0) st.rho o.op).run st.get st.sh.length with
   |some (.val v ups)=>(nj st.fr n o.d v).map fun fr=>{st.ups ups with fr}
   |none=>none)=some I→ ∃fp,(match(jk (o.d.getD 0) st.rho o.op).run st.get st.sh.length with
   |some (.val _ ups)=>if((jk (o.d.getD 0) st.rho o.op).asks st.get st.sh.length||vW st ups)=true then some (⟨(jk (o.d.getD 0) st.rho o.op).asks st.get st.sh.length,(jk (o.d.getD 0) st.rho o.op).log st.get st.sh.length,j4 ups⟩:FP)else none
   |none=>none)=some fp∧Calm fp:=by
  intro I h
  cases J:(jk (o.d.getD 0) st.rho o.op).run st.get st.sh.length with
  |none=>rw[J]at h;cases h
  |some r=>
   obtain⟨v,ups⟩:=r
   obtain⟨rfl,U⟩:=Q.calm_run _ N J
   refine⟨⟨false,(jk (o.d.getD 0) st.rho o.op).log st.get st.sh.length,[]⟩, ?_,rfl,rfl⟩
   simp only[U,vW,List.all_nil,Bool.or_true,if_true,j4,List.map_nil]
 unfold ja at D
 unfold jC
 simp only[Ck]at D ⊢
 cases V:o.gd with
 |none=>grind
 |some p=>
  obtain⟨j,H⟩:=p
  simp only[V]at D ⊢
  split at D
  ·rename_i x W
   simp only[W]
   by_cases X:x=H
   ·grind
   ·rw[if_neg X];exact⟨oB,rfl,rfl,rfl⟩
  ·cases D
  ·split
   ·grind
   ·exact⟨oB,rfl,rfl,rfl⟩
theorem Eu: ∀(H:List (List Nat×be)) (D:List FP) (st:St),(H.all fun p=>k6 p.2.op&&p.1.all fun i=>decide (i<D.length+H.length))=true→(∀fp∈D,Calm fp)→
  (∀(k:Nat) (u:List Nat) (o:be),H[k]? =some (u,o)→ ∀i∈u,i<D.length+k)→
  iQ E call n H D st=ij E call n (H.map (·.2)) st
 | [],D,st,_,_,_=>rfl
 |(u,o)::H,D,st,h,W,hi=>by
  simp only[List.all_cons,Bool.and_eq_true]at h
  simp only[iQ,List.map_cons,ij]
  cases J:ja E call n o st with
  |none=>
   grind
  |some s=>
   obtain⟨fp,K,X⟩:=X6 h.1.1 J
   simp only[K]
   have N:(u.all fun i=>apart (iC ⟨true,[],[]⟩ D i) fp)=true:=by
    rw[List.all_eq_true]
    intro i I
    have:=hi 0 u o rfl i I
    have Y:iC ⟨true,[],[]⟩ D i∈D:=by
     have: ∀(l:List FP) (j:Nat),j<l.length→iC ⟨true,[],[]⟩ l j∈l:=by
      intro l
      induction l with
      |nil=>grind
      |cons x xs ih=>
       intro j O
       cases j with
       |zero=>exact List.mem_cons_self
       |succ j=>exact List.mem_cons_of_mem _ (ih j (by simpa using O))
     grind
    grind [KP]
   simp only[N,if_true]
   refine Eu H (D++ [fp]) s ?_ ?_ ?_
   ·grind
   ·grind
   ·intro k U o' V i I
    have:=hi (k+1) U o' V i I
    grind
def Ew:Nat→List (List Nat×be)→Bool
 |_,[]=>true
 |k,(u,o)::h=>k6 o.op&&(u.all fun i=>decide (i<k))&&Ew (k+1) h
theorem Ey: ∀(D:List (List Nat×be)) (m:Nat),Ew m D=true→(∀(k:Nat) (u:List Nat) (o:be),D[k]? =some (u,o)→k6 o.op=true∧ ∀i∈u,i<m+k)
 | [],m,_,k,u,o,H=>by simp at H
 |(I,J)::D,m,h,k,u,o,H=>by
  simp only[Ew,Bool.and_eq_true]at h
  cases k with
  |zero=>
   grind
  |succ k=>
   obtain⟨K,N⟩:=Ey D (m+1) h.2 k u o (by simpa using H)
   grind
theorem X7{E:Env}{n:Nat}{D:List (List Nat×be)}{st:St}(h:Ew 0 D=true):DC E n (.draws D) st=(ij E (hZ E) n (D.map (·.2)) st).map fun J=>(.nrm,J):=by
 rw[Iy]
 congr 1
 have I:=Ey D 0 h
 refine Eu D [] st ?_ (by simp) (fun k u o H i hi=>by have:=(I k u o H).2 i hi;simpa using this)
 rw[List.all_eq_true]
 intro p K
 obtain⟨k,H,N⟩:=List.getElem_of_mem K
 obtain⟨u,o⟩:=p
 obtain⟨O,U⟩:=I k u o (by rw[List.getElem?_eq_getElem H,N])
 grind
end
end Go.Ev
namespace Go.Ev
open Go
def kv(F:St→Option St)(fr:Fr)(lh:iz ib)(sh:List ib)(d:Nat)(v:Option T):Option St:=v.bind fun v=>F ⟨j3 fr d v,lh,sh⟩
def kn(F:St→Option St)(st:St)(v:Option T):Option St:=v.bind fun _=>F st
def ks(F:St→Option St)(fr:Fr)(r:Option (iz ib×List ib)):Option St:=r.bind fun r=>F ⟨fr,r.1,r.2⟩
def ka(F:St→Option St)(fr:Fr)(sh:List ib)(d:Nat)(r:Option (T×iz ib)):Option St:=r.bind fun q=>F ⟨j3 fr d q.1,q.2,sh⟩
def kc(F:St→Option St)(fr:Fr)(d:Option Nat)(r:Option (T×St)):Option St:=r.bind fun r=>F ⟨vO fr d r.1,r.2.lh,r.2.sh⟩
section
variable{F:St→Option St}{fr:Fr}{lh:iz ib}{sh:List ib}{d:Nat}{v:T}
theorem X8:kv F fr lh sh d (some v)=F ⟨j3 fr d v,lh,sh⟩:=rfl
theorem aeR{c:Prop}[Decidable c]{x y:Option T}:kv F fr lh sh d (if c then x else y)=if c then kv F fr lh sh d x else kv F fr lh sh d y:=by split <;> rfl
theorem X9{r:iz ib×List ib}:ks F fr (some r)=F ⟨fr,r.1,r.2⟩:=rfl
theorem Ya{q:T×iz ib}:ka F fr sh d (some q)=F ⟨j3 fr d q.1,q.2,sh⟩:=rfl
theorem Yb{h:Option Nat}{r:T×St}:kc F fr h (some r)=F ⟨vO fr h r.1,r.2.lh,r.2.sh⟩:=rfl
theorem aeS{c:Prop}[Decidable c]{h:Option Nat}{x y:Option (T×St)}:kc F fr h (if c then x else y)=if c then kc F fr h x else kc F fr h y:=by split <;> rfl
end
def isB:T→Bool
 | .b _=>true
 |_=>false
def isT:T→Bool
 | .b x=>x
 |_=>false
theorem anJ{x:Bool}:isB (.b x)=true:=nr rfl
theorem anK{x:Bool}:isT (.b x)=x:=nr rfl
theorem Yc{t:T}(h:isB t=true):t= .b (isT t):=by cases t <;> first|rfl|(simp[isB]at h)
section
variable{E:Env}{call:p7}{n:Nat}{fr:Fr}{lh:iz ib}{sh:List ib}{os:List be}{d:Nat}
theorem aeT{c a b:iD}(h:d<n):ij E call n (⟨some d,.pick c a b,none⟩::os) ⟨fr,lh,sh⟩=kv (ij E call n os) fr lh sh d (ME (rd fr c) (rd fr a) (rd fr b)):=aeJ h
theorem anL{op:BinOp}{x y:iD}(h:d<n):ij E call n (⟨some d,.bin op x y,none⟩::os) ⟨fr,lh,sh⟩=kv (ij E call n os) fr lh sh d (Ev.bin op (rd fr x) (rd fr y)):=anp h
theorem auB{neg:Bool}{k:EK}{x y:iD}(h:d<n):ij E call n (⟨some d,.eq neg k x y,none⟩::os) ⟨fr,lh,sh⟩=kv (ij E call n os) fr lh sh d ((tO k (rd fr x) (rd fr y)).map fun r=>T.b (r != neg)):=auo h
theorem auC{op:UnOp}{x:iD}(h:d<n):ij E call n (⟨some d,.un op x,none⟩::os) ⟨fr,lh,sh⟩=kv (ij E call n os) fr lh sh d (Ev.un op (rd fr x)):=aup h
theorem anM{k:IntKind}{x:iD}(h:d<n):ij E call n (⟨some d,.cvi k x,none⟩::os) ⟨fr,lh,sh⟩=kv (ij E call n os) fr lh sh d (XP k (rd fr x)):=anq h
theorem Yd{z:List T}{h:List (Nat×Nat×iD)}(D:d<n):ij E call n (⟨some d,.build z h,none⟩::os) ⟨fr,lh,sh⟩=kv (ij E call n os) fr lh sh d (FW fr z h):=XQ D
theorem anN{x:iD}{l h:Option iD}(D:d<n):ij E call n (⟨some d,.slS x l h,none⟩::os) ⟨fr,lh,sh⟩=kv (ij E call n os) fr lh sh d (te fr (rd fr x) l h):=anr D
theorem auD{x:iD}{off:Nat}(h:d<n):ij E call n (⟨some d,.fa x off,none⟩::os) ⟨fr,lh,sh⟩=kv (ij E call n os) fr lh sh d (faV (rd fr x) off):=auq h
theorem anO{x:iD}{off m:Nat}{h:Bool}(D:d<n):ij E call n (⟨some d,.fld x off m h,none⟩::os) ⟨fr,lh,sh⟩=kv (ij E call n os) fr lh sh d (XR (rd fr x) off m h):=ant D
theorem auE{x h:iD}{sz:Nat}(D:d<n):ij E call n (⟨some d,.ia x h sz,none⟩::os) ⟨fr,lh,sh⟩=kv (ij E call n os) fr lh sh d (pv (rd fr x) (rd fr h) sz):=aur D
theorem anP{x h:iD}{len sz:Nat}(D:d<n):ij E call n (⟨some d,.iaA x h len sz,none⟩::os) ⟨fr,lh,sh⟩=kv (ij E call n os) fr lh sh d (mf (rd fr x) (rd fr h) len sz):=anu D
theorem anQ{x h:iD}(D:d<n):ij E call n (⟨some d,.ixS x h,none⟩::os) ⟨fr,lh,sh⟩=kv (ij E call n os) fr lh sh d (DI (rd fr x) (rd fr h)):=anv D
theorem anR{x h:iD}{len sz:Nat}{D:Bool}(H:d<n):ij E call n (⟨some d,.ixA x h len sz D,none⟩::os) ⟨fr,lh,sh⟩=kv (ij E call n os) fr lh sh d (XS (rd fr x) (rd fr h) len sz D):=anw H
theorem anS{x:iD}{j:Nat}(h:d<n):ij E call n (⟨some d,.ext x j,none⟩::os) ⟨fr,lh,sh⟩=kv (ij E call n os) fr lh sh d (XT (rd fr x) j):=anx h
theorem aeU{x:iD}(h:d<n):ij E call n (⟨some d,.lenS x,none⟩::os) ⟨fr,lh,sh⟩=kv (ij E call n os) fr lh sh d (MF (rd fr x)):=aeK h
def lenI(x:T):Option T:=match uh x with|some m=>some (.i .i64 ((m:Nat):Int))|none=>none
theorem Ye{x:T}{m:Nat}(h:uh x=some m):lenI x=some (.i .i64 (m:Int)):=by unfold lenI;rw[h]
theorem aeV{x:iD}(h:d<n):ij E call n (⟨some d,.lenV x,none⟩::os) ⟨fr,lh,sh⟩=kv (ij E call n os) fr lh sh d (lenI (rd fr x)):=by
 grind [kv,lenI,aeL]
theorem auF{h:Bool}{args:List iD}(D:d<n):ij E call n (⟨some d,.mm h args,none⟩::os) ⟨fr,lh,sh⟩=kv (ij E call n os) fr lh sh d (mmV h (args.map (rd fr))):=aus D
theorem anT{x:iD}(h:d<n):ij E call n (⟨some d,.nck x,none⟩::os) ⟨fr,lh,sh⟩=kv (ij E call n os) fr lh sh d (O4 (rd fr x)):=anz h
theorem auG{x:iD}{m:Nat}{h:Bool}(D:d<n):ij E call n (⟨some d,.ld x m h,none⟩::os) ⟨fr,lh,sh⟩=kv (ij E call n os) fr lh sh d (WK lh sh (rd fr x) m h):=aut D
theorem anU{sz:Nat}{x:iD}{l h:Option iD}(D:d<n):ij E call n (⟨some d,.slV sz x l h none,none⟩::os) ⟨fr,lh,sh⟩=kv (ij E call n os) fr lh sh d (X2 fr sz (rd fr x) l h):=anF D
theorem auH{h:EK}{m k:iD}{z:T}{D:Bool}(H:d<n):ij E call n (⟨some d,.lk h m k z D,none⟩::os) ⟨fr,lh,sh⟩=kv (ij E call n os) fr lh sh d (lkV lh sh h (rd fr m) (rd fr k) z D):=auw H
theorem anV{k:IntKind}{n:Int}:Xg [.i k n]=false:=nr rfl
theorem Tp{a b:T}{l:List T}:Xg (a::b::l)=false:=by cases a <;> rfl
def Tq(lh:iz ib)(d:Nat)(z:List T)(x:T)(bytes:Nat):Option (T×iz ib):=
 (KM x bytes).map fun m=>(.isl .L d ((a6 lh d).g+1) 0 m z.length,mr lh d ⟨(a6 lh d).g+1,.cells (repl z m) 0 (Xg z)⟩)
theorem aeW{z:List T}{bytes:Nat}{x:iD}(h:d<n):ij E call n (⟨some d,.mksl z bytes x false,none⟩::os) ⟨fr,lh,sh⟩=ka (ij E call n os) fr sh d (Tq lh d z (rd fr x) bytes):=by
 rw[aeN h];unfold Tq ka;cases KM (rd fr x) bytes <;> rfl
theorem auI{x v:iD}{m:Nat}:ij E call n (⟨none,.st x v m,none⟩::os) ⟨fr,lh,sh⟩=ks (ij E call n os) fr (pg lh sh (rd fr x) (rd fr v) m):=auu
def appW(lh:iz ib)(sh:List ib)(d sz bytes:Nat)(s x:T):Option (T×iz ib):=(slC lh sh sz x).bind (F0 lh d sz bytes s)
def notS:T→Bool
 | .isl .S .. =>false
 | .mp .S .. =>false
 |_=>true
theorem anW{sz bytes:Nat}{s x:iD}(h:d<n)(hs:notS (rd fr s)=true):ij E call n (⟨some d,.app sz bytes s x false false,none⟩::os) ⟨fr,lh,sh⟩=ka (ij E call n os) fr sh d (appW lh sh d sz bytes (rd fr s) (rd fr x)):=by
 rw[anE h (fun k g off len sz D=>by rw[D]at hs;simp[notS]at hs)]
 grind [appW,ka]
theorem auJ{h:EK}{m k v:iD}(D:notS (rd fr m)=true)(H:froz (rd fr v)=true):ij E call n (⟨none,.mu h m k v,none⟩::os) ⟨fr,lh,sh⟩=ks (ij E call n os) fr ((muV lh h (rd fr m) (rd fr k) (rd fr v)).map fun I=>(I,sh)):=by
 rw[auy (fun kk g J=>by rw[J]at D;simp[notS]at D) H]
 unfold ks
 cases muV lh h (rd fr m) (rd fr k) (rd fr v) <;> rfl
def Yf(lh:iz ib)(sh:List ib)(z:List T)(len:Nat)(h:List Nat)(D:List T):Option (T×St):=
 (Dn lh sh false D).bind fun q=>(O9 z len h q.1).map fun v=>(v,(St.mk .nil lh sh).ups q.2)
theorem anX{z:List T}{len:Nat}{h:List (Nat×iD)}(D:d<n):ij E call n (⟨some d,.bsl z len h,none⟩::os) ⟨fr,lh,sh⟩=kc (ij E call n os) fr (some d) (Yf lh sh z len (h.map (·.1)) (h.map fun p=>rd fr p.2)):=by
 rw[anH D]
 unfold kc Yf
 cases Dn lh sh false (h.map fun p=>rd fr p.2)with
 |none=>rfl
 |some q=>
  simp only[Option.bind_some]
  cases O9 z len (h.map (·.1)) q.1 with
  |none=>rfl
  |some v=>grind [vO,pV]
theorem Pc{z:List T}{len:Nat}{H:List Nat}{D:List T}(h:D.all froz=true):Yf lh sh z len H D=(O9 z len H D).map fun v=>(v,⟨.nil,lh,sh⟩):=by
 unfold Yf
 rw[uA h];rfl
theorem aeX{f:Nat}{as:List iD}(h:d<n):ij E call n (⟨some d,.callf f as,none⟩::os) ⟨fr,lh,sh⟩=kc (ij E call n os) fr (some d) (je E call d ⟨fr,lh,sh⟩ f (as.map (rd fr))):=aeQ h
theorem Yg{D:Option Nat}{op:lH}{j:Nat}(h:an fr j= .b true):ij E call n (⟨D,op,some (j,true)⟩::os) ⟨fr,lh,sh⟩=ij E call n (⟨D,op,none⟩::os) ⟨fr,lh,sh⟩:=Tm h
theorem Yh{D:Option Nat}{op:lH}{j:Nat}(h:an fr j= .b false):ij E call n (⟨D,op,some (j,false)⟩::os) ⟨fr,lh,sh⟩=ij E call n (⟨D,op,none⟩::os) ⟨fr,lh,sh⟩:=Tm h
theorem Yi{op:lH}{j:Nat}(D:d<n)(h:an fr j= .b false):ij E call n (⟨some d,op,some (j,true)⟩::os) ⟨fr,lh,sh⟩=ij E call n os ⟨j3 fr d iI,lh,sh⟩:=KO (d:=some d) D h
theorem Yj{op:lH}{j:Nat}(D:d<n)(h:an fr j= .b true):ij E call n (⟨some d,op,some (j,false)⟩::os) ⟨fr,lh,sh⟩=ij E call n os ⟨j3 fr d iI,lh,sh⟩:=KO (d:=some d) D h
theorem Ts{op:lH}{j:Nat}{w:Bool}(D:d<n)(h:an fr j=iI):ij E call n (⟨some d,op,some (j,w)⟩::os) ⟨fr,lh,sh⟩=ij E call n os ⟨j3 fr d iI,lh,sh⟩:=MI (d:=some d) D h
end
section
variable{E:Env}{n:Nat}{fr:Fr}{lh:iz ib}{sh:List ib}
theorem aeY{c:iD}{a b:ic}(h:isB (rd fr c)=true):DC E n (.cond c a b) ⟨fr,lh,sh⟩=if isT (rd fr c)=true then DC E n a ⟨fr,lh,sh⟩else DC E n b ⟨fr,lh,sh⟩:=by
 rw[Tn,Yc h];rfl
def xL(h:List po)(D:Bool)(x:Option (Out×St)):Option (T×List ib):=
 match x with
 |some (.ext _,_)=>none
 |some (_,st)=>(nH st h).bind fun H=>answer D H st
 |none=>none
theorem im{f:Nat}{af:ig}{args:List T}{sh:List ib}(h:E.fn f=some af)(D:(af.n<args.length)=False)(H:af.own=none:=by rfl):
  hZ E f args sh=xL af.res af.eff (DC E af.n af.code {fr:=oX args,lh:= .nil,sh}):=by
 rw[IB h (Nat.le_of_not_lt (of_eq_false D))]
 generalize DC E af.n af.code {fr:=oX args,lh:= .nil,sh}=x
 unfold Te xL
 rw[H]
 cases x with
 |none=>rfl
 |some p=>
  obtain⟨o,st⟩:=p
  cases o with
  |ext id=>rfl
  |nrm=>simp only[];cases nH st af.res <;> rfl
  |ret=>simp only[];cases nH st af.res <;> rfl
def Yk(h:List po)(j:Nat)(x:Option (Out×St)):Option (T×List ib):=
 match x with
 |some (.ext _,_)=>none
 |some (_,st)=>(nH st h).bind fun D=>qR j D st
 |none=>none
theorem aeZ{f:Nat}{af:ig}{args:List T}{sh:List ib}{j:Nat}(h:E.fn f=some af)(D:(af.n<args.length)=False)(H:af.own=some j:=by rfl)(I:af.eff=false:=by rfl):
  hZ E f args sh=Yk af.res j (DC E af.n af.code {fr:=oX args,lh:= .nil,sh}):=by
 rw[IB h (Nat.le_of_not_lt (of_eq_false D))]
 generalize DC E af.n af.code {fr:=oX args,lh:= .nil,sh}=x
 unfold Te Yk
 grind [sN,Bool.false_eq_true]
def Tu(lh:iz ib)(sh:List ib)(j:Nat)(h:List T):Option (T×List ib):=qR j h ⟨.nil,lh,sh⟩
theorem KQ{j:Nat}{h:List T}:qR j h ⟨fr,lh,sh⟩=Tu lh sh j h:=by
 unfold Tu qR
 simp only[zt,rC]
 split
 ·rfl
 ·split
  ·rename_i p _
   rw[pV p.2 lh sh]
   rfl
  ·rfl
 ·rfl
theorem Tv{h:List po}{j:Nat}:Yk h j (some (.ret,⟨fr,lh,sh⟩))=(zr fr lh sh h).bind (Tu lh sh j):=by
 simp_all[Yk,r8,KQ]
theorem Tw{h:List po}{D:Bool}:xL h D (some (.ret,⟨fr,lh,sh⟩))=(zr fr lh sh h).bind (Pb lh sh D):=by
 simp_all[xL,r8,zt]
theorem Tx{h:List po}{D:Bool}:xL h D (some (.nrm,⟨fr,lh,sh⟩))=(zr fr lh sh h).bind (Pb lh sh D):=by
 simp_all[xL,r8,zt]
theorem Ty{c:Prop}[Decidable c]{h:List po}{D:Bool}{x y:Option (Out×St)}:xL h D (if c then x else y)=if c then xL h D x else xL h D y:=by split <;> rfl
end
section
variable{k:IntKind}{a b:Int}{x y:Bool}{s t:List Nat}
theorem Yl:Ev.bin .add (.i k a) (.i k b)=some (.i k (wr k (a+b))):=by simp[Ev.bin,qJ]
theorem Ym:Ev.bin .sub (.i k a) (.i k b)=some (.i k (wr k (a-b))):=by simp[Ev.bin,qJ]
theorem Yn:Ev.bin .mul (.i k a) (.i k b)=some (.i k (wr k (a*b))):=by simp[Ev.bin,qJ]
theorem Yo:Ev.bin .quo (.i k a) (.i k b)=if b=0 then none else some (.i k (wr k (a.tdiv b))):=by simp[Ev.bin,qJ]
theorem Yp:Ev.bin .rem (.i k a) (.i k b)=if b=0 then none else some (.i k (a.tmod b)):=by simp[Ev.bin,qJ]
theorem MJ:Ev.bin .eql (.i k a) (.i k b)=some (.b (decide (a=b))):=by simp[Ev.bin,qJ];exact Bool.beq_eq_decide_eq a b
theorem MK:Ev.bin .neq (.i k a) (.i k b)=some (.b (!decide (a=b))):=by simp[Ev.bin,qJ];rw[bne,Bool.beq_eq_decide_eq]
theorem ML:Ev.bin .lss (.i k a) (.i k b)=some (.b (decide (a<b))):=by simp[Ev.bin,qJ]
theorem MM:Ev.bin .leq (.i k a) (.i k b)=some (.b (decide (a≤b))):=by simp[Ev.bin,qJ]
theorem MN:Ev.bin .gtr (.i k a) (.i k b)=some (.b (decide (b<a))):=by simp[Ev.bin,qJ]
theorem MO:Ev.bin .geq (.i k a) (.i k b)=some (.b (decide (b≤a))):=by simp[Ev.bin,qJ]
theorem IC:Ev.bin .eql (.s s) (.s t)=some (.b (decide (s=t))):=by simp[Ev.bin,Kr];exact Bool.beq_eq_decide_eq s t
theorem ID:Ev.bin .neq (.s s) (.s t)=some (.b (!decide (s=t))):=by simp[Ev.bin,Kr];rw[bne,Bool.beq_eq_decide_eq]
theorem Tz:Ev.bin .lss (.s s) (.s t)=some (.b (lessN s t)):=by simp[Ev.bin,Kr]
theorem TA:Ev.bin .add (.s s) (.s t)=if s.length+t.length≤1099511627776 then some (.s (s++t))else none:=by simp[Ev.bin,Kr]
theorem ae0:Ev.un .not (.b x)=some (.b (!x)):=rfl
theorem ae1:Ev.un .neg (.i k a)=some (.i k (wr k (0-a))):=rfl
theorem ae2{cs:List T}{off m:Nat}:Ev.part cs off m false=cs[off]? :=rfl
theorem ae3{cs:List T}{off m:Nat}:Ev.part cs off m true=if off+m≤cs.length then some (.agg ((cs.drop off).take m))else none:=rfl
theorem jw{n:Int}(h: -9223372036854775808≤n∧n≤9223372036854775807):wr .i64 n=n:=by grind [wr,lo,hi]
theorem lu{cs:List T}{len sz:Nat}{ex:Bool}{kk:IntKind}{j:Int}:pv (.sl cs len ex) (.i kk j) sz=if 0≤j∧j.toNat<len∧(j.toNat+1)*sz≤cs.length then some (.vp (cs.drop (j.toNat*sz)))else none:=by
 unfold pv asNat
 grind
theorem Yq{sp:Sp}{i g off len sz h:Nat}{kk:IntKind}{j:Int}:pv (.isl sp i g off len h) (.i kk j) sz=if 0≤j∧j.toNat<len∧h=sz then some (.ptr sp i g (off+j.toNat*sz))else none:=by
 unfold pv asNat
 grind
theorem KR{h:List Nat}{kk:IntKind}{j:Int}:DI (.s h) (.i kk j)=if 0≤j then h[j.toNat]?.map fun c=>T.i .u8 c else none:=by
 unfold DI asNat
 grind
theorem F2{kk:IntKind}{j:Int}:asNat (.i kk j)=if 0≤j then some j.toNat else none:=rfl
end
end Go.Ev
