/- A tree evaluator over the model, proved against it (part E): where it answers, the call returns that answer. Conditions: none beyond its theorems' own. -/
import Derived.Test.YtblcbheipjeoeaaGreatEvD
set_option linter.unusedSimpArgs false
set_option linter.unusedVariables false
namespace Go.Ev
open Go
section
variable{E:Env}{call:rh}{fl n:Nat}
end
end Go.Ev
namespace Go.Ev
open Go
def Ak(c i:rh):Prop:= ∀f a sh r,c f a sh=some r→i f a sh=some r
section
variable{E:Env}
theorem Cb{c C:rh}(h:Ak c C){D:Nat}{st:St}{f:Nat}{args:List T}{r:T×St}(i:iU E c D st f args=some r):iU E C D st f args=some r:=by
 unfold iU at i ⊢
 cases K:E.fn f with
 |none=>grind
 |some H=>
  simp only[K]at i ⊢
  cases N:(iZ (fz H.eff iB) args).run st.get st.sh.length with
  |none=>grind
  |some q=>
   simp only[N]at i ⊢
   cases I:H.eff with
   |true=>
    simp only[I,if_true,Option.map_eq_some_iff]at i ⊢
    obtain⟨a,O,U⟩:=i
    exact⟨a,h _ _ _ _ O,U⟩
   |false=>
    simp only[I]at i ⊢
    cases J:c f q.1 []with
    |none=>grind
    |some a=>
     simp only[J]at i
     simp only[h _ _ _ _ J]
     exact i
theorem sF{c I:rh}(h:Ak c I){n:Nat}{o:be}{st C:St}(D:iW E c n o st=some C):iW E I n o st=some C:=by
 unfold iW at D ⊢
 have N: ∀C,(match jj st.rho o.op with
  |some (some i)=>match iU E c (o.d.getD 0) st i.1 i.2 with
   |some r=>(nE st.fr n o.d r.1).map fun fr=>{r.2 with fr}
   |none=>none
  |some none=>none
  |none=>match(jf (o.d.getD 0) st.rho o.op).run st.get st.sh.length with
   |some (.val v ups)=>(nE st.fr n o.d v).map fun fr=>{st.ups ups with fr}
   |none=>none)=some C→(match jj st.rho o.op with
  |some (some i)=>match iU E I (o.d.getD 0) st i.1 i.2 with
   |some r=>(nE st.fr n o.d r.1).map fun fr=>{r.2 with fr}
   |none=>none
  |some none=>none
  |none=>match(jf (o.d.getD 0) st.rho o.op).run st.get st.sh.length with
   |some (.val v ups)=>(nE st.fr n o.d v).map fun fr=>{st.ups ups with fr}
   |none=>none)=some C:=by
  intro C hs
  cases J:jj st.rho o.op with
  |none=>simp only[J]at hs ⊢; exact hs
  |some x=>
   cases x with
   |none=>simp only[J]at hs;cases hs
   |some i=>
    simp only[J]at hs ⊢
    cases K:iU E c (o.d.getD 0) st i.1 i.2 with
    |none=>simp only[K]at hs;cases hs
    |some r=>
     simp only[K]at hs
     simp only[Cb h K]
     exact hs
 cases O:o.gd with
 |none=>grind
 |some p=>
  obtain⟨j,H⟩:=p
  simp only[O]at D ⊢
  split at D
  ·rename_i x U
   by_cases V:x=H
   ·grind
   ·grind
  ·cases D
  ·exact D
theorem mW{c C:rh}(h:Ak c C){n:Nat}: ∀(os:List be) {st r:St},gV E c n os st=some r→gV E C n os st=some r
 | [],st,r,i=>i
 |o::os,st,r,i=>by
  simp only[gV]at i ⊢
  cases D:iW E c n o st with
  |none=>grind
  |some s=>
   simp only[D]at i
   simp only[sF h D]
   exact mW h os i
theorem Cc{c D:rh}(h:Ak c D){H:Nat}{st:St}{f:Nat}{args:List T}{r:FP}(i:lO E c H st f args=some r):lO E D H st f args=some r:=by
 unfold lO at i ⊢
 cases J:E.fn f with
 |none=>grind
 |some I=>
  simp only[J]at i ⊢
  cases K:(iZ (fz I.eff iB) args).run st.get st.sh.length with
  |none=>grind
  |some q=>
   simp only[K]at i ⊢
   by_cases hi:(!yi st q.2)=true
   ·grind
   ·rw[if_neg hi]at i ⊢
    cases N:I.eff with
    |true=>grind
    |false=>
     simp only[N]at i ⊢
     cases C:c f q.1 []with
     |none=>simp[C]at i
     |some a=>
      simp only[C]at i
      simp only[h _ _ _ _ C]
      exact i
theorem Cd{c D:rh}(h:Ak c D){o:be}{st:St}{r:FP}(I:jk E c o st=some r):jk E D o st=some r:=by
 unfold jk at I ⊢
 have J: ∀r,(match jj st.rho o.op with
  |some (some C)=>lO E c (o.d.getD 0) st C.1 C.2
  |some none=>none
  |none=>
   let q:=jf (o.d.getD 0) st.rho o.op
   match q.run st.get st.sh.length with
   |some (.val _ i)=>if q.asks st.get st.sh.length||yi st i then some ⟨q.asks st.get st.sh.length,q.log st.get st.sh.length,j6 i⟩else none
   |none=>none)=some r→(match jj st.rho o.op with
  |some (some C)=>lO E D (o.d.getD 0) st C.1 C.2
  |some none=>none
  |none=>
   let q:=jf (o.d.getD 0) st.rho o.op
   match q.run st.get st.sh.length with
   |some (.val _ i)=>if q.asks st.get st.sh.length||yi st i then some ⟨q.asks st.get st.sh.length,q.log st.get st.sh.length,j6 i⟩else none
   |none=>none)=some r:=by
  intro r hs
  cases H:jj st.rho o.op with
  |none=>simp only[H]at hs ⊢; exact hs
  |some x=>
   cases x with
   |none=>simp only[H]at hs;cases hs
   |some C=>simp only[H]at hs ⊢; exact Cc h hs
 cases K:o.gd with
 |none=>grind
 |some p=>
  grind
theorem sG{c D:rh}(h:Ak c D){n:Nat}: ∀(os:List (List Nat×be)) {r:List FP} {st C:St},iK E c n os r st=some C→iK E D n os r st=some C
 | [],r,st,C,i=>i
 |(u,o)::os,r,st,C,i=>by
  simp only[iK]at i ⊢
  cases H:jk E c o st with
  |none=>grind
  |some fp=>
   simp only[H]at i
   simp only[Cd h H]
   split at i
   ·rename_i J
    rw[if_pos J]
    cases I:iW E c n o st with
    |none=>grind
    |some s=>
     simp only[I]at i
     simp only[sF h I]
     exact sG h os i
   ·cases i
theorem xz{f g:St→Option (Out×St)}(h: ∀st r,f st=some r→g st=some r): ∀{k k':Nat},k≤k'→ ∀{st:St} {r:Out×St},iter f k st=some r→iter g k' st=some r
 |0,_,_,st,r,i=>by simp[iter]at i
 |k+1,0,D,_,_,_=>by omega
 |k+1,k'+1,D,st,r,i=>by
  simp only[iter]at i ⊢
  cases C:f st with
  |none=>grind
  |some p=>
   rw[h _ _ C]
   rw[C]at i
   obtain⟨o,s⟩:=p
   cases o with
   |nrm=>exact xz h (by omega) i
   |ext id=>exact i
   |ret=>exact i
theorem kf{c K:rh}(h:Ak c K){n:Nat}{fl I:Nat}(C:fl≤I): ∀(code:gT) {st:St} {r:Out×St},mT E c fl n code st=some r→mT E K I n code st=some r
 | .skip,st,r,i=>i
 | .region ops,st,r,i=>by
   simp only[mT,Option.map_eq_some_iff]at i ⊢
   obtain⟨a,D,H⟩:=i
   exact⟨a,mW h ops D,H⟩
 | .draws ops,st,r,i=>by
   simp only[mT,Option.map_eq_some_iff]at i ⊢
   obtain⟨a,D,H⟩:=i
   exact⟨a,sG h ops D,H⟩
 | .seq a b,st,r,i=>by
   simp only[mT]at i ⊢
   cases J:mT E c fl n a st with
   |none=>grind
   |some p=>
    rw[kf h C a J]
    rw[J]at i
    obtain⟨o,s⟩:=p
    cases o with
    |nrm=>exact kf h C b i
    |ext id=>exact i
    |ret=>exact i
 | .fork os Fh b,st,r,i=>by
   simp only[mT]at i ⊢
   cases D:gV E c n os st with
   |none=>grind
   |some V=>
    cases H:gV E c n Fh st with
    |none=>grind
    |some W=>
     rw[mW h os D,mW h Fh H]
     rw[D,H]at i
     simp only[]at i ⊢
     obtain⟨o,s⟩:=r
     obtain⟨X,Y,N,O,Z,rfl⟩:=yG i
     rw[N,O]at i
     rw[kf h C b N,kf h C b O]
     exact i
 | .cond x a b,st,r,i=>by
   simp only[mT]at i ⊢
   split at i
   ·exact kf h C a i
   ·exact kf h C b i
   ·cases i
 | .block id a,st,r,i=>by
   simp only[mT]at i ⊢
   cases J:mT E c fl n a st with
   |none=>grind
   |some p=>
    rw[kf h C a J]
    grind
 | .loop a,st,r,i=>by
   simp only[mT]at i ⊢
   exact xz (fun st r U=>kf h C a U) C i
 | .exit id,st,r,i=>i
 | .ret,st,r,i=>i
theorem jw: ∀{m i:Nat},m≤i→Ak (jY E m) (jY E i)
 |0,i,_=>fun f a sh r h=>by simp[jY]at h
 |m+1,0,h=>by omega
 |m+1,i+1,h=>fun f a sh r C=>by
  simp only[jY]at C ⊢
  cases H:E.fn f with
  |none=>grind
  |some D=>
   simp only[H]at C ⊢
   split at C
   ·cases C
   ·rename_i I
    rw[if_neg I]
    cases J:mT E (jY E m) m D.n D.code {fr:=pe a,lh:= .nil,sh}with
    |none=>grind
    |some p=>
     rw[kf (jw (Nat.le_of_succ_le_succ h)) (Nat.le_of_succ_le_succ h) D.code J]
     grind
end
noncomputable def lim{α:Type}(F:Nat→Option α):Option α:=
 open Classical in if h: ∃m,(F m).isSome=true then F (Classical.choose h)else none
def aqK{α:Type}(F:Nat→Option α):Prop:= ∀m i r,m≤i→F m=some r→F i=some r
theorem Pd{α:Type}{F:Nat→Option α}(C:aqK F)(r:α):lim F=some r↔ ∃m,F m=some r:=by
 unfold lim
 constructor
 ·intro h
  split at h
  ·grind
  ·cases h
 ·rintro⟨m,D⟩
  have i: ∃m,(F m).isSome=true:=⟨m,by rw[D];rfl⟩
  rw[dif_pos i]
  have hs:=Classical.choose_spec i
  generalize Classical.choose i=k at hs
  cases H:F k with
  |none=>grind
  |some a=>
   have I:=C k (max k m) a (Nat.le_max_left _ _) H
   have J:=C m (max k m) r (Nat.le_max_right _ _) D
   grind
section
variable(E:Env)
noncomputable def gS:rh:=fun f a sh=>lim fun m=>jY E m f a sh
noncomputable def DC(n:Nat)(code:gT)(st:St):Option (Out×St):=lim fun m=>mT E (jY E m) m n code st
end
section
variable{E:Env}
theorem DCall_iff{f:Nat}{a:List T}{sh:List gR}{r:T×List gR}:gS E f a sh=some r↔ ∃m,jY E m f a sh=some r:=
 Pd (fun m C r h i=>jw h _ _ _ _ i) r
theorem ko{n:Nat}{code:gT}{st:St}{r:Out×St}:DC E n code st=some r↔ ∃m,mT E (jY E m) m n code st=some r:=
 Pd (fun m C r h i=>kf (jw h) h code i) r
theorem uX(m:Nat):Ak (jY E m) (gS E):=fun f a sh r h=>DCall_iff.2 ⟨m,h⟩
theorem MN{C:Nat}{st:St}{f:Nat}{args:List T}{r:T×St}(i:iU E (gS E) C st f args=some r): ∃m,iU E (jY E m) C st f args=some r:=by
 unfold iU at i
 cases D:E.fn f with
 |none=>refine⟨0, ?_⟩;unfold iU;cases H:E.ext f <;> simp only[D,H]at i ⊢ <;> exact i
 |some I=>
  simp only[D]at i
  grind [iU,Option.map_eq_some_iff,DCall_iff.1]
theorem MO{C:Nat}{st:St}{f:Nat}{args:List T}{r:FP}(i:lO E (gS E) C st f args=some r): ∃m,lO E (jY E m) C st f args=some r:=by
 unfold lO at i
 cases D:E.fn f with
 |none=>refine⟨0, ?_⟩;unfold lO;cases I:E.ext f <;> simp only[D,I]at i ⊢ <;> exact i
 |some H=>
  simp only[D]at i
  cases J:(iZ (fz H.eff iB) args).run st.get st.sh.length with
  |none=>grind
  |some q=>
   simp only[J]at i
   by_cases hi:(!yi st q.2)=true
   ·grind
   ·rw[if_neg hi]at i
    cases K:H.eff with
    |true=>
     simp_all[lO]
    |false=>
     grind [lO,DCall_iff.1]
theorem D3{n:Nat}{o:be}{st C:St}(I:iW E (gS E) n o st=some C): ∃m,iW E (jY E m) n o st=some C:=by
 cases J:jj st.rho o.op with
 |none=>
  simp_all[iW]
 |some x=>
  cases x with
  |none=>
   simp_all[iW]
  |some i=>
   cases D:iU E (gS E) (o.d.getD 0) st i.1 i.2 with
   |none=>
    refine⟨0, ?_⟩
    have H:iU E (jY E 0) (o.d.getD 0) st i.1 i.2=none:=by
     cases H:iU E (jY E 0) (o.d.getD 0) st i.1 i.2 with
     |none=>rfl
     |some r=>rw[Cb (uX 0) H]at D;cases D
    grind [iW]
   |some r=>
    grind [iW,MN]
theorem MP{o:be}{st:St}{r:FP}(H:jk E (gS E) o st=some r): ∃m,jk E (jY E m) o st=some r:=by
 cases I:jj st.rho o.op with
 |none=>
  simp_all[jk]
 |some x=>
  cases x with
  |none=>
   simp_all[jk]
  |some i=>
   cases C:lO E (gS E) (o.d.getD 0) st i.1 i.2 with
   |none=>
    refine⟨0, ?_⟩
    have D:lO E (jY E 0) (o.d.getD 0) st i.1 i.2=none:=by
     cases D:lO E (jY E 0) (o.d.getD 0) st i.1 i.2 with
     |none=>rfl
     |some r=>rw[Cc (uX 0) D]at C;cases C
    grind [jk]
   |some r=>
    grind [jk,MO]
theorem xA{n:Nat}: ∀(os:List be) {st r:St},gV E (gS E) n os st=some r→ ∃m,gV E (jY E m) n os st=some r
 | [],st,r,i=>⟨0,i⟩
 |o::os,st,r,i=>by
  simp only[gV]at i
  cases H:iW E (gS E) n o st with
  |none=>grind
  |some s=>
   simp only[H]at i
   obtain⟨C,I⟩:=D3 H
   obtain⟨D,J⟩:=xA os i
   refine⟨max C D, ?_⟩
   simp only[gV,sF (jw (Nat.le_max_left C D)) I]
   exact mW (jw (Nat.le_max_right C D)) os J
theorem D4{n:Nat}: ∀(os:List (List Nat×be)) {H:List FP} {st I:St},iK E (gS E) n os H st=some I→ ∃m,iK E (jY E m) n os H st=some I
 | [],H,st,I,i=>⟨0,i⟩
 |(u,o)::os,H,st,I,i=>by
  simp only[iK]at i
  cases J:jk E (gS E) o st with
  |none=>grind
  |some fp=>
   simp only[J]at i
   split at i
   ·rename_i N
    cases K:iW E (gS E) n o st with
    |none=>grind
    |some s=>
     simp only[K]at i
     obtain⟨r,O⟩:=D3 K
     obtain⟨C,U⟩:=D4 os i
     obtain⟨D,V⟩:=MP J
     refine⟨max D (max r C), ?_⟩
     have W:r≤max D (max r C):=by omega
     have X:C≤max D (max r C):=by omega
     have Y:D≤max D (max r C):=by omega
     simp only[iK,Cd (jw Y) V,sF (jw W) O]
     rw[if_pos N]
     exact sG (jw X) os U
   ·cases i
theorem uY{α:Type}{x y:Option α}(h: ∀r,x=some r↔y=some r):x=y:=Option.ext h
theorem aaY{n:Nat}{st:St}:DC E n .skip st=some (.nrm,st):=ko.2 ⟨0,rfl⟩
theorem aaZ{n id:Nat}{st:St}:DC E n (.exit id) st=some (.ext id,st):=ko.2 ⟨0,rfl⟩
theorem aij{n:Nat}{st:St}:DC E n .ret st=some (.ret,st):=ko.2 ⟨0,rfl⟩
theorem GD{n:Nat}{ops:List be}{st:St}:DC E n (.region ops) st=(gV E (gS E) n ops st).map fun i=>(.nrm,i):=by
 refine uY fun r=> ?_
 rw[ko,Option.map_eq_some_iff]
 constructor
 ·rintro⟨m,h⟩
  simp only[mT,Option.map_eq_some_iff]at h
  obtain⟨a,C,D⟩:=h
  exact⟨a,mW (uX m) ops C,D⟩
 grind [mT,Option.map_eq_some_iff,xA]
theorem Km{n:Nat}{ops:List (List Nat×be)}{st:St}:DC E n (.draws ops) st=(iK E (gS E) n ops [] st).map fun i=>(.nrm,i):=by
 refine uY fun r=> ?_
 rw[ko,Option.map_eq_some_iff]
 constructor
 ·rintro⟨m,h⟩
  simp only[mT,Option.map_eq_some_iff]at h
  obtain⟨a,C,D⟩:=h
  exact⟨a,sG (uX m) ops C,D⟩
 grind [mT,Option.map_eq_some_iff,D4]
def andThen(x:Option (Out×St))(f:St→Option (Out×St)):Option (Out×St):=
 match x with
 |some (.nrm,i)=>f i
 |r=>r
theorem Ce{st:St}{f:St→Option (Out×St)}:andThen (some (.nrm,st)) f=f st:=rfl
theorem Kn{id:Nat}{st:St}{f:St→Option (Out×St)}:andThen (some (.ext id,st)) f=some (.ext id,st):=rfl
theorem Ko{st:St}{f:St→Option (Out×St)}:andThen (some (.ret,st)) f=some (.ret,st):=rfl
theorem Wm{n:Nat}{a b:gT}{st:St}:DC E n (.seq a b) st=andThen (DC E n a st) (DC E n b):=by
 refine uY fun r=> ?_
 rw[ko]
 constructor
 ·rintro⟨m,h⟩
  simp only[mT]at h
  cases i:mT E (jY E m) m n a st with
  |none=>grind
  |some p=>
   rw[i]at h
   rw[ko.2 ⟨m,i⟩]
   obtain⟨o,s⟩:=p
   cases o with
   |nrm=>exact ko.2 ⟨m,h⟩
   |ext id=>exact h
   |ret=>exact h
 ·intro h
  cases i:DC E n a st with
  |none=>rw[i]at h;cases h
  |some p=>
   rw[i]at h
   obtain⟨C,D⟩:=ko.1 i
   obtain⟨o,s⟩:=p
   cases o with
   |nrm=>
    obtain⟨H,K⟩:=ko.1 h
    refine⟨max C H, ?_⟩
    have I:=Nat.le_max_left C H
    have J:=Nat.le_max_right C H
    simp only[mT,kf (jw I) I a D]
    exact kf (jw J) J b K
   |ext id=>refine⟨C, ?_⟩;simp only[mT,D];exact h
   |ret=>refine⟨C, ?_⟩;simp only[mT,D];exact h
theorem aa0{n:Nat}{c:iz}{a b:gT}{st:St}:DC E n (.cond c a b) st=match st.rho c with| .b true=>DC E n a st| .b false=>DC E n b st|_=>none:=by
 refine uY fun r=> ?_
 grind [ko,mT,ko.2,ko.1]
def D5(id:Nat)(x:Option (Out×St)):Option (Out×St):=
 match x with
 |some (.ext Rf,i)=>if Rf=id then some (.nrm,i)else some (.ext Rf,i)
 |r=>r
theorem Ry{id:Nat}{st:St}:D5 id (some (.nrm,st))=some (.nrm,st):=rfl
theorem Rz{id:Nat}{st:St}:D5 id (some (.ret,st))=some (.ret,st):=rfl
theorem RA{id Rf:Nat}{st:St}:D5 id (some (.ext Rf,st))=if Rf=id then some (.nrm,st)else some (.ext Rf,st):=rfl
theorem Wn{n id:Nat}{a:gT}{st:St}:DC E n (.block id a) st=D5 id (DC E n a st):=by
 refine uY fun r=> ?_
 rw[ko]
 constructor
 ·rintro⟨m,h⟩
  simp only[mT]at h
  cases i:mT E (jY E m) m n a st with
  |none=>grind
  |some p=>
   rw[i]at h
   rw[ko.2 ⟨m,i⟩]
   exact h
 ·intro h
  cases i:DC E n a st with
  |none=>rw[i]at h;cases h
  |some p=>
   rw[i]at h
   obtain⟨C,D⟩:=ko.1 i
   refine⟨C, ?_⟩
   simp only[mT,D]
   exact h
theorem qZ{n:Nat}{a:gT}{st:St}:DC E n (.loop a) st=andThen (DC E n a st) (DC E n (.loop a)):=by
 refine uY fun r=> ?_
 rw[ko]
 constructor
 ·rintro⟨m,h⟩
  simp only[mT]at h
  cases m with
  |zero=>simp[iter]at h
  |succ m=>
   rw[iter]at h
   cases C:mT E (jY E (m+1)) (m+1) n a st with
   |none=>grind
   |some p=>
    rw[C]at h
    rw[ko.2 ⟨m+1,C⟩]
    obtain⟨o,s⟩:=p
    cases o with
    |nrm=>
     refine ko.2 ⟨m+1, ?_⟩
     simp only[mT]
     exact xz (fun _ _ h=>h) (Nat.le_succ m) h
    |ext id=>exact h
    |ret=>exact h
 ·intro h
  cases C:DC E n a st with
  |none=>rw[C]at h;cases h
  |some p=>
   rw[C]at h
   obtain⟨i,H⟩:=ko.1 C
   obtain⟨o,s⟩:=p
   cases o with
   |nrm=>
    obtain⟨D,I⟩:=ko.1 h
    refine⟨max i D+1, ?_⟩
    have J:i≤max i D+1:=by omega
    have K:D≤max i D+1:=by omega
    have N:D≤max i D:=by omega
    simp only[mT]at I
    simp only[mT]
    rw[iter,kf (jw J) J a H]
    exact xz (fun st r O=>kf (jw K) K a O) N I
   |ext id=>
    refine⟨i+1, ?_⟩
    simp only[mT]
    rw[iter,kf (jw (Nat.le_succ i)) (Nat.le_succ i) a H]
    exact h
   |ret=>
    refine⟨i+1, ?_⟩
    simp only[mT]
    rw[iter,kf (jw (Nat.le_succ i)) (Nat.le_succ i) a H]
    exact h
def Wo(i:gU)(x:Option (Out×St)):Option (T×List gR):=
 match x with
 |some (.ext _,_)=>none
 |some (_,st)=>match nY st i.res with
  |some r=>uN i.own i.eff r st
  |none=>none
 |none=>none
theorem Kp{f:Nat}{i:gU}{args:List T}{sh:List gR}(D:E.fn f=some i)(H:args.length≤i.n):
  gS E f args sh=Wo i (DC E i.n i.code {fr:=pe args,lh:= .nil,sh}):=by
 refine uY fun r=> ?_
 rw[DCall_iff]
 constructor
 ·rintro⟨m,h⟩
  cases m with
  |zero=>simp[jY]at h
  |succ m=>
   simp only[jY,D,if_neg (Nat.not_lt.2 H)]at h
   cases C:mT E (jY E m) m i.n i.code {fr:=pe args,lh:= .nil,sh}with
   |none=>grind
   |some p=>rw[C]at h;rw[ko.2 ⟨m,C⟩];exact h
 ·intro h
  cases C:DC E i.n i.code {fr:=pe args,lh:= .nil,sh}with
  |none=>rw[C]at h;cases h
  |some p=>
   rw[C]at h
   obtain⟨m,I⟩:=ko.1 C
   refine⟨m+1, ?_⟩
   simp only[jY,D,if_neg (Nat.not_lt.2 H),I]
   exact h
end
end Go.Ev
namespace Go.Ev
open Go
theorem nr{α:Sort _}{a b:α}(h:a=b):a=b:=h
def rd(fr:Fr):iz→T
 | .t k=>an fr k
 | .c v=>v
theorem awE(fr:Fr)(k:Nat):rd fr (.t k)=an fr k:=nr rfl
theorem rd_c(fr:Fr)(v:T):rd fr (.c v)=v:=nr rfl
theorem lq(fr:Fr)(lh:hJ gR)(sh:List gR):(St.mk fr lh sh).rho=rd fr:=by funext x;cases x <;> rfl
theorem Wp(fr:Fr)(d:Nat)(v:T):an (kj fr d v) d=v:=by rw[re,if_pos rfl]
theorem Wq(fr:Fr){d m:Nat}(v:T)(h:m≠d):an (kj fr d v) m=an fr m:=by rw[re,if_neg h]
def a6(lh:hJ gR)(k:Nat):gR:=hJ.get lA lh k
def pk(lh:hJ gR)(k:Nat)(e:gR):hJ gR:=hJ.set lA lh k e
theorem tN(lh:hJ gR)(k:Nat)(e:gR):a6 (pk lh k e) k=e:=by grind [a6,pk,hJ.get_set]
theorem jl(lh:hJ gR){k m:Nat}(e:gR)(h:m≠k):a6 (pk lh k e) m=a6 lh m:=by grind [a6,pk,hJ.get_set]
theorem Wr(k:Nat):a6 .nil k=lA:=by unfold a6;exact hJ.get_nil _ _
theorem Pe(fr:Fr)(lh:hJ gR)(sh:List gR)(k:Nat):(St.mk fr lh sh).get .L k=a6 lh k:=rfl
theorem CR(st:St):st.ups []=st:=rfl
theorem agi(fr:Fr)(lh:hJ gR)(sh:List gR)(k:Nat)(e:gR)(us:List Up):(St.mk fr lh sh).ups ((.L,k,e)::us)=(St.mk fr (pk lh k e) sh).ups us:=rfl
def qK:Option Du→Option (T×List Up)
 |some (.val v i)=>some (v,i)
 |none=>none
def one(fr:Fr)(lh:hJ gR)(sh:List gR)(d:Nat)(op:mO):Option (T×List Up):=
 qK ((jf d (rd fr) op).run (St.mk fr lh sh).get sh.length)
def xZ(fr:Fr):Option Nat→T→Fr
 |some d,v=>kj fr d v
 |none,_=>fr
def FE(n:Nat):Option Nat→Prop
 |some d=>d<n
 |none=>True
section
variable{E:Env}{call:rh}{n:Nat}{fr:Fr}{lh:hJ gR}{sh:List gR}{os:List be}
theorem aqL{st:St}:gV E call n [] st=some st:=rfl
theorem qL{d:Option Nat}{op:mO}(i:jj (rd fr) op=none)(C:FE n d):
  gV E call n (⟨d,op,none⟩::os) ⟨fr,lh,sh⟩=(one fr lh sh (d.getD 0) op).bind fun r=>gV E call n os {(St.mk fr lh sh).ups r.2 with fr:=xZ fr d r.1}:=by
 simp only[gV,iW,lq,i]
 unfold one
 cases h:(jf (d.getD 0) (rd fr) op).run (St.mk fr lh sh).get sh.length with
 |none=>rfl
 |some r=>
  obtain⟨v,ups⟩:=r
  simp only[Option.bind_some,qK]
  cases d with
  |none=>rfl
  |some d=>simp only[nE,if_pos (show d<n from C),xZ,Option.map_some]
theorem lE{d:Option Nat}{op:mO}(i:jj (rd fr) op=none)(r:FE n d){v:Option T}(C:one fr lh sh (d.getD 0) op=v.map fun v=>(v,[])):
  gV E call n (⟨d,op,none⟩::os) ⟨fr,lh,sh⟩=v.bind fun v=>gV E call n os ⟨xZ fr d v,lh,sh⟩:=by
 rw[qL i r,C]
 cases v <;> rfl
theorem oz{o:Option T}{h:Sp→Nat→gR}{i:Nat}:qK ((val o).run h i)=o.map fun v=>(v,([]:List Up)):=by
 cases o <;> rfl
variable{d:Nat}
theorem awF{x:iz}(i:d<n):gV E call n (⟨some d,.mv x,none⟩::os) ⟨fr,lh,sh⟩=gV E call n os ⟨kj fr d (rd fr x),lh,sh⟩:=
 lE (d:=some d) (v:=some (rd fr x)) (by rfl) i rfl
def Pf(c a b:T):Option T:=match c with| .b x=>some (if x=true then a else b)|_=>none
theorem aa1(x:Bool)(a b:T):Pf (.b x) a b=some (if x=true then a else b):=rfl
theorem aik{c a b:iz}(i:d<n):gV E call n (⟨some d,.pick c a b,none⟩::os) ⟨fr,lh,sh⟩=(Pf (rd fr c) (rd fr a) (rd fr b)).bind fun v=>gV E call n os ⟨kj fr d v,lh,sh⟩:=by
 refine lE (d:=some d) (by rfl) i ?_
 unfold one Pf
 simp only[jf]
 cases h:rd fr c <;> try rfl
 rename_i x
 cases x <;> rfl
theorem aqM{op:BinOp}{x y:iz}(i:d<n):gV E call n (⟨some d,.bin op x y,none⟩::os) ⟨fr,lh,sh⟩=(Ev.bin op (rd fr x) (rd fr y)).bind fun v=>gV E call n os ⟨kj fr d v,lh,sh⟩:=
 lE (d:=some d) (by rfl) i oz
theorem awG{neg:Bool}{k:EK}{x y:iz}(i:d<n):gV E call n (⟨some d,.eq neg k x y,none⟩::os) ⟨fr,lh,sh⟩=((xV k (rd fr x) (rd fr y)).map fun r=>T.b (r != neg)).bind fun v=>gV E call n os ⟨kj fr d v,lh,sh⟩:=
 lE (d:=some d) (by rfl) i oz
theorem awH{op:UnOp}{x:iz}(i:d<n):gV E call n (⟨some d,.un op x,none⟩::os) ⟨fr,lh,sh⟩=(Ev.un op (rd fr x)).bind fun v=>gV E call n os ⟨kj fr d v,lh,sh⟩:=
 lE (d:=some d) (by rfl) i oz
def aa2(k:IntKind):T→Option T
 | .i _ n=>some (.i k (wr k n))
 |_=>none
theorem aqN{k:IntKind}{x:iz}(i:d<n):gV E call n (⟨some d,.cvi k x,none⟩::os) ⟨fr,lh,sh⟩=(aa2 k (rd fr x)).bind fun v=>gV E call n os ⟨kj fr d v,lh,sh⟩:=by
 refine lE (d:=some d) (by rfl) i ?_
 unfold one aa2
 simp only[jf]
 cases h:rd fr x <;> rfl
def H3(fr:Fr)(z:List T)(ps:List (Nat×Nat×iz)):Option T:=
 if(ps.all fun p=>(cellsOf (rd fr p.2.2)).length=p.2.1&&noTup (rd fr p.2.2))=true then(qG z (ps.map fun p=>(p.1,cellsOf (rd fr p.2.2)))).map .agg else none
theorem aa3{z:List T}{ps:List (Nat×Nat×iz)}(i:d<n):gV E call n (⟨some d,.build z ps,none⟩::os) ⟨fr,lh,sh⟩=(H3 fr z ps).bind fun v=>gV E call n os ⟨kj fr d v,lh,sh⟩:=by
 refine lE (d:=some d) (by rfl) i ?_
 unfold one H3
 simp only[jf]
 split
 ·exact oz
 ·rfl
def uZ(fr:Fr)(x:T)(l h:Option iz):Option T:=
 match x with
 | .s i=>match kG (rd fr) 0 l,kG (rd fr) i.length h with
   |some l,some h=>if l≤h∧h≤i.length then some (.s ((i.drop l).take (h-l)))else none
   |_,_=>none
 |_=>none
theorem aqO{x:iz}{l h:Option iz}(C:d<n):gV E call n (⟨some d,.slS x l h,none⟩::os) ⟨fr,lh,sh⟩=(uZ fr (rd fr x) l h).bind fun v=>gV E call n os ⟨kj fr d v,lh,sh⟩:=by
 refine lE (d:=some d) (by rfl) C ?_
 unfold one uZ
 simp only[jf]
 cases D:rd fr x <;> try rfl
 rename_i i
 simp only[]
 cases H:kG (rd fr) 0 l <;> cases I:kG (rd fr) i.length h <;> try rfl
 rename_i a b
 simp only[Bool.and_eq_true,decide_eq_true_eq]
 by_cases r:a≤b∧b≤i.length
 ·simp only[if_pos r];rfl
 ·simp only[if_neg r];rfl
def faV(x:T)(off:Nat):Option T:=
 match x with
 | .vp cs=>if off≤cs.length then some (.vp (cs.drop off))else none
 | .ptr sp k g o=>some (.ptr sp k g (o+off))
 |_=>none
theorem awI{x:iz}{off:Nat}(i:d<n):gV E call n (⟨some d,.fa x off,none⟩::os) ⟨fr,lh,sh⟩=(faV (rd fr x) off).bind fun v=>gV E call n os ⟨kj fr d v,lh,sh⟩:=by
 refine lE (d:=some d) (by rfl) i ?_
 unfold one faV
 simp only[jf]
 cases r:rd fr x <;> try rfl
 rename_i cs
 simp only[]
 split <;> rfl
def aa4(x:T)(off n:Nat)(i:Bool):Option T:=match x with| .agg cs=>part cs off n i|_=>none
theorem aqQ{x:iz}{off m:Nat}{i:Bool}(r:d<n):gV E call n (⟨some d,.fld x off m i,none⟩::os) ⟨fr,lh,sh⟩=(aa4 (rd fr x) off m i).bind fun v=>gV E call n os ⟨kj fr d v,lh,sh⟩:=by
 refine lE (d:=some d) (by rfl) r ?_
 unfold one aa4
 simp only[jf]
 cases C:rd fr x <;> try rfl
 exact oz
def sH(x i:T)(sz:Nat):Option T:=
 match asNat i,x with
 |some j,.sl cs len _=>if j<len∧(j+1)*sz≤cs.length then some (.vp (cs.drop (j*sz)))else none
 |some j,.isl sp k g off len r=>if j<len∧r=sz then some (.ptr sp k g (off+j*sz))else none
 |_,_=>none
theorem awJ{x i:iz}{sz:Nat}(r:d<n):gV E call n (⟨some d,.ia x i sz,none⟩::os) ⟨fr,lh,sh⟩=(sH (rd fr x) (rd fr i) sz).bind fun v=>gV E call n os ⟨kj fr d v,lh,sh⟩:=by
 refine lE (d:=some d) (by rfl) r ?_
 unfold one sH
 simp only[jf]
 cases C:asNat (rd fr i)with
 |none=>rfl
 |some j=>
  cases D:rd fr x <;> try rfl
  ·simp only[Bool.and_eq_true,decide_eq_true_eq];split <;> rfl
  ·simp only[Bool.and_eq_true,decide_eq_true_eq];split <;> rfl
def kR(x i:T)(len sz:Nat):Option T:=
 match asNat i,x with
 |some j,.vp cs=>if j<len∧(j+1)*sz≤cs.length then some (.vp (cs.drop (j*sz)))else none
 |some j,.ptr sp k g off=>if j<len then some (.ptr sp k g (off+j*sz))else none
 |_,_=>none
theorem aqR{x i:iz}{len sz:Nat}(r:d<n):gV E call n (⟨some d,.iaA x i len sz,none⟩::os) ⟨fr,lh,sh⟩=(kR (rd fr x) (rd fr i) len sz).bind fun v=>gV E call n os ⟨kj fr d v,lh,sh⟩:=by
 refine lE (d:=some d) (by rfl) r ?_
 unfold one kR
 simp only[jf]
 cases C:asNat (rd fr i)with
 |none=>rfl
 |some j=>
  cases D:rd fr x <;> try rfl
  ·simp only[Bool.and_eq_true,decide_eq_true_eq];split <;> rfl
  ·simp only[];split <;> rfl
def FF(x r:T):Option T:=
 match asNat r,x with
 |some j,.s C=>C[j]?.map fun c=> .i .u8 c
 |_,_=>none
theorem aqS{x i:iz}(r:d<n):gV E call n (⟨some d,.ixS x i,none⟩::os) ⟨fr,lh,sh⟩=(FF (rd fr x) (rd fr i)).bind fun v=>gV E call n os ⟨kj fr d v,lh,sh⟩:=by
 refine lE (d:=some d) (by rfl) r ?_
 unfold one FF
 simp only[jf]
 cases D:asNat (rd fr i)with
 |none=>rfl
 |some j=>
  cases H:rd fr x <;> try rfl
  rename_i C
  simp only[]
  cases I:C[j]? <;> rfl
def CA(x i:T)(len sz:Nat)(r:Bool):Option T:=
 match asNat i,x with
 |some j,.agg cs=>if j<len then part cs (j*sz) sz r else none
 |_,_=>none
theorem aqT{x i:iz}{len sz:Nat}{r:Bool}(C:d<n):gV E call n (⟨some d,.ixA x i len sz r,none⟩::os) ⟨fr,lh,sh⟩=(CA (rd fr x) (rd fr i) len sz r).bind fun v=>gV E call n os ⟨kj fr d v,lh,sh⟩:=by
 refine lE (d:=some d) (by rfl) C ?_
 unfold one CA
 simp only[jf]
 cases D:asNat (rd fr i)with
 |none=>rfl
 |some j=>
  cases H:rd fr x <;> try rfl
  simp only[]
  split
  ·exact oz
  ·rfl
def aa5(x:T)(j:Nat):Option T:=match x with| .tup vs=>vs[j]? |_=>none
theorem aqU{x:iz}{j:Nat}(i:d<n):gV E call n (⟨some d,.ext x j,none⟩::os) ⟨fr,lh,sh⟩=(aa5 (rd fr x) j).bind fun v=>gV E call n os ⟨kj fr d v,lh,sh⟩:=by
 refine lE (d:=some d) (by rfl) i ?_
 unfold one aa5
 simp only[jf]
 cases r:rd fr x <;> try rfl
 exact oz
def Pg(x:T):Option T:=match x with| .s bs=>some (.i .i64 bs.length)|_=>none
theorem ail{x:iz}(i:d<n):gV E call n (⟨some d,.lenS x,none⟩::os) ⟨fr,lh,sh⟩=(Pg (rd fr x)).bind fun v=>gV E call n os ⟨kj fr d v,lh,sh⟩:=by
 refine lE (d:=some d) (by rfl) i ?_
 unfold one Pg
 simp only[jf]
 cases r:rd fr x <;> rfl
theorem aim{x:iz}(r:d<n):gV E call n (⟨some d,.lenV x,none⟩::os) ⟨fr,lh,sh⟩=((tC (rd fr x)).map fun m=>T.i .i64 m).bind fun v=>gV E call n os ⟨kj fr d v,lh,sh⟩:=
 lE (d:=some d) (by rfl) r oz
def mmV(i:Bool)(l:List T):Option T:=match l with|x::rest=>nD i x rest| []=>none
theorem awK{i:Bool}{args:List iz}(C:d<n):gV E call n (⟨some d,.mm i args,none⟩::os) ⟨fr,lh,sh⟩=(mmV i (args.map (rd fr))).bind fun v=>gV E call n os ⟨kj fr d v,lh,sh⟩:=by
 refine lE (d:=some d) (by rfl) C ?_
 unfold one mmV
 simp only[jf]
 cases D:args.map (rd fr)with
 |nil=>rfl
 |cons x r=>exact oz
def RB(x:T):Option T:=match x with| .vp cs=>some (.vp cs)| .ptr sp k g off=>some (.ptr sp k g off)| .fn f a c=>some (.fn f a c)|_=>none
theorem aa6{x:iz}:one fr lh sh d (.nck x)=(RB (rd fr x)).map fun v=>(v,[]):=by
 unfold one RB
 simp only[jf]
 cases i:rd fr x <;> rfl
theorem aqW{x:iz}(i:d<n):gV E call n (⟨some d,.nck x,none⟩::os) ⟨fr,lh,sh⟩=(RB (rd fr x)).bind fun v=>gV E call n os ⟨kj fr d v,lh,sh⟩:=
 lE (d:=some d) (by rfl) i aa6
def ldE(e:gR)(g off m:Nat)(i:Bool):Option T:=
 match e with
 |⟨r,.cells cs _ _⟩=>if r=g then part cs off m i else none
 |_=>none
theorem RC{g i off m wm:Nat}{r bx:Bool}{cs:List T}:ldE ⟨i,.cells cs wm bx⟩ g off m r=if i=g then part cs off m r else none:=rfl
def ZZ(lh:hJ gR)(sh:List gR)(x:T)(m:Nat)(i:Bool):Option T:=
 match x with
 | .vp cs=>part cs 0 m i
 | .ptr .L k g off=>ldE (a6 lh k) g off m i
 | .ptr .S k g off=>ldE (jr sh k) g off m i
 |_=>none
theorem Ws{α:Type}{o:Option α}{h:Sp→Nat→gR}{i:Nat}:(Q.of o).run h i=o:=by cases o <;> rfl
theorem ldQ{h:Sp→Nat→gR}{C g off m:Nat}{i:Bool}(e:gR):Q.run h C (if e.g=g then(match e.ob with| .cells cs _ _=>Q.of (part cs off m i)|_=> .fail)else .fail)=ldE e g off m i:=by
 obtain⟨D,ob⟩:=e
 unfold ldE
 by_cases r:D=g
 ·cases ob <;> simp only[r,if_true] <;> first|rfl|exact Ws
 ·cases ob <;> simp only[r,if_false] <;> rfl
theorem Ph{x:T}{m:Nat}{i:Bool}:(HH x m i).run (St.mk fr lh sh).get sh.length=ZZ lh sh x m i:=by
 unfold HH ZZ
 cases x <;> try rfl
 ·exact Ws
 ·rename_i sp k g off
  cases sp
  ·exact ldQ (a6 lh k)
  ·exact ldQ (jr sh k)
theorem js{α β:Type}{h:Sp→Nat→gR}{i:Nat}{f:α→Q β}: ∀(q:Q α),(q.bind f).run h i=(q.run h i).bind fun a=>(f a).run h i
 | .ret a=>rfl
 | .fail=>rfl
 | .rd sp k g=>js (g (h sp k))
 | .new g=>js (g i)
theorem awL{x:iz}{m:Nat}{i:Bool}(r:d<n):gV E call n (⟨some d,.ld x m i,none⟩::os) ⟨fr,lh,sh⟩=(ZZ lh sh (rd fr x) m i).bind fun v=>gV E call n os ⟨kj fr d v,lh,sh⟩:=by
 refine lE (d:=some d) (by rfl) r ?_
 unfold one
 simp only[jf,js,Ph]
 cases ZZ lh sh (rd fr x) m i <;> rfl
theorem aa7{z:List T}(i:d<n):gV E call n (⟨some d,.alloc z false,none⟩::os) ⟨fr,lh,sh⟩=gV E call n os ⟨kj fr d (.ptr .L d ((a6 lh d).g+1) 0),pk lh d ⟨(a6 lh d).g+1,.cells z 0 true⟩,sh⟩:=by
 rw[qL (by rfl) (show FE n (some d)from i)];rfl
theorem aqX{x:iz}(i:d<n)(r:noTup (rd fr x)=true):gV E call n (⟨some d,.box x false,none⟩::os) ⟨fr,lh,sh⟩=gV E call n os ⟨kj fr d (.ptr .L d ((a6 lh d).g+1) 0),pk lh d ⟨(a6 lh d).g+1,.cells (cellsOf (rd fr x)) 0 true⟩,sh⟩:=by
 rw[qL (by rfl) (show FE n (some d)from i)]
 unfold one
 simp only[jf,r]
 rfl
theorem aa8(i:d<n):gV E call n (⟨some d,.mkmap false,none⟩::os) ⟨fr,lh,sh⟩=gV E call n os ⟨kj fr d (.mp .L d ((a6 lh d).g+1)),pk lh d ⟨(a6 lh d).g+1,.map [] [] false⟩,sh⟩:=by
 rw[qL (by rfl) (show FE n (some d)from i)];rfl
def MQ(x:T)(bytes:Nat):Option Nat:=match asNat x with|some m=>if m*bytes≤roomy∧m≤roomy then some m else none|none=>none
theorem aio{z:List T}{bytes:Nat}{x:iz}(i:d<n):gV E call n (⟨some d,.mksl z bytes x false,none⟩::os) ⟨fr,lh,sh⟩=
  (MQ (rd fr x) bytes).bind fun m=>gV E call n os ⟨kj fr d (.isl .L d ((a6 lh d).g+1) 0 m z.length),pk lh d ⟨(a6 lh d).g+1,.cells (repl z m) 0 (nmZ z)⟩,sh⟩:=by
 rw[qL (by rfl) (show FE n (some d)from i)]
 unfold one MQ
 simp only[jf]
 cases asNat (rd fr x)with
 |none=>rfl
 |some m=>
  simp only[Bool.and_eq_true,decide_eq_true_eq]
  split <;> rfl
end
end Go.Ev
namespace Go.Ev
open Go
def froz1:T→Bool
 | .b _| .i .. | .s _| .nilsl| .sl .. | .nilptr| .vp _| .nilmp| .vm .. | .nilfn=>true
 |_=>false
def froz:T→Bool
 | .agg cs=>cs.all froz1
 | .tup cs=>cs.all froz1
 | .fn _ a c=>a.all froz1&&c.all froz1
 |t=>froz1 t
theorem wJ{keep:Bool}{n:Nat}{t:T}(h:froz1 t=true):fz keep (n+1) t= .ret (t,[]):=by
 cases t <;> first|rfl|(simp[froz1]at h)
theorem pn{keep:Bool}{n:Nat}: ∀(ts:List T),ts.all froz1=true→iZ (fz keep (n+1)) ts= .ret (ts,[])
 | [],_=>rfl
 |t::ts,h=>by
  simp_all[List.all_cons,Bool.and_eq_true,iZ,wJ,pn,Q.bind,List.append_nil]
theorem H4{keep:Bool}{n:Nat}{cs:List T}:fz keep (n+1) (.agg cs)=(iZ (fz keep n) cs).bind fun q=> .ret (.agg q.1,q.2):=rfl
theorem MR{keep:Bool}{n:Nat}{cs:List T}:fz keep (n+1) (.tup cs)=(iZ (fz keep n) cs).bind fun q=> .ret (.tup q.1,q.2):=rfl
theorem agj{keep:Bool}{n f:Nat}{a c:List T}:fz keep (n+1) (.fn f a c)=(iZ (fz keep n) a).bind fun p=>(iZ (fz keep n) c).bind fun q=> .ret (.fn f p.1 q.1,p.2++q.2):=rfl
theorem pP{keep:Bool}{n:Nat}{t:T}(h:froz t=true):fz keep (n+2) t= .ret (t,[]):=by
 cases t with
 |agg cs=>simp only[froz]at h;rw[H4,pn cs h];rfl
 |tup cs=>simp only[froz]at h;rw[MR,pn cs h];rfl
 |fn f a c=>simp only[froz,Bool.and_eq_true]at h;rw[agj,pn a h.1,pn c h.2];rfl
 |_=>exact wJ h
def fzV(lh:hJ gR)(sh:List gR)(keep:Bool)(v:T):Option (T×List Up):=(fz keep iB v).run (St.mk .nil lh sh).get sh.length
def HG(lh:hJ gR)(sh:List gR)(keep:Bool)(i:List T):Option (List T×List Up):=(iZ (fz keep iB) i).run (St.mk .nil lh sh).get sh.length
section
variable{lh:hJ gR}{sh:List gR}{keep:Bool}
theorem wK{v:T}(h:froz v=true):fzV lh sh keep v=some (v,[]):=by
 unfold fzV iB;rw[pP h];rfl
theorem H5:HG lh sh keep []=some ([],[]):=rfl
theorem tO{v:T}{i:List T}:HG lh sh keep (v::i)=(fzV lh sh keep v).bind fun p=>(HG lh sh keep i).bind fun q=>some (p.1::q.1,p.2++q.2):=by
 unfold HG fzV
 rw[iZ,js]
 congr 1
 funext p
 rw[js]
 rfl
theorem wL{i:List T}(h:i.all froz=true):HG lh sh keep i=some (i,[]):=by
 induction i with
 |nil=>rfl
 |cons v i ih=>
  simp_all[List.all_cons,Bool.and_eq_true,tO,wK]
def Wt(m:Nat)(lh:hJ gR)(sh:List gR)(k:Nat)(e:gR)(g off len sz:Nat):Option (T×List Up):=
 match e with
 |⟨i,.cells cs _ false⟩=>if i=g∧off+len*sz≤cs.length then some (.sl ((cs.drop off).take (len*sz)) len false,[(.L,k,⟨g,.cells cs cs.length false⟩)])else none
 |⟨i,.cells cs _ true⟩=>if i=g∧off+len*sz≤cs.length then((iZ (fz false m) ((cs.drop off).take (len*sz))).run (St.mk .nil lh sh).get sh.length).map fun q=>(.sl q.1 len false,q.2++ [(.L,k,⟨g,.cells cs cs.length true⟩)])else none
 |_=>none
theorem aqY{m k g off len sz:Nat}(e:gR):Q.run (St.mk .nil lh sh).get sh.length (if e.g=g then(match e.ob with
        | .cells cs _ false=>if off+len*sz≤cs.length then .ret (T.sl ((cs.drop off).take (len*sz)) len false,[(Sp.L,k,(⟨g,.cells cs cs.length false⟩:gR))])else .fail
        | .cells cs _ true=>if off+len*sz≤cs.length then(iZ (fz false m) ((cs.drop off).take (len*sz))).bind fun q=> .ret (T.sl q.1 len false,q.2++ [(Sp.L,k,(⟨g,.cells cs cs.length true⟩:gR))])else .fail
        |_=> .fail)else .fail)=Wt m lh sh k e g off len sz:=by
 obtain⟨C,ob⟩:=e
 unfold Wt
 by_cases i:C=g
 ·cases ob with
  |cells cs wm bx=>
   cases bx
   ·grind [Q.run]
   ·by_cases r:off+len*sz≤cs.length
    ·simp only[i,r,if_true,and_self,js]
     cases (iZ (fz false m) ((cs.drop off).take (len*sz))).run (St.mk .nil lh sh).get sh.length <;> rfl
    ·simp[i,r,Q.run]
  |_=>simp[i,Q.run]
 grind [Q.run]
theorem Pj{k g off len sz:Nat}:fzV lh sh keep (.isl .L k g off len sz)=Wt 7 lh sh k (a6 lh k) g off len sz:=by
 cases keep <;> exact aqY (a6 lh k)
def mpV(k:Nat)(e:gR)(g:Nat):Option (T×List Up):=
 match e with
 |⟨r,.map ks i _⟩=>if r=g then some (.vm ks i,[(.L,k,⟨g,.map ks i true⟩)])else none
 |_=>none
theorem mpQ{h:Sp→Nat→gR}{r k g:Nat}(e:gR):Q.run h r (if e.g=g then(match e.ob with
        | .map ks i _=> .ret (T.vm ks i,[(Sp.L,k,(⟨g,.map ks i true⟩:gR))])
        |_=> .fail)else .fail)=mpV k e g:=by
 obtain⟨C,ob⟩:=e
 unfold mpV
 grind [Q.run]
theorem aip{k g:Nat}:fzV lh sh keep (.mp .L k g)=mpV k (a6 lh k) g:=by
 cases keep <;> exact mpQ (a6 lh k)
theorem aa9{cs:List T}:fzV lh sh keep (.agg cs)=((iZ (fz keep 7) cs).run (St.mk .nil lh sh).get sh.length).map fun q=>(.agg q.1,q.2):=by
 unfold fzV iB
 rw[H4,js]
 cases (iZ (fz keep 7) cs).run (St.mk .nil lh sh).get sh.length <;> rfl
theorem aba{cs:List T}:fzV lh sh keep (.tup cs)=((iZ (fz keep 7) cs).run (St.mk .nil lh sh).get sh.length).map fun q=>(.tup q.1,q.2):=by
 unfold fzV iB
 rw[MR,js]
 cases (iZ (fz keep 7) cs).run (St.mk .nil lh sh).get sh.length <;> rfl
end
section
variable{E:Env}{call:rh}{n:Nat}{fr:Fr}{lh:hJ gR}{sh:List gR}{os:List be}{d:Nat}
theorem u7:(St.mk fr lh sh).get=(St.mk .nil lh sh).get:=by funext sp k;cases sp <;> rfl
theorem rj: ∀(us:List Up) (lh:hJ gR) (sh:List gR),(St.mk fr lh sh).ups us={(St.mk .nil lh sh).ups us with fr:=fr}
 | [],lh,sh=>rfl
 |(.L,k,e)::us,lh,sh=>rj us (pk lh k e) sh
 |(.S,k,e)::us,lh,sh=>rj us lh (jP sh k e)
def oh(lh:hJ gR)(sh:List gR)(x v:T)(m:Nat):Option (hJ gR×List gR):=
 match(vS x v m).run (St.mk .nil lh sh).get sh.length with
 |some (.val _ us)=>some (((St.mk .nil lh sh).ups us).lh,((St.mk .nil lh sh).ups us).sh)
 |none=>none
theorem awM{x v:iz}{m:Nat}:gV E call n (⟨none,.st x v m,none⟩::os) ⟨fr,lh,sh⟩=(oh lh sh (rd fr x) (rd fr v) m).bind fun r=>gV E call n os ⟨fr,r.1,r.2⟩:=by
 rw[qL (by rfl) (show FE n none from trivial)]
 grind [one,oh,jf,u7,xZ,qK,rj]
def stB(lh:hJ gR)(sh:List gR)(k:Nat)(e:gR)(g off:Nat)(v:T)(m:Nat):Option (hJ gR×List gR):=
 match e with
 |⟨i,.cells cs wm true⟩=>if i=g∧(cellsOf v).length=m∧noTup v=true∧wm≤off∧off+m≤cs.length then some (pk lh k ⟨g,.cells (splice cs off (cellsOf v)) wm true⟩,sh)else none
 |⟨i,.cells cs wm false⟩=>if i=g∧(cellsOf v).length=m∧noTup v=true∧wm≤off∧off+m≤cs.length then
    (fzV lh sh false v).bind fun p=>if pf p.2 .L k=true∨noTup p.1=false∨(cellsOf p.1).length≠m then none else some (((St.mk .nil lh sh).ups (p.2++ [(.L,k,⟨g,.cells (splice cs off (cellsOf p.1)) wm false⟩)])).lh,((St.mk .nil lh sh).ups (p.2++ [(.L,k,⟨g,.cells (splice cs off (cellsOf p.1)) wm false⟩)])).sh)
  else none
 |_=>none
def nO(lh:hJ gR)(sh:List gR):Option Du→Option (hJ gR×List gR)
 |some (.val _ us)=>some (((St.mk .nil lh sh).ups us).lh,((St.mk .nil lh sh).ups us).sh)
 |none=>none
def abb(k g off m:Nat)(v:T)(e:gR):Q Du:=if e.g=g then match e.ob with
     | .cells cs wm bx=>if wm≤off&&off+m≤cs.length then
         (if bx&&Sp.L== .L then .ret (.val iY [(Sp.L,k,⟨g,.cells (splice cs off (cellsOf v)) wm bx⟩)])
         else(fz (bx&&Sp.L== .S) iB v).bind fun p=>if pf p.2 .L k|| !noTup p.1||(cellsOf p.1).length≠m then .fail else .ret (.val iY (p.2++ [(Sp.L,k,⟨g,.cells (splice cs off (cellsOf p.1)) wm bx⟩)])))
       else .fail
     |_=> .fail
    else .fail
theorem stQ{k g off m:Nat}{v:T}(e:gR)(C:(cellsOf v).length=m)(D:noTup v=true):nO lh sh (Q.run (St.mk .nil lh sh).get sh.length (abb k g off m v e))=stB lh sh k e g off v m:=by
 obtain⟨H,ob⟩:=e
 unfold stB abb
 by_cases I:H=g
 ·subst I
  cases ob with
  |none=>simp[Q.run,nO]
  |map ks J z=>simp[Q.run,nO]
  |cells cs wm bx=>
   by_cases i:wm≤off∧off+m≤cs.length
   ·cases bx with
    |true=>grind [Q.run,agi,CR,nO]
    |false=>
     have r:(decide (wm≤off)&&decide (off+m≤cs.length))=true:=by simp[i.1,i.2]
     simp only[if_true,r,Bool.false_and,Bool.false_eq_true,if_false,js]
     rw[if_pos (show True∧(cellsOf v).length=m∧noTup v=true∧wm≤off∧off+m≤cs.length from⟨trivial,C,D,i⟩)]
     show nO lh sh (Option.bind (fzV lh sh false v) _)=_
     cases K:fzV lh sh false v with
     |none=>rfl
     |some p=>
      simp only[Option.bind_some]
      by_cases N:(pf p.2 .L k=true∨noTup p.1=false∨(cellsOf p.1).length≠m)
      ·grind [Q.run,nO]
      simp_all[Bool.false_eq_true,Q.run,nO,Classical.byContradiction]
   grind [Bool.false_eq_true,Q.run,nO]
 grind [Q.run,nO]
theorem aq0{k g off m:Nat}{v:T}:oh lh sh (.ptr .L k g off) v m=stB lh sh k (a6 lh k) g off v m:=by
 by_cases i:(cellsOf v).length=m
 ·cases r:noTup v with
  |false=>
   unfold oh vS
   have:(decide ((cellsOf v).length≠m)|| !noTup v)=true:=by simp[r]
   simp only[this,if_true,Q.run]
   unfold stB
   grind
  |true=>
   unfold oh vS
   have:(decide ((cellsOf v).length≠m)|| !noTup v)=false:=by simp[i,r]
   simp only[this,Bool.false_eq_true,if_false]
   exact stQ (a6 lh k) i r
 ·unfold oh vS
  have:(decide ((cellsOf v).length≠m)|| !noTup v)=true:=by simp[i]
  simp only[this,if_true,Q.run]
  unfold stB
  grind
theorem abc{k g i off m wm:Nat}{cs:List T}{v:T}:stB lh sh k ⟨i,.cells cs wm true⟩ g off v m=if i=g∧(cellsOf v).length=m∧noTup v=true∧wm≤off∧off+m≤cs.length then some (pk lh k ⟨g,.cells (splice cs off (cellsOf v)) wm true⟩,sh)else none:=rfl
theorem abd{k g i off m wm:Nat}{cs:List T}{v:T}(r:froz v=true):stB lh sh k ⟨i,.cells cs wm false⟩ g off v m=if i=g∧(cellsOf v).length=m∧noTup v=true∧wm≤off∧off+m≤cs.length then some (pk lh k ⟨g,.cells (splice cs off (cellsOf v)) wm false⟩,sh)else none:=by
 unfold stB
 simp only[wK r,Option.bind_some,pf,List.any_nil,Bool.false_eq_true,false_or]
 by_cases h:i=g∧(cellsOf v).length=m∧noTup v=true∧wm≤off∧off+m≤cs.length
 ·rw[if_pos h,if_pos h,if_neg (by rintro(hc|hc) <;> simp_all)]
  rfl
 ·grind
def slC(lh:hJ gR)(sh:List gR)(sz:Nat)(x:T):Option (Nat×List T):=(jQ sz x).run (St.mk .nil lh sh).get sh.length
theorem Pk{sz:Nat}:slC lh sh sz .nilsl=some (0,[]):=rfl
theorem yI{sz len:Nat}{cs:List T}{ex:Bool}:slC lh sh sz (.sl cs len ex)=if cs.length=len*sz then some (len,cs)else none:=by
 unfold slC jQ;simp only[];split <;> rfl
def RD(lh:hJ gR)(k:Nat)(e:gR)(g off len sz i bytes:Nat)(p:Nat×List T):Option (T×hJ gR):=
 match e with
 |⟨r,.cells cs wm false⟩=>if i=sz∧off=0∧(len+p.1)*bytes≤roomy∧r=g∧len*sz=cs.length then some (.isl .L k (g+1) 0 (len+p.1) sz,pk lh k ⟨g+1,.cells (cs++p.2) wm false⟩)else none
 |_=>none
def H6(lh:hJ gR)(d sz bytes:Nat)(s:T)(p:Nat×List T):Option (T×hJ gR):=
 if p.1=0 then(match s with| .nilsl| .sl .. | .isl .. =>some (s,lh)|_=>none)else
 match s with
 | .nilsl=>if p.1*bytes≤roomy then some (.isl .L d ((a6 lh d).g+1) 0 p.1 sz,pk lh d ⟨(a6 lh d).g+1,.cells p.2 0 false⟩)else none
 | .sl cs len true=>if cs.length=len*sz∧(len+p.1)*bytes≤roomy then some (.isl .L d ((a6 lh d).g+1) 0 (len+p.1) sz,pk lh d ⟨(a6 lh d).g+1,.cells (cs++p.2) 0 false⟩)else none
 | .isl .L k g off len i=>RD lh k (a6 lh k) g off len sz i bytes p
 |_=>none
def agl(k g off len sz i bytes:Nat)(p:Nat×List T)(e:gR):Q Du:=
     if e.g=g then match e.ob with
      | .cells cs wm false=>if len*sz=cs.length then .ret (.val (.isl .L k (g+1) 0 (len+p.1) sz) [(.L,k,⟨g+1,.cells (cs++p.2) wm false⟩)])else .fail
      |_=> .fail
     else .fail
theorem awN{k g off len sz i bytes:Nat}{p:Nat×List T}(e:gR)(C:i=sz∧off=0∧(len+p.1)*bytes≤roomy):
  ((qK (Q.run (St.mk .nil lh sh).get sh.length (agl k g off len sz i bytes p e))).bind fun r=>gV E call n os {(St.mk fr lh sh).ups r.2 with fr:=kj fr d r.1})=
    (RD lh k e g off len sz i bytes p).bind fun q=>gV E call n os ⟨kj fr d q.1,q.2,sh⟩:=by
 obtain⟨D,ob⟩:=e
 unfold agl RD
 by_cases H:D=g
 ·cases ob with
  |cells cs wm bx=>
   cases bx
   ·by_cases I:len*sz=cs.length
    ·simp only[H,I,if_true,Q.run,qK,C,and_self,Option.bind_some]
     rfl
    ·grind [Q.run,qK]
   ·grind [Q.run,qK]
  |_=>grind [Q.run,qK]
 grind [Q.run,qK]
theorem aq1{sz bytes:Nat}{s x:iz}(D:d<n)(hs: ∀k g off len sz,rd fr s≠ .isl .S k g off len sz):gV E call n (⟨some d,.app sz bytes s x false false,none⟩::os) ⟨fr,lh,sh⟩=
  (slC lh sh sz (rd fr x)).bind fun p=>(H6 lh d sz bytes (rd fr s) p).bind fun q=>gV E call n os ⟨kj fr d q.1,q.2,sh⟩:=by
 rw[qL (by rfl) (show FE n (some d)from D)]
 unfold one slC
 simp only[jf,rA,js,u7]
 cases I:(jQ sz (rd fr x)).run (St.mk .nil lh sh).get sh.length with
 |none=>rfl
 |some p=>
  simp only[Option.bind_some]
  unfold H6
  by_cases C:p.1=0
  ·simp only[if_pos C]
   cases r:rd fr s <;> rfl
  ·simp only[if_neg C]
   cases r:rd fr s <;> try rfl
   ·simp only[]
    split <;> rfl
   ·rename_i cs len ex
    cases ex
    ·rfl
    ·simp only[Bool.and_eq_true,decide_eq_true_eq]
     split <;> rfl
   ·rename_i sp k g off len H
    cases sp
    ·simp only[Bool.and_eq_true,decide_eq_true_eq]
     by_cases i:(H=sz∧off=0)∧(len+p.1)*bytes≤roomy
     ·simp only[if_pos i]
      exact awN (a6 lh k) ⟨i.1.1,i.1.2,i.2⟩
     ·simp only[if_neg i,Q.run,qK]
      unfold RD
      grind
    ·grind
def u9(sz:Nat)(x:T)(l h:Nat):Option T:=
 match x with
 | .nilsl=>if l=0∧h=0 then some .nilsl else none
 | .sl cs len ex=>if l≤h∧h≤len∧cs.length=len*sz then some (.sl ((cs.drop (l*sz)).take ((h-l)*sz)) (h-l) (ex&&decide (h=len)))else none
 | .isl sp k g off len i=>if l≤h∧h≤len∧i=sz then some (if l=h then(if sp= .S∧h=0∧off=0 then .isl sp k g 0 0 sz else .sl [] 0 false)else .isl sp k g (off+l*sz) (h-l) sz)else none
 |_=>none
def abe(fr:Fr)(sz:Nat)(x:T)(l h:Option iz):Option T:=
 (tC x).bind fun m=>(kG (rd fr) 0 l).bind fun l=>(kG (rd fr) m h).bind fun h=>u9 sz x l h
theorem RE{sz l h i:Nat}{x:T}{r:Sp→Nat→gR}:(B0 sz x l h).run r i=u9 sz x l h:=by
 unfold B0 u9
 cases x <;> try rfl
 ·simp only[Bool.and_eq_true,decide_eq_true_eq];split <;> rfl
 ·simp only[Bool.and_eq_true,decide_eq_true_eq,and_assoc];split <;> rfl
 ·simp only[Bool.and_eq_true,decide_eq_true_eq,and_assoc];split <;> rfl
theorem aq2{sz:Nat}{x:iz}{l h:Option iz}(i:d<n):gV E call n (⟨some d,.slV sz x l h none,none⟩::os) ⟨fr,lh,sh⟩=(abe fr sz (rd fr x) l h).bind fun v=>gV E call n os ⟨kj fr d v,lh,sh⟩:=by
 refine lE (d:=some d) (by rfl) i ?_
 unfold one abe
 simp only[jf]
 cases tC (rd fr x)with
 |none=>rfl
 |some m=>
  simp only[Option.bind_some]
  cases kG (rd fr) 0 l with
  |none=>rfl
  |some l=>
   cases kG (rd fr) m h with
   |none=>rfl
   |some h=>
    simp only[js,RE,Option.bind_some]
    cases u9 sz (rd fr x) l h <;> rfl
def lkE(e:gR)(g:Nat)(i:EK)(k z:T)(r:Bool):Option T:=
 match e with
 |⟨C,.map ks D _⟩=>if C=g then nX i ks D k z r else none
 |_=>none
def lkV(lh:hJ gR)(sh:List gR)(i:EK)(m k z:T)(r:Bool):Option T:=
 match m with
 | .nilmp=>if isKey i k=true then some (if r=true then .tup [z,.b false]else z)else none
 | .vm ks C=>nX i ks C k z r
 | .mp .L kk g=>lkE (a6 lh kk) g i k z r
 | .mp .S kk g=>lkE (jr sh kk) g i k z r
 |_=>none
theorem lkQ{h:Sp→Nat→gR}{D g:Nat}{i:EK}{k z:T}{r:Bool}(e:gR):qK (Q.run h D (if e.g=g then(match e.ob with| .map ks vs _=>val (nX i ks vs k z r)|_=> .fail)else .fail))=(lkE e g i k z r).map fun v=>(v,[]):=by
 obtain⟨H,ob⟩:=e
 unfold lkE
 by_cases C:H=g
 ·cases ob <;> simp only[C,if_true] <;> first|rfl|exact oz
 ·cases ob <;> simp only[C,if_false] <;> rfl
theorem awO{i:EK}{m k:iz}{z:T}{r:Bool}(C:d<n):gV E call n (⟨some d,.lk i m k z r,none⟩::os) ⟨fr,lh,sh⟩=(lkV lh sh i (rd fr m) (rd fr k) z r).bind fun v=>gV E call n os ⟨kj fr d v,lh,sh⟩:=by
 refine lE (d:=some d) (by rfl) C ?_
 unfold one lkV
 simp only[jf]
 cases D:rd fr m <;> try rfl
 ·simp only[];split <;> rfl
 ·exact oz
 ·rename_i sp kk g
  cases sp
  ·exact lkQ (a6 lh kk)
  ·exact lkQ (jr sh kk)
def muE(lh:hJ gR)(kk:Nat)(e:gR)(g:Nat)(i:EK)(k v:T):Option (hJ gR):=
 match e with
 |⟨r,.map ks C false⟩=>if r=g∧isKey i k=true then(rB i k v ks C).map fun q=>pk lh kk ⟨g,.map q.1 q.2 false⟩else none
 |_=>none
def abf(kk g:Nat)(i:EK)(k v:T)(e:gR):Q Du:=if e.g=g&&isKey i k then match e.ob with
      | .map ks r false=>(fz false iB v).bind fun p=>match rB i k p.1 ks r with
        |some q=>if pf p.2 .L kk then .fail else .ret (.val iY (p.2++ [(.L,kk,⟨g,.map q.1 q.2 false⟩)]))
        |none=> .fail
      |_=> .fail
     else .fail
theorem muQ{kk g:Nat}{i:EK}{k v:T}(e:gR)(H:froz v=true):((qK (Q.run (St.mk fr lh sh).get sh.length (abf kk g i k v e))).bind fun r=>gV E call n os {(St.mk fr lh sh).ups r.2 with fr:=fr})=
  (muE lh kk e g i k v).bind fun I=>gV E call n os ⟨fr,I,sh⟩:=by
 obtain⟨D,ob⟩:=e
 unfold abf muE
 by_cases C:D=g∧isKey i k=true
 ·have:(decide (D=g)&&isKey i k)=true:=by simp[C.1,C.2]
  simp only[this,if_true]
  cases ob with
  |none=>rfl
  |cells cs wm bx=>rfl
  |map ks J z=>
   cases z with
   |true=>rfl
   |false=>
    simp only[if_pos C]
    unfold iB
    rw[pP H]
    simp only[Q.bind]
    cases rB i k v ks J with
    |none=>rfl
    |some q=>simp only[pf,List.any_nil,Bool.false_eq_true,if_false,Q.run,List.nil_append];rfl
 grind [Bool.false_eq_true,Q.run,qK]
theorem aq3{i:EK}{m k v:iz}{kk g:Nat}(r:rd fr m= .mp .L kk g)(C:froz (rd fr v)=true):gV E call n (⟨none,.mu i m k v,none⟩::os) ⟨fr,lh,sh⟩=(muE lh kk (a6 lh kk) g i (rd fr k) (rd fr v)).bind fun D=>gV E call n os ⟨fr,D,sh⟩:=by
 rw[qL (by rfl) (show FE n none from trivial)]
 unfold one
 simp only[jf,r]
 exact muQ (a6 lh kk) C
def muV(lh:hJ gR)(i:EK)(m k v:T):Option (hJ gR):=
 match m with
 | .mp .L kk g=>muE lh kk (a6 lh kk) g i k v
 |_=>none
theorem awP{i:EK}{m k v:iz}(D: ∀kk g,rd fr m≠ .mp .S kk g)(r:froz (rd fr v)=true):gV E call n (⟨none,.mu i m k v,none⟩::os) ⟨fr,lh,sh⟩=(muV lh i (rd fr m) (rd fr k) (rd fr v)).bind fun C=>gV E call n os ⟨fr,C,sh⟩:=by
 cases h:rd fr m with
 |mp sp kk g=>
  cases sp with
  |L=>rw[aq3 h r];rfl
  |S=>grind
 |_=>
  rw[qL (by rfl) (show FE n none from trivial)]
  unfold one
  simp only[jf,h]
  rfl
def RF(z:List T)(len:Nat)(C:List Nat)(r:List T):Option T:=
 if(r.all fun v=>(cellsOf v).length=z.length&&noTup v)=true then(qG (repl z len) ((C.map fun i=>i*z.length).zip (r.map cellsOf))).map fun cs=> .sl cs len true else none
theorem aq5{z:List T}{len:Nat}{ps:List (Nat×iz)}(r:d<n):gV E call n (⟨some d,.bsl z len ps,none⟩::os) ⟨fr,lh,sh⟩=
  (HG lh sh false (ps.map fun p=>rd fr p.2)).bind fun q=>(RF z len (ps.map (·.1)) q.1).bind fun v=>gV E call n os {(St.mk fr lh sh).ups q.2 with fr:=kj fr d v}:=by
 rw[qL (by rfl) (show FE n (some d)from r)]
 unfold one HG RF
 simp only[jf,js,u7]
 cases (iZ (fz false iB) (ps.map fun p=>rd fr p.2)).run (St.mk .nil lh sh).get sh.length with
 |none=>rfl
 |some q=>
  simp only[Option.bind_some]
  have e:(ps.map (·.1)).map (fun i=>i*z.length)=ps.map fun p=>p.1*z.length:=by rw[List.map_map];rfl
  rw[e]
  split
  ·cases qG (repl z len) ((ps.map fun p=>p.1*z.length).zip (q.1.map cellsOf)) <;> rfl
  ·rfl
theorem aiq{d:Option Nat}{op:mO}{f:Nat}{args:List T}(i:jj (rd fr) op=some (some (f,args)))(C:FE n d):
  gV E call n (⟨d,op,none⟩::os) ⟨fr,lh,sh⟩=(iU E call (d.getD 0) ⟨fr,lh,sh⟩ f args).bind fun r=>gV E call n os ⟨xZ fr d r.1,r.2.lh,r.2.sh⟩:=by
 simp only[gV,iW,lq,i]
 cases iU E call (d.getD 0) ⟨fr,lh,sh⟩ f args with
 |none=>rfl
 |some r=>
  simp only[Option.bind_some]
  cases d with
  |none=>rfl
  |some d=>simp only[nE,if_pos (show d<n from C),xZ,Option.map_some]
theorem air{f:Nat}{as:List iz}(i:d<n):gV E call n (⟨some d,.callf f as,none⟩::os) ⟨fr,lh,sh⟩=(iU E call d ⟨fr,lh,sh⟩ f (as.map (rd fr))).bind fun r=>gV E call n os ⟨kj fr d r.1,r.2.lh,r.2.sh⟩:=
 aiq (d:=some d) rfl i
def Pl(E:Env)(call:rh)(d:Nat)(st:St)(f:T)(args:List T):Option (T×St):=
 match f with
 | .fn f a c=>iU E call d st f (a++args++c)
 |_=>none
theorem JD{C:Nat}{i:gU}{f:Nat}{args:List T}(D:E.fn f=some i)(H:i.eff=false)(I:i.own=none):iU E call C ⟨fr,lh,sh⟩ f args=
  (HG lh sh false args).bind fun q=>(call f q.1 []).bind fun r=>some (r.1,if scalar r.1=true then⟨fr,lh,sh⟩else(St.mk fr lh sh).ups q.2):=by
 grind [iU,HG,u7,Bool.false_eq_true]
theorem JC{C:Nat}{i:gU}{f:Nat}{args:List T}(D:E.fn f=some i)(H:i.eff=false)(I:i.own=none)(J:args.all froz=true):iU E call C ⟨fr,lh,sh⟩ f args=
  (call f args []).bind fun r=>some (r.1,⟨fr,lh,sh⟩):=by
 grind [JD,wL,CR]
theorem Wu{C:Nat}{i:gU}{f j:Nat}{args:List T}(D:E.fn f=some i)(H:i.eff=false)(I:i.own=some j):iU E call C ⟨fr,lh,sh⟩ f args=
  (HG lh sh false args).bind fun q=>(call f q.1 []).bind fun r=>rz C j r.1 ⟨fr,lh,sh⟩ q.2:=by
 grind [iU,HG,u7,Bool.false_eq_true]
theorem Ra{C:Nat}{i:gU}{f j:Nat}{args:List T}(D:E.fn f=some i)(H:i.eff=false)(I:i.own=some j)(J:args.all froz=true):iU E call C ⟨fr,lh,sh⟩ f args=
  (call f args []).bind fun r=>rz C j r.1 ⟨fr,lh,sh⟩ []:=by
 grind [Wu,wL]
theorem Wv{i:Nat}{g:List T→Option T}{f:Nat}{args:List T}(C:E.fn f=none)(D:E.ext f=some g):iU E call i ⟨fr,lh,sh⟩ f args=
  (HG lh sh false args).bind fun q=>(g q.1).bind fun r=>some (r,⟨fr,lh,sh⟩):=by
 unfold iU HG
 simp only[C,D,u7]
 cases (iZ (fz false iB) args).run (St.mk .nil lh sh).get sh.length with
 |none=>rfl
 |some q=>
  simp only[Option.bind_some]
  cases g q.1 <;> rfl
theorem Kq{i:Nat}{g:List T→Option (List T×Option Nat)}{f:Nat}{args:List T}(r:E.fn f=none)(C:E.ext f=none)(D:E.wr f=some g):iU E call i ⟨fr,lh,sh⟩ f args=vL g ⟨fr,lh,sh⟩ args:=by
 grind [iU]
theorem Ww{d:Option Nat}{op:mO}{j:Nat}{w:Bool}(h:an fr j= .b w):gV E call n (⟨d,op,some (j,w)⟩::os) ⟨fr,lh,sh⟩=gV E call n (⟨d,op,none⟩::os) ⟨fr,lh,sh⟩:=by
 grind [gV,iW]
theorem MS{d:Option Nat}{op:mO}{j:Nat}{w:Bool}(i:FE n d)(h:an fr j= .b (!w)):gV E call n (⟨d,op,some (j,w)⟩::os) ⟨fr,lh,sh⟩=gV E call n os ⟨xZ fr d iY,lh,sh⟩:=by
 simp only[gV,iW,h]
 rw[if_neg (by cases w <;> simp)]
 cases d with
 |none=>rfl
 |some d=>simp only[nE,if_pos (show d<n from i),xZ,Option.map_some]
theorem Pm{d:Option Nat}{op:mO}{j:Nat}{w:Bool}(i:FE n d)(h:an fr j=iY):gV E call n (⟨d,op,some (j,w)⟩::os) ⟨fr,lh,sh⟩=gV E call n os ⟨xZ fr d iY,lh,sh⟩:=by
 simp only[gV,iW,h,iY]
 cases d with
 |none=>rfl
 |some d=>simp only[nE,if_pos (show d<n from i),xZ,Option.map_some]
theorem aq6{i:List FP}{st:St}:iK E call n [] i st=some st:=rfl
end
section
variable{E:Env}{n:Nat}{fr:Fr}{lh:hJ gR}{sh:List gR}
def agn(t:T)(x y:Option (Out×St)):Option (Out×St):=match t with| .b c=>if c=true then x else y|_=>none
theorem Wx{c:iz}{a b:gT}:DC E n (.cond c a b) ⟨fr,lh,sh⟩=agn (rd fr c) (DC E n a ⟨fr,lh,sh⟩) (DC E n b ⟨fr,lh,sh⟩):=by
 rw[aa0,lq]
 unfold agn
 grind
theorem andThen_ite{c:Prop}[Decidable c]{x y:Option (Out×St)}{f:St→Option (Out×St)}:andThen (if c then x else y) f=if c then andThen x f else andThen y f:=by split <;> rfl
theorem RG{c:Prop}[Decidable c]{id:Nat}{x y:Option (Out×St)}:D5 id (if c then x else y)=if c then D5 id x else D5 id y:=by split <;> rfl
theorem abg{α β:Type}{c:Prop}[Decidable c]{x y:Option α}{f:α→β}:(if c then x else y).map f=if c then x.map f else y.map f:=by split <;> rfl
theorem Wy{α β:Type}{c:Prop}[Decidable c]{x y:Option α}{f:α→Option β}:(if c then x else y).bind f=if c then x.bind f else y.bind f:=by split <;> rfl
def Bq(fr:Fr)(lh:hJ gR)(sh:List gR):List qt→Option (List T)
 | []=>some []
 | .tmp t::i=>(Bq fr lh sh i).map fun r=>an fr t::r
 | .cell t m C::i=>(ZZ lh sh (an fr t) m C).bind fun v=>(Bq fr lh sh i).map fun r=>v::r
theorem tP: ∀i,nY ⟨fr,lh,sh⟩ i=Bq fr lh sh i
 | []=>rfl
 | .tmp t::i=>by
   rw[nY,Bq,tP i]
   simp only[JQ]
   cases Bq fr lh sh i <;> rfl
 | .cell t m r::i=>by
   rw[nY,Bq,tP i]
   simp only[JQ,Ph]
   cases ZZ lh sh (an fr t) m r <;> cases Bq fr lh sh i <;> rfl
def RH(lh:hJ gR)(sh:List gR)(i:Bool)(vs:List T):Option (T×List gR):=
 (fzV lh sh i (match vs with| [v]=>v|vs=> .tup vs)).map fun p=>(p.1,((St.mk .nil lh sh).ups p.2).sh)
theorem Br{i:Bool}{r:List T}:answer i r ⟨fr,lh,sh⟩=RH lh sh i r:=by
 unfold answer RH fzV
 grind [u7,rj]
end
theorem Bs{fr i:Fr}{n:Nat}{d:Option Nat}{v:T}(h:nE fr n d v=some i){s:Nat}(hs:some s≠d):an i s=an fr s:=by
 cases d with
 |none=>grind [nE]
 |some d=>
  grind [nE,Wq]
theorem Cf{E:Env}{call:rh}{n:Nat}{o:be}{st C:St}(h:iW E call n o st=some C){s:Nat}(hs:some s≠o.d):an C.fr s=an st.fr s:=by
 have I: ∀C,(match jj st.rho o.op with
  |some (some H)=>match iU E call (o.d.getD 0) st H.1 H.2 with
   |some r=>(nE st.fr n o.d r.1).map fun fr=>{r.2 with fr}
   |none=>none
  |some none=>none
  |none=>match(jf (o.d.getD 0) st.rho o.op).run st.get st.sh.length with
   |some (.val v ups)=>(nE st.fr n o.d v).map fun fr=>{st.ups ups with fr}
   |none=>none)=some C→an C.fr s=an st.fr s:=by
  intro C i
  split at i
  ·split at i
   ·simp only[Option.map_eq_some_iff]at i
    obtain⟨fr,D,rfl⟩:=i
    exact Bs D hs
   ·cases i
  ·cases i
  ·split at i
   ·simp only[Option.map_eq_some_iff]at i
    obtain⟨fr,D,rfl⟩:=i
    exact Bs D hs
   ·cases i
 grind [iW,Option.map_eq_some_iff,Bs]
theorem vb{E:Env}{call:rh}{n:Nat}: ∀(os:List be) {st i:St},gV E call n os st=some i→ ∀s,s∉Be os→an i.fr s=an st.fr s
 | [],st,i,h,s,_=>by cases h;rfl
 |o::os,st,i,h,s,hs=>by
  simp only[gV]at h
  cases C:iW E call n o st with
  |none=>grind
  |some J=>
   simp only[C]at h
   have D:s∉Be os:=fun r=>hs (by
    unfold Be at r ⊢
    rw[List.filterMap_cons]
    split
    ·exact r
    ·exact List.mem_cons_of_mem _ r)
   have H:some s≠o.d:=fun I=>hs (by
    unfold Be
    rw[List.filterMap_cons]
    rw[←I]
    exact List.mem_cons_self)
   rw[vb os h s D,Cf C H]
theorem Cg{E:Env}{call:rh}{n:Nat}: ∀(os:List (List Nat×be)) {r:List FP} {st i:St},iK E call n os r st=some i→ ∀s,s∉Be (os.map (·.2))→an i.fr s=an st.fr s
 | [],r,st,i,h,s,_=>by cases h;rfl
 |(u,o)::os,r,st,i,h,s,hs=>by
  simp only[iK]at h
  split at h
  ·cases h
  ·split at h
   ·cases D:iW E call n o st with
    |none=>grind
    |some K=>
     simp only[D]at h
     have H:s∉Be (os.map (·.2)):=fun C=>hs (by
      unfold Be at C ⊢
      rw[List.map_cons,List.filterMap_cons]
      split
      ·exact C
      ·exact List.mem_cons_of_mem _ C)
     have I:some s≠o.d:=fun J=>hs (by
      unfold Be
      rw[List.map_cons,List.filterMap_cons]
      rw[←J]
      exact List.mem_cons_self)
     rw[Cg os h s H,Cf D I]
   ·cases h
theorem GF{f:St→Option (Out×St)}{s:Nat}(i: ∀st r,f st=some r→an r.2.fr s=an st.fr s): ∀(k:Nat) {st:St} {r:Out×St},iter f k st=some r→an r.2.fr s=an st.fr s
 |0,st,r,h=>by simp[iter]at h
 |k+1,st,r,h=>by
  simp only[iter]at h
  cases C:f st with
  |none=>grind
  |some p=>
   rw[C]at h
   obtain⟨o,H⟩:=p
   have D:=i _ _ C
   cases o with
   |nrm=>rw[GF i k h];exact D
   |ext id=>grind
   |ret=>grind
theorem abh{ks:List Nat}{t u:St}{k:Nat}(h:k∉ks):an (tD ks t u).fr k=an t.fr k:=by
 show an (zJ ks t.fr) k=_
 rw[tL,if_neg h]
theorem qa{E:Env}{call:rh}{fl n:Nat}: ∀(code:gT) {st:St} {r:Out×St},mT E call fl n code st=some r→ ∀s,s∉kJ code→an r.2.fr s=an st.fr s
 | .skip,st,r,h,s,_=>by cases h;rfl
 | .region ops,st,r,h,s,hs=>by
   simp only[mT,Option.map_eq_some_iff]at h
   obtain⟨a,i,rfl⟩:=h
   exact vb ops i s hs
 | .draws ops,st,r,h,s,hs=>by
   simp only[mT,Option.map_eq_some_iff]at h
   obtain⟨a,i,rfl⟩:=h
   exact Cg ops i s hs
 | .seq a b,st,r,h,s,hs=>by
   simp only[kJ,List.mem_append,not_or]at hs
   simp only[mT]at h
   cases C:mT E call fl n a st with
   |none=>grind
   |some p=>
    rw[C]at h
    obtain⟨o,H⟩:=p
    have i:=qa a C s hs.1
    cases o with
    |nrm=>rw[qa b h s hs.2];exact i
    |ext id=>grind
    |ret=>grind
 | .fork os Fh b,st,r,h,s,hs=>by
   simp only[mT]at h
   cases i:gV E call n os st with
   |none=>grind
   |some H=>
    cases I:gV E call n Fh st with
    |none=>grind
    |some N=>
     rw[i,I]at h
     simp only[]at h
     obtain⟨o,O⟩:=r
     obtain⟨U,V,J,W,X,rfl⟩:=yG h
     have D:s∉Be os++kJ b:=hs
     rw[abh D]
     simp only[List.mem_append,not_or]at D
     rw[qa b J s D.2]
     grind [vb]
 | .cond x a b,st,r,h,s,hs=>by
   simp only[kJ,List.mem_append,not_or]at hs
   simp only[mT]at h
   split at h
   ·exact qa a h s hs.1
   ·exact qa b h s hs.2
   ·cases h
 | .block id a,st,r,h,s,hs=>by
   simp only[mT]at h
   cases C:mT E call fl n a st with
   |none=>grind
   |some p=>
    rw[C]at h
    obtain⟨o,H⟩:=p
    have i:=qa a C s hs
    grind
 | .loop a,st,r,h,s,hs=>by
   simp only[mT]at h
   exact GF (fun st r K=>qa a K s hs) fl h
 | .exit id,st,r,h,s,_=>by cases h;rfl
 | .ret,st,r,h,s,_=>by cases h;rfl
theorem lW{E:Env}{n:Nat}{code:gT}{st i:St}{o:Out}(h:DC E n code st=some (o,i))(s:Nat)(hs:(kJ code).contains s=false):an i.fr s=an st.fr s:=by
 obtain⟨m,r⟩:=ko.1 h
 exact qa code r s (by intro C;simp[C]at hs)
end Go.Ev
namespace Go.Ev
open Go
def Q.calm:Q Du→Prop
 | .ret (.val _ i)=>i= []
 | .fail=>True
 | .rd _ _ f=> ∀e,(f e).calm
 | .new _=>False
theorem Q.calm_run{h:Sp→Nat→gR}{D:Nat}: ∀(q:Q Du),q.calm→ ∀{v:T} {i:List Up},q.run h D=some (.val v i)→i= []∧q.asks h D=false
 | .ret (.val _ _),C,v,i,r=>by simp[Q.run]at r;obtain⟨rfl,rfl⟩:=r;exact⟨C,rfl⟩
 | .fail,C,v,i,r=>by simp[Q.run]at r
 | .rd sp k f,C,v,i,r=>Q.calm_run (f (h sp k)) (C _) r
 | .new f,C,v,i,r=>C.elim
theorem nP{o:Option T}:(val o).calm:=by cases o <;> simp[val,Q.calm]
def jC:mO→Bool
 | .mv _| .pick .. | .bin .. | .eq .. | .un .. | .cvi .. | .mkfn .. | .build .. | .slS .. | .fa .. | .fld .. | .ia .. | .iaA .. | .ixS .. | .ixA .. | .ext .. | .lenS _| .lenV _| .lenC _| .mm .. | .nck _| .ld .. | .lk .. | .lenM _=>true
 | .slV _ _ _ _ none=>true
 |_=>false
theorem H7{d:Nat}{ρ:iz→T}{op:mO}(h:jC op=true):(jf d ρ op).calm∧jj ρ op=none:=by
 refine⟨?_,by cases op <;> first|rfl|(simp[jC]at h)⟩
 cases op with
 |mv x=>exact rfl
 |pick c a b=>grind [jf,Q.calm]
 |bin op x y=>exact nP
 |eq neg k x y=>exact nP
 |un op x=>exact nP
 |cvi k x=>grind [jf,Q.calm]
 |mkfn f a c=>exact rfl
 |build z ps=>
  simp only[jf]
  by_cases H:(ps.all fun p=>decide ((cellsOf (ρ p.2.2)).length=p.2.1)&&noTup (ρ p.2.2))=true
  ·grind [nP]
  ·rw[if_neg H];trivial
 |slS x l h=>
  grind [jf,Q.calm]
 |fa x off=>
  grind [jf,Q.calm]
 |fld x off m r=>
  simp only[jf]
  split
  ·exact nP
  ·trivial
 |ia x C sz=>
  grind [jf,Q.calm]
 |iaA x C len sz=>
  grind [jf,Q.calm]
 |ixS x C=>
  grind [jf,Q.calm]
 |ixA x C len sz r=>
  simp only[jf]
  split
  ·split
   ·exact nP
   ·trivial
  ·trivial
 |ext x j=>
  simp only[jf]
  split
  ·exact nP
  ·trivial
 |lenS x=>grind [jf,Q.calm]
 |lenV x=>exact nP
 |lenC m=>exact rfl
 |mm b as=>
  simp only[jf]
  split
  ·exact nP
  ·trivial
 |nck x=>grind [jf,Q.calm]
 |ld x m r=>
  simp only[jf,HH]
  split
  ·rename_i cs _
   cases part cs 0 m r <;> simp[Q.of,Q.bind,Q.calm]
  ·rename_i g off _
   intro e
   obtain⟨D,ob⟩:=e
   by_cases i:D=g
   ·cases ob with
    |cells cs wm bx=>
     simp only[i,if_true]
     generalize part cs _ m r=o
     cases o <;> simp[Q.of,Q.bind,Q.calm]
    |_=>simp only[i,if_true];trivial
   ·simp only[i,if_false];trivial
  ·trivial
 |lk J m k z K=>
  grind [jf,Q.calm,nP]
 |lenM x=>
  simp only[jf]
  split
  ·exact rfl
  ·exact rfl
  ·rename_i g _
   intro e
   obtain⟨D,ob⟩:=e
   by_cases i:D=g
   ·cases ob with
    |map ks N z=>simp only[i,if_true];exact rfl
    |_=>simp only[i,if_true];trivial
   ·simp only[i,if_false];trivial
  ·trivial
 |slV sz x l h I=>
  cases I with
  |some m=>simp[jC]at h
  |none=>
   simp only[jf]
   split
   ·trivial
   ·split
    ·rename_i O U _ _ _
     unfold B0
     grind [Q.bind,Q.calm]
    ·grind
    ·trivial
 |_=>simp[jC]at h
def Calm(fp:FP):Prop:=fp.all=false∧fp.w= []
theorem MT{x y:FP}(i:Calm x)(C:Calm y):apart x y=true:=by
 obtain⟨a,r,w⟩:=x
 obtain⟨D,H,w'⟩:=y
 obtain⟨rfl,rfl⟩:=i
 obtain⟨rfl,rfl⟩:=C
 simp[apart,mS]
section
variable{E:Env}{call:rh}{n:Nat}
theorem abi{o:be}{st D:St}(I:jC o.op=true)(i:iW E call n o st=some D): ∃fp,jk E call o st=some fp∧Calm fp:=by
 obtain⟨J,D0⟩:=H7 (d:=o.d.getD 0) (ρ:=st.rho) I
 have K: ∀D,(match(jf (o.d.getD 0) st.rho o.op).run st.get st.sh.length with
   |some (.val v ups)=>(nE st.fr n o.d v).map fun fr=>{st.ups ups with fr}
   |none=>none)=some D→ ∃fp,(match(jf (o.d.getD 0) st.rho o.op).run st.get st.sh.length with
   |some (.val _ ups)=>if((jf (o.d.getD 0) st.rho o.op).asks st.get st.sh.length||yi st ups)=true then some (⟨(jf (o.d.getD 0) st.rho o.op).asks st.get st.sh.length,(jf (o.d.getD 0) st.rho o.op).log st.get st.sh.length,j6 ups⟩:FP)else none
   |none=>none)=some fp∧Calm fp:=by
  intro D h
  cases H:(jf (o.d.getD 0) st.rho o.op).run st.get st.sh.length with
  |none=>rw[H]at h;cases h
  |some r=>
   obtain⟨v,ups⟩:=r
   obtain⟨rfl,N⟩:=Q.calm_run _ J H
   refine⟨⟨false,(jf (o.d.getD 0) st.rho o.op).log st.get st.sh.length,[]⟩, ?_,rfl,rfl⟩
   simp only[N,yi,List.all_nil,Bool.or_true,if_true,j6,List.map_nil]
 unfold iW at i
 unfold jk
 simp only[D0]at i ⊢
 cases O:o.gd with
 |none=>grind
 |some p=>
  obtain⟨j,C⟩:=p
  simp only[O]at i ⊢
  split at i
  ·rename_i x U
   simp only[U]
   by_cases V:x=C
   ·grind
   ·rw[if_neg V];exact⟨nW,rfl,rfl,rfl⟩
  ·cases i
  ·split
   ·grind
   ·exact⟨nW,rfl,rfl,rfl⟩
theorem GG: ∀(C:List (List Nat×be)) (r:List FP) (st:St),(C.all fun p=>jC p.2.op&&p.1.all fun i=>decide (i<r.length+C.length))=true→(∀fp∈r,Calm fp)→
  (∀(k:Nat) (u:List Nat) (o:be),C[k]? =some (u,o)→ ∀i∈u,i<r.length+k)→
  iK E call n C r st=gV E call n (C.map (·.2)) st
 | [],r,st,_,_,_=>rfl
 |(u,o)::C,r,st,h,U,hi=>by
  simp only[List.all_cons,Bool.and_eq_true]at h
  simp only[iK,List.map_cons,gV]
  cases H:iW E call n o st with
  |none=>
   grind
  |some s=>
   obtain⟨fp,I,V⟩:=abi h.1.1 H
   simp only[I]
   have J:(u.all fun i=>apart (iy ⟨true,[],[]⟩ r i) fp)=true:=by
    rw[List.all_eq_true]
    intro i D
    have:=hi 0 u o rfl i D
    have W:iy ⟨true,[],[]⟩ r i∈r:=by
     have: ∀(l:List FP) (j:Nat),j<l.length→iy ⟨true,[],[]⟩ l j∈l:=by
      intro l
      induction l with
      |nil=>grind
      |cons x xs ih=>
       intro j K
       cases j with
       |zero=>exact List.mem_cons_self
       |succ j=>exact List.mem_cons_of_mem _ (ih j (by simpa using K))
     grind
    grind [MT]
   simp only[J,if_true]
   refine GG C (r++ [fp]) s ?_ ?_ ?_
   ·grind
   ·grind
   ·intro k N o' O i D
    have:=hi (k+1) N o' O i D
    grind
def GH:Nat→List (List Nat×be)→Bool
 |_,[]=>true
 |k,(u,o)::r=>jC o.op&&(u.all fun i=>decide (i<k))&&GH (k+1) r
theorem GI: ∀(r:List (List Nat×be)) (m:Nat),GH m r=true→(∀(k:Nat) (u:List Nat) (o:be),r[k]? =some (u,o)→jC o.op=true∧ ∀i∈u,i<m+k)
 | [],m,_,k,u,o,C=>by simp at C
 |(D,H)::r,m,h,k,u,o,C=>by
  simp only[GH,Bool.and_eq_true]at h
  cases k with
  |zero=>
   grind
  |succ k=>
   obtain⟨I,J⟩:=GI r (m+1) h.2 k u o (by simpa using C)
   grind
theorem abj{E:Env}{n:Nat}{r:List (List Nat×be)}{st:St}(h:GH 0 r=true):DC E n (.draws r) st=(gV E (gS E) n (r.map (·.2)) st).map fun H=>(.nrm,H):=by
 rw[Km]
 congr 1
 have D:=GI r 0 h
 refine GG r [] st ?_ (by simp) (fun k u o C i hi=>by have:=(D k u o C).2 i hi;simpa using this)
 rw[List.all_eq_true]
 intro p I
 obtain⟨k,C,J⟩:=List.getElem_of_mem I
 obtain⟨u,o⟩:=p
 obtain⟨K,N⟩:=D k u o (by rw[List.getElem?_eq_getElem C,J])
 grind
end
end Go.Ev
namespace Go.Ev
open Go
def kv(F:St→Option St)(fr:Fr)(lh:hJ gR)(sh:List gR)(d:Nat)(v:Option T):Option St:=v.bind fun v=>F ⟨kj fr d v,lh,sh⟩
def kn(F:St→Option St)(st:St)(v:Option T):Option St:=v.bind fun _=>F st
def ks(F:St→Option St)(fr:Fr)(r:Option (hJ gR×List gR)):Option St:=r.bind fun r=>F ⟨fr,r.1,r.2⟩
def ka(F:St→Option St)(fr:Fr)(sh:List gR)(d:Nat)(r:Option (T×hJ gR)):Option St:=r.bind fun q=>F ⟨kj fr d q.1,q.2,sh⟩
def kc(F:St→Option St)(fr:Fr)(d:Option Nat)(r:Option (T×St)):Option St:=r.bind fun r=>F ⟨xZ fr d r.1,r.2.lh,r.2.sh⟩
section
variable{F:St→Option St}{fr:Fr}{lh:hJ gR}{sh:List gR}{d:Nat}{v:T}
theorem abk:kv F fr lh sh d (some v)=F ⟨kj fr d v,lh,sh⟩:=rfl
theorem ais{c:Prop}[Decidable c]{x y:Option T}:kv F fr lh sh d (if c then x else y)=if c then kv F fr lh sh d x else kv F fr lh sh d y:=by split <;> rfl
theorem abl{r:hJ gR×List gR}:ks F fr (some r)=F ⟨fr,r.1,r.2⟩:=rfl
theorem abm{q:T×hJ gR}:ka F fr sh d (some q)=F ⟨kj fr d q.1,q.2,sh⟩:=rfl
theorem abn{i:Option Nat}{r:T×St}:kc F fr i (some r)=F ⟨xZ fr i r.1,r.2.lh,r.2.sh⟩:=rfl
theorem ait{c:Prop}[Decidable c]{i:Option Nat}{x y:Option (T×St)}:kc F fr i (if c then x else y)=if c then kc F fr i x else kc F fr i y:=by split <;> rfl
end
def isB:T→Bool
 | .b _=>true
 |_=>false
def isT:T→Bool
 | .b x=>x
 |_=>false
theorem aq7{x:Bool}:isB (.b x)=true:=nr rfl
theorem aq8{x:Bool}:isT (.b x)=x:=nr rfl
theorem abo{t:T}(h:isB t=true):t= .b (isT t):=by cases t <;> first|rfl|(simp[isB]at h)
section
variable{E:Env}{call:rh}{n:Nat}{fr:Fr}{lh:hJ gR}{sh:List gR}{os:List be}{d:Nat}
theorem aiu{c a b:iz}(i:d<n):gV E call n (⟨some d,.pick c a b,none⟩::os) ⟨fr,lh,sh⟩=kv (gV E call n os) fr lh sh d (Pf (rd fr c) (rd fr a) (rd fr b)):=aik i
theorem aq9{op:BinOp}{x y:iz}(i:d<n):gV E call n (⟨some d,.bin op x y,none⟩::os) ⟨fr,lh,sh⟩=kv (gV E call n os) fr lh sh d (Ev.bin op (rd fr x) (rd fr y)):=aqM i
theorem awS{neg:Bool}{k:EK}{x y:iz}(i:d<n):gV E call n (⟨some d,.eq neg k x y,none⟩::os) ⟨fr,lh,sh⟩=kv (gV E call n os) fr lh sh d ((xV k (rd fr x) (rd fr y)).map fun r=>T.b (r != neg)):=awG i
theorem awT{op:UnOp}{x:iz}(i:d<n):gV E call n (⟨some d,.un op x,none⟩::os) ⟨fr,lh,sh⟩=kv (gV E call n os) fr lh sh d (Ev.un op (rd fr x)):=awH i
theorem ara{k:IntKind}{x:iz}(i:d<n):gV E call n (⟨some d,.cvi k x,none⟩::os) ⟨fr,lh,sh⟩=kv (gV E call n os) fr lh sh d (aa2 k (rd fr x)):=aqN i
theorem abp{z:List T}{ps:List (Nat×Nat×iz)}(i:d<n):gV E call n (⟨some d,.build z ps,none⟩::os) ⟨fr,lh,sh⟩=kv (gV E call n os) fr lh sh d (H3 fr z ps):=aa3 i
theorem arb{x:iz}{l h:Option iz}(i:d<n):gV E call n (⟨some d,.slS x l h,none⟩::os) ⟨fr,lh,sh⟩=kv (gV E call n os) fr lh sh d (uZ fr (rd fr x) l h):=aqO i
theorem awU{x:iz}{off:Nat}(i:d<n):gV E call n (⟨some d,.fa x off,none⟩::os) ⟨fr,lh,sh⟩=kv (gV E call n os) fr lh sh d (faV (rd fr x) off):=awI i
theorem arc{x:iz}{off m:Nat}{i:Bool}(r:d<n):gV E call n (⟨some d,.fld x off m i,none⟩::os) ⟨fr,lh,sh⟩=kv (gV E call n os) fr lh sh d (aa4 (rd fr x) off m i):=aqQ r
theorem awV{x i:iz}{sz:Nat}(r:d<n):gV E call n (⟨some d,.ia x i sz,none⟩::os) ⟨fr,lh,sh⟩=kv (gV E call n os) fr lh sh d (sH (rd fr x) (rd fr i) sz):=awJ r
theorem ard{x i:iz}{len sz:Nat}(r:d<n):gV E call n (⟨some d,.iaA x i len sz,none⟩::os) ⟨fr,lh,sh⟩=kv (gV E call n os) fr lh sh d (kR (rd fr x) (rd fr i) len sz):=aqR r
theorem are{x i:iz}(r:d<n):gV E call n (⟨some d,.ixS x i,none⟩::os) ⟨fr,lh,sh⟩=kv (gV E call n os) fr lh sh d (FF (rd fr x) (rd fr i)):=aqS r
theorem arf{x i:iz}{len sz:Nat}{r:Bool}(C:d<n):gV E call n (⟨some d,.ixA x i len sz r,none⟩::os) ⟨fr,lh,sh⟩=kv (gV E call n os) fr lh sh d (CA (rd fr x) (rd fr i) len sz r):=aqT C
theorem arh{x:iz}{j:Nat}(i:d<n):gV E call n (⟨some d,.ext x j,none⟩::os) ⟨fr,lh,sh⟩=kv (gV E call n os) fr lh sh d (aa5 (rd fr x) j):=aqU i
theorem aiv{x:iz}(i:d<n):gV E call n (⟨some d,.lenS x,none⟩::os) ⟨fr,lh,sh⟩=kv (gV E call n os) fr lh sh d (Pg (rd fr x)):=ail i
def lenI(x:T):Option T:=match tC x with|some m=>some (.i .i64 ((m:Nat):Int))|none=>none
theorem abq{x:T}{m:Nat}(h:tC x=some m):lenI x=some (.i .i64 (m:Int)):=by unfold lenI;rw[h]
theorem aiw{x:iz}(i:d<n):gV E call n (⟨some d,.lenV x,none⟩::os) ⟨fr,lh,sh⟩=kv (gV E call n os) fr lh sh d (lenI (rd fr x)):=by
 grind [kv,lenI,aim]
theorem awW{i:Bool}{args:List iz}(r:d<n):gV E call n (⟨some d,.mm i args,none⟩::os) ⟨fr,lh,sh⟩=kv (gV E call n os) fr lh sh d (mmV i (args.map (rd fr))):=awK r
theorem ari{x:iz}(i:d<n):gV E call n (⟨some d,.nck x,none⟩::os) ⟨fr,lh,sh⟩=kv (gV E call n os) fr lh sh d (RB (rd fr x)):=aqW i
theorem awX{x:iz}{m:Nat}{i:Bool}(r:d<n):gV E call n (⟨some d,.ld x m i,none⟩::os) ⟨fr,lh,sh⟩=kv (gV E call n os) fr lh sh d (ZZ lh sh (rd fr x) m i):=awL r
theorem arj{sz:Nat}{x:iz}{l h:Option iz}(i:d<n):gV E call n (⟨some d,.slV sz x l h none,none⟩::os) ⟨fr,lh,sh⟩=kv (gV E call n os) fr lh sh d (abe fr sz (rd fr x) l h):=aq2 i
theorem awY{i:EK}{m k:iz}{z:T}{r:Bool}(C:d<n):gV E call n (⟨some d,.lk i m k z r,none⟩::os) ⟨fr,lh,sh⟩=kv (gV E call n os) fr lh sh d (lkV lh sh i (rd fr m) (rd fr k) z r):=awO C
theorem ark{k:IntKind}{n:Int}:nmZ [.i k n]=false:=nr rfl
theorem Wz{a b:T}{l:List T}:nmZ (a::b::l)=false:=by cases a <;> rfl
def WA(lh:hJ gR)(d:Nat)(z:List T)(x:T)(bytes:Nat):Option (T×hJ gR):=
 (MQ x bytes).map fun m=>(.isl .L d ((a6 lh d).g+1) 0 m z.length,pk lh d ⟨(a6 lh d).g+1,.cells (repl z m) 0 (nmZ z)⟩)
theorem aix{z:List T}{bytes:Nat}{x:iz}(i:d<n):gV E call n (⟨some d,.mksl z bytes x false,none⟩::os) ⟨fr,lh,sh⟩=ka (gV E call n os) fr sh d (WA lh d z (rd fr x) bytes):=by
 rw[aio i];unfold WA ka;cases MQ (rd fr x) bytes <;> rfl
theorem awZ{x v:iz}{m:Nat}:gV E call n (⟨none,.st x v m,none⟩::os) ⟨fr,lh,sh⟩=ks (gV E call n os) fr (oh lh sh (rd fr x) (rd fr v) m):=awM
def appW(lh:hJ gR)(sh:List gR)(d sz bytes:Nat)(s x:T):Option (T×hJ gR):=(slC lh sh sz x).bind (H6 lh d sz bytes s)
def notS:T→Bool
 | .isl .S .. =>false
 | .mp .S .. =>false
 |_=>true
theorem arl{sz bytes:Nat}{s x:iz}(i:d<n)(hs:notS (rd fr s)=true):gV E call n (⟨some d,.app sz bytes s x false false,none⟩::os) ⟨fr,lh,sh⟩=ka (gV E call n os) fr sh d (appW lh sh d sz bytes (rd fr s) (rd fr x)):=by
 rw[aq1 i (fun k g off len sz r=>by rw[r]at hs;simp[notS]at hs)]
 grind [appW,ka]
theorem aw0{i:EK}{m k v:iz}(r:notS (rd fr m)=true)(C:froz (rd fr v)=true):gV E call n (⟨none,.mu i m k v,none⟩::os) ⟨fr,lh,sh⟩=ks (gV E call n os) fr ((muV lh i (rd fr m) (rd fr k) (rd fr v)).map fun D=>(D,sh)):=by
 rw[awP (fun kk g H=>by rw[H]at r;simp[notS]at r) C]
 unfold ks
 cases muV lh i (rd fr m) (rd fr k) (rd fr v) <;> rfl
def WB(lh:hJ gR)(sh:List gR)(z:List T)(len:Nat)(i:List Nat)(r:List T):Option (T×St):=
 (HG lh sh false r).bind fun q=>(RF z len i q.1).map fun v=>(v,(St.mk .nil lh sh).ups q.2)
theorem arn{z:List T}{len:Nat}{ps:List (Nat×iz)}(i:d<n):gV E call n (⟨some d,.bsl z len ps,none⟩::os) ⟨fr,lh,sh⟩=kc (gV E call n os) fr (some d) (WB lh sh z len (ps.map (·.1)) (ps.map fun p=>rd fr p.2)):=by
 rw[aq5 i]
 unfold kc WB
 cases HG lh sh false (ps.map fun p=>rd fr p.2)with
 |none=>rfl
 |some q=>
  simp only[Option.bind_some]
  cases RF z len (ps.map (·.1)) q.1 with
  |none=>rfl
  |some v=>grind [xZ,rj]
theorem RI{z:List T}{len:Nat}{r:List Nat}{i:List T}(h:i.all froz=true):WB lh sh z len r i=(RF z len r i).map fun v=>(v,⟨.nil,lh,sh⟩):=by
 unfold WB
 rw[wL h];rfl
theorem aiy{f:Nat}{as:List iz}(i:d<n):gV E call n (⟨some d,.callf f as,none⟩::os) ⟨fr,lh,sh⟩=kc (gV E call n os) fr (some d) (iU E call d ⟨fr,lh,sh⟩ f (as.map (rd fr))):=air i
theorem abr{i:Option Nat}{op:mO}{j:Nat}(h:an fr j= .b true):gV E call n (⟨i,op,some (j,true)⟩::os) ⟨fr,lh,sh⟩=gV E call n (⟨i,op,none⟩::os) ⟨fr,lh,sh⟩:=Ww h
theorem abt{i:Option Nat}{op:mO}{j:Nat}(h:an fr j= .b false):gV E call n (⟨i,op,some (j,false)⟩::os) ⟨fr,lh,sh⟩=gV E call n (⟨i,op,none⟩::os) ⟨fr,lh,sh⟩:=Ww h
theorem abu{op:mO}{j:Nat}(i:d<n)(h:an fr j= .b false):gV E call n (⟨some d,op,some (j,true)⟩::os) ⟨fr,lh,sh⟩=gV E call n os ⟨kj fr d iY,lh,sh⟩:=MS (d:=some d) i h
theorem abv{op:mO}{j:Nat}(i:d<n)(h:an fr j= .b true):gV E call n (⟨some d,op,some (j,false)⟩::os) ⟨fr,lh,sh⟩=gV E call n os ⟨kj fr d iY,lh,sh⟩:=MS (d:=some d) i h
theorem WC{op:mO}{j:Nat}{w:Bool}(i:d<n)(h:an fr j=iY):gV E call n (⟨some d,op,some (j,w)⟩::os) ⟨fr,lh,sh⟩=gV E call n os ⟨kj fr d iY,lh,sh⟩:=Pm (d:=some d) i h
end
section
variable{E:Env}{n:Nat}{fr:Fr}{lh:hJ gR}{sh:List gR}
theorem aiz{c:iz}{a b:gT}(h:isB (rd fr c)=true):DC E n (.cond c a b) ⟨fr,lh,sh⟩=if isT (rd fr c)=true then DC E n a ⟨fr,lh,sh⟩else DC E n b ⟨fr,lh,sh⟩:=by
 rw[Wx,abo h];rfl
def yJ(i:List qt)(r:Bool)(x:Option (Out×St)):Option (T×List gR):=
 match x with
 |some (.ext _,_)=>none
 |some (_,st)=>(nY st i).bind fun C=>answer r C st
 |none=>none
theorem gX{f:Nat}{i:gU}{args:List T}{sh:List gR}(r:E.fn f=some i)(C:(i.n<args.length)=False)(D:i.own=none:=by rfl):
  gS E f args sh=yJ i.res i.eff (DC E i.n i.code {fr:=pe args,lh:= .nil,sh}):=by
 rw[Kp r (Nat.le_of_not_lt (of_eq_false C))]
 generalize DC E i.n i.code {fr:=pe args,lh:= .nil,sh}=x
 unfold Wo yJ
 rw[D]
 cases x with
 |none=>rfl
 |some p=>
  obtain⟨o,st⟩:=p
  cases o with
  |ext id=>rfl
  |nrm=>simp only[];cases nY st i.res <;> rfl
  |ret=>simp only[];cases nY st i.res <;> rfl
def abw(i:List qt)(j:Nat)(x:Option (Out×St)):Option (T×List gR):=
 match x with
 |some (.ext _,_)=>none
 |some (_,st)=>(nY st i).bind fun r=>sA j r st
 |none=>none
theorem aiA{f:Nat}{i:gU}{args:List T}{sh:List gR}{j:Nat}(r:E.fn f=some i)(C:(i.n<args.length)=False)(D:i.own=some j:=by rfl)(H:i.eff=false:=by rfl):
  gS E f args sh=abw i.res j (DC E i.n i.code {fr:=pe args,lh:= .nil,sh}):=by
 rw[Kp r (Nat.le_of_not_lt (of_eq_false C))]
 generalize DC E i.n i.code {fr:=pe args,lh:= .nil,sh}=x
 unfold Wo abw
 grind [uN,Bool.false_eq_true]
def RJ(lh:hJ gR)(sh:List gR)(j:Nat)(i:List T):Option (T×List gR):=sA j i ⟨.nil,lh,sh⟩
theorem MU{j:Nat}{i:List T}:sA j i ⟨fr,lh,sh⟩=RJ lh sh j i:=by
 unfold RJ sA
 simp only[Br,u7]
 split
 ·rfl
 ·split
  ·rename_i p _
   rw[rj p.2 lh sh]
   rfl
  ·rfl
 ·rfl
theorem WD{i:List qt}{j:Nat}:abw i j (some (.ret,⟨fr,lh,sh⟩))=(Bq fr lh sh i).bind (RJ lh sh j):=by
 simp_all[abw,tP,MU]
theorem WE{i:List qt}{r:Bool}:yJ i r (some (.ret,⟨fr,lh,sh⟩))=(Bq fr lh sh i).bind (RH lh sh r):=by
 simp_all[yJ,tP,Br]
theorem WG{i:List qt}{r:Bool}:yJ i r (some (.nrm,⟨fr,lh,sh⟩))=(Bq fr lh sh i).bind (RH lh sh r):=by
 simp_all[yJ,tP,Br]
theorem WH{c:Prop}[Decidable c]{i:List qt}{r:Bool}{x y:Option (Out×St)}:yJ i r (if c then x else y)=if c then yJ i r x else yJ i r y:=by split <;> rfl
end
section
variable{k:IntKind}{a b:Int}{x y:Bool}{s t:List Nat}
theorem abx:Ev.bin .add (.i k a) (.i k b)=some (.i k (wr k (a+b))):=by simp[Ev.bin,th]
theorem aby:Ev.bin .sub (.i k a) (.i k b)=some (.i k (wr k (a-b))):=by simp[Ev.bin,th]
theorem abz:Ev.bin .mul (.i k a) (.i k b)=some (.i k (wr k (a*b))):=by simp[Ev.bin,th]
theorem abA:Ev.bin .quo (.i k a) (.i k b)=if b=0 then none else some (.i k (wr k (a.tdiv b))):=by simp[Ev.bin,th]
theorem abB:Ev.bin .rem (.i k a) (.i k b)=if b=0 then none else some (.i k (a.tmod b)):=by simp[Ev.bin,th]
theorem Pn:Ev.bin .eql (.i k a) (.i k b)=some (.b (decide (a=b))):=by simp[Ev.bin,th];exact Bool.beq_eq_decide_eq a b
theorem Po:Ev.bin .neq (.i k a) (.i k b)=some (.b (!decide (a=b))):=by simp[Ev.bin,th];rw[bne,Bool.beq_eq_decide_eq]
theorem Pp:Ev.bin .lss (.i k a) (.i k b)=some (.b (decide (a<b))):=by simp[Ev.bin,th]
theorem Pq:Ev.bin .leq (.i k a) (.i k b)=some (.b (decide (a≤b))):=by simp[Ev.bin,th]
theorem Pr:Ev.bin .gtr (.i k a) (.i k b)=some (.b (decide (b<a))):=by simp[Ev.bin,th]
theorem Ps:Ev.bin .geq (.i k a) (.i k b)=some (.b (decide (b≤a))):=by simp[Ev.bin,th]
theorem Kr:Ev.bin .eql (.s s) (.s t)=some (.b (decide (s=t))):=by simp[Ev.bin,Re];exact Bool.beq_eq_decide_eq s t
theorem WI:Ev.bin .neq (.s s) (.s t)=some (.b (!decide (s=t))):=by simp[Ev.bin,Re];rw[bne,Bool.beq_eq_decide_eq]
theorem WJ:Ev.bin .lss (.s s) (.s t)=some (.b (lG s t)):=by simp[Ev.bin,Re]
theorem aiB:Ev.un .not (.b x)=some (.b (!x)):=rfl
theorem aiC:Ev.un .neg (.i k a)=some (.i k (wr k (0-a))):=rfl
theorem aiD{cs:List T}{off m:Nat}:Ev.part cs off m false=cs[off]? :=rfl
theorem aiE{cs:List T}{off m:Nat}:Ev.part cs off m true=if off+m≤cs.length then some (.agg ((cs.drop off).take m))else none:=rfl
theorem jL{n:Int}(h: -9223372036854775808≤n∧n≤9223372036854775807):wr .i64 n=n:=by grind [wr,lo,hi]
theorem jm{cs:List T}{len sz:Nat}{ex:Bool}{kk:IntKind}{j:Int}:sH (.sl cs len ex) (.i kk j) sz=if 0≤j∧j.toNat<len∧(j.toNat+1)*sz≤cs.length then some (.vp (cs.drop (j.toNat*sz)))else none:=by
 unfold sH asNat
 grind
theorem abC{sp:Sp}{i g off len sz r:Nat}{kk:IntKind}{j:Int}:sH (.isl sp i g off len r) (.i kk j) sz=if 0≤j∧j.toNat<len∧r=sz then some (.ptr sp i g (off+j.toNat*sz))else none:=by
 unfold sH asNat
 grind
theorem MV{r:List Nat}{kk:IntKind}{j:Int}:FF (.s r) (.i kk j)=if 0≤j then r[j.toNat]?.map fun c=>T.i .u8 c else none:=by
 unfold FF asNat
 grind
theorem H8{kk:IntKind}{j:Int}:asNat (.i kk j)=if 0≤j then some j.toNat else none:=rfl
end
end Go.Ev
