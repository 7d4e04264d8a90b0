/- A tree evaluator over the model, proved against it (part G): where it answers, the call returns that answer. Conditions: none beyond its theorems' own. -/
import Derived.Test.YtbdfboojnfinkaaGreatEvF
set_option linter.unusedSimpArgs false
set_option linter.unusedVariables false
namespace Go.Ev
open Go
def kept1:T→Bool
 | .isl .S .. | .ptr .S .. | .mp .S .. =>true
 |t=>froz1 t
def kept:T→Bool
 | .agg cs=>cs.all kept1
 | .tup cs=>cs.all kept1
 | .fn _ a c=>a.all kept1&&c.all kept1
 |t=>kept1 t
theorem IP{n:Nat}{t:T}(h:kept1 t=true):fz true (n+1) t= .ret (t,[]):=by
 cases t with
 |isl sp k g off len sz=>cases sp with|S=>rfl|L=>simp[kept1,froz1]at h
 |ptr sp k g off=>cases sp with|S=>rfl|L=>simp[kept1,froz1]at h
 |mp sp k g=>cases sp with|S=>rfl|L=>simp[kept1,froz1]at h
 |_=>exact uy h
theorem qp{n:Nat}: ∀(ts:List T),ts.all kept1=true→jd (fz true (n+1)) ts= .ret (ts,[])
 | [],_=>rfl
 |t::ts,h=>by
  simp_all[List.all_cons,Bool.and_eq_true,jd,IP,qp,Q.bind,List.append_nil]
theorem AW{n:Nat}{t:T}(h:kept t=true):fz true (n+2) t= .ret (t,[]):=by
 cases t with
 |agg cs=>simp only[kept]at h;rw[FX,qp cs h];rfl
 |tup cs=>simp only[kept]at h;rw[KN,qp cs h];rfl
 |fn f a c=>simp only[kept,Bool.and_eq_true]at h;rw[aco,qp a h.1,qp c h.2];rfl
 |_=>exact IP h
theorem zy{n:Nat}: ∀(ts:List T),ts.all kept=true→jd (fz true (n+2)) ts= .ret (ts,[])
 | [],_=>rfl
 |t::ts,h=>by
  simp_all[List.all_cons,Bool.and_eq_true,jd,AW,zy,Q.bind,List.append_nil]
theorem afi{k:IntKind}{n:Int}:kept (.i k n)=true:=nr rfl
theorem afj{l:List Nat}:kept (.s l)=true:=nr rfl
theorem Uf{k g off:Nat}:kept (.ptr .S k g off)=true:=nr rfl
theorem xQ{k g:Nat}:kept (.mp .S k g)=true:=nr rfl
theorem Ug{cs:List T}:kept (.agg cs)=cs.all kept1:=nr rfl
theorem Y1{k:IntKind}{n:Int}:kept1 (.i k n)=true:=nr rfl
theorem Y2{l:List Nat}:kept1 (.s l)=true:=nr rfl
theorem IQ:kept1 .nilmp=true:=nr rfl
theorem Uh{k g:Nat}:kept1 (.mp .S k g)=true:=nr rfl
theorem Ui{t:T}(h:froz1 t=true):kept1 t=true:=by cases t <;> first|rfl|(simp[froz1]at h)
section
variable{E:Env}{call:p7}{n:Nat}{fr:Fr}{lh:iz ib}{sh:List ib}{os:List be}{d:Nat}
theorem Uj{v:T}(h:kept v=true):fzV lh sh true v=some (v,[]):=by
 unfold fzV iE;rw[AW h];rfl
theorem OB{h:Nat}{af:ig}{f:Nat}{args:List T}(D:E.fn f=some af)(F:af.eff=true)(H:args.all kept=true):je E call h ⟨fr,lh,sh⟩ f args=
  (call f args sh).bind fun r=>some (r.1,⟨fr,lh,r.2⟩):=by
 unfold je
 simp only[D,F,if_true]
 unfold iE
 rw[zy args H]
 simp only[Q.run,AU]
 cases call f args sh <;> rfl
theorem afk{x:iD}(D:d<n)(h:noTup (rd fr x)=true)(F:kept (rd fr x)=true):ij E call n (⟨some d,.box x true,none⟩::os) ⟨fr,lh,sh⟩=ij E call n os ⟨j3 fr d (.ptr .S sh.length 1 0),lh,jO sh sh.length ⟨1,.cells (cellsOf (rd fr x)) 0 true⟩⟩:=by
 rw[pG (by rfl) (show DH n (some d)from D)]
 unfold one
 simp only[jk,h,Bool.not_true,Bool.false_eq_true,if_false,if_true]
 unfold iE
 rw[AW F]
 simp only[Q.bind,List.isEmpty_nil,h,Bool.and_self,if_true]
 rfl
theorem Uk{k g off m:Nat}{v:T}(e:ib)(h: ∀cs D bx,e.ob= .cells cs D bx→bx=true)(J:(cellsOf v).length=m)(K:noTup v=true)(N:kept v=true):ny lh sh (Q.run (St.mk .nil lh sh).get sh.length (Pv k g off m v e))=Cv lh sh k e g off v m:=by
 obtain⟨O,ob⟩:=e
 unfold Cv Pv
 by_cases U:O=g
 ·subst U
  cases ob with
  |none=>simp[Q.run,ny]
  |map ks W z=>simp[Q.run,ny]
  |cells cs D bx=>
   have WD:=h cs D bx rfl
   subst WD
   by_cases h:D≤off∧off+m≤cs.length
   ·have F:(decide (D≤off)&&decide (off+m≤cs.length))=true:=by simp[h.1,h.2]
    have WD:(true&&Sp.S==Sp.L)=false:=rfl
    have H:(true&&Sp.S==Sp.S)=true:=rfl
    unfold iE
    simp only[if_true,F,WD,H,Bool.false_eq_true,if_false]
    rw[AW N]
    have V:(oC [] Sp.S k|| !noTup v||decide ((cellsOf v).length≠m))=false:=by simp[oC,J,K]
    simp only[Q.bind,V,Bool.false_eq_true,if_false,Q.run,ny]
    rw[if_pos ⟨trivial,J,K,h⟩]
    rfl
   grind [Bool.false_eq_true,Q.run,ny]
 grind [Q.run,ny]
theorem F6{k g D off m F:Nat}{cs:List T}{v:T}(K:kept v=true)(N:jr sh k=⟨D,.cells cs F true⟩):pg lh sh (.ptr .S k g off) v m=Cv lh sh k ⟨D,.cells cs F true⟩ g off v m:=by
 by_cases H:(cellsOf v).length=m
 ·cases J:noTup v with
  |false=>
   grind [pg,tP,Cv,Q.run]
  |true=>
   unfold pg tP
   have:(decide ((cellsOf v).length≠m)|| !noTup v)=false:=by simp[H,J]
   simp only[this,Bool.false_eq_true,if_false]
   have:=Uk (lh:=lh) (sh:=sh) (k:=k) (g:=g) (off:=off) ⟨D,.cells cs F true⟩ (by intro a b c h;cases h;rfl) H J K
   rw[←this,←N]
   rfl
 grind [pg,tP,Cv,Q.run]
def K0(sh:List ib)(kk:Nat)(e:ib)(g:Nat)(ek:EK)(k v:T):Option (List ib):=
 match e with
 |⟨h,.map ks D false⟩=>if h=g∧isKey ek k=true then(p6 ek k v ks D).map fun q=>jO sh kk ⟨g,.map q.1 q.2 false⟩else none
 |_=>none
theorem Ul{kk g h:Nat}{ek:EK}{k v:T}{ks D:List T}:K0 sh kk ⟨h,.map ks D false⟩ g ek k v=if h=g∧isKey ek k=true then(p6 ek k v ks D).map fun q=>jO sh kk ⟨g,.map q.1 q.2 false⟩else none:=rfl
def Y3(kk g:Nat)(ek:EK)(k v:T)(e:ib):Q BR:=if e.g=g&&isKey ek k then match e.ob with
      | .map ks h false=>(fz false iE v).bind fun p=>match p6 ek k p.1 ks h with
        |some q=>if oC p.2 .S kk then .fail else .ret (.val iI (p.2++ [(.S,kk,⟨g,.map q.1 q.2 false⟩)]))
        |none=> .fail
      |_=> .fail
     else .fail
theorem Y4{kk g:Nat}{ek:EK}{k v:T}(e:ib)(F:froz v=true):((pF (Q.run (St.mk fr lh sh).get sh.length (Y3 kk g ek k v e))).bind fun r=>ij E call n os {(St.mk fr lh sh).ups r.2 with fr:=fr})=
  (K0 sh kk e g ek k v).bind fun H=>ij E call n os ⟨fr,lh,H⟩:=by
 obtain⟨D,ob⟩:=e
 unfold Y3 K0
 by_cases h:D=g∧isKey ek k=true
 ·have:(decide (D=g)&&isKey ek k)=true:=by simp[h.1,h.2]
  simp only[this,if_true]
  cases ob with
  |none=>rfl
  |cells cs K bx=>rfl
  |map ks J z=>
   cases z with
   |true=>rfl
   |false=>
    simp only[if_pos h]
    unfold iE
    rw[oS F]
    simp only[Q.bind]
    cases p6 ek k v ks J with
    |none=>rfl
    |some q=>simp only[oC,List.any_nil,Bool.false_eq_true,if_false,Q.run,List.nil_append];rfl
 grind [Bool.false_eq_true,Q.run,pF]
theorem aod{ek:EK}{m k v:iD}{kk g:Nat}(h:rd fr m= .mp .S kk g)(D:froz (rd fr v)=true):ij E call n (⟨none,.mu ek m k v,none⟩::os) ⟨fr,lh,sh⟩=(K0 sh kk (jr sh kk) g ek (rd fr k) (rd fr v)).bind fun F=>ij E call n os ⟨fr,lh,F⟩:=by
 rw[pG (by rfl) (show DH n none from trivial)]
 unfold one
 simp only[jk,h]
 exact Y4 (jr sh kk) D
end
section
variable{E:Env}{call:p7}{n:Nat}{fr:Fr}{lh:iz ib}{sh:List ib}{ds:List (List Nat×be)}{jT:List FP}{u:List Nat}{d:Option Nat}
def K1:T→Bool
 | .mp .S .. =>true
 |_=>false
theorem Y5{k g:Nat}:K1 (.mp .S k g)=true:=nr rfl
theorem aoe{ek:EK}{m k v:iD}(X:K1 (rd fr m)=true)(H:froz (rd fr v)=true):iQ E call n ((u,⟨none,.mu ek m k v,none⟩)::ds) jT ⟨fr,lh,sh⟩=
  if meets u jT ⟨false,sd (rd fr m),sd (rd fr m)⟩=true then ke E call n ds (jT++ [⟨false,sd (rd fr m),sd (rd fr m)⟩]) (ij E call n [⟨none,.mu ek m k v,none⟩] ⟨fr,lh,sh⟩)else none:=by
 refine uB fun J=> ?_
 cases IJ:rd fr m with
 |mp sp kk g=>
  cases sp with
  |L=>grind [K1]
  |S=>
   obtain⟨w,K,h,D⟩:=xO (q:= .rd .S kk (Y3 kk g ek (rd fr k) (rd fr v))) (by rfl) (by rw[lG];simp only[jk,IJ];rfl) J
   simp only[Q.run,Q.log,Q.asks]at h D
   have F:(St.mk fr lh sh).get .S kk=jr sh kk:=rfl
   rw[F]at h D
   generalize N:jr sh kk=e at h D
   obtain⟨O,ob⟩:=e
   unfold Y3 at h D
   by_cases U:(decide (O=g)&&isKey ek (rd fr k))=true
   ·simp only[U,if_true]at h D
    cases ob with
    |none=>simp[Q.run]at h
    |cells cs Y bx=>simp[Q.run]at h
    |map ks Z V=>
     cases V with
     |true=>simp[Q.run]at h
     |false=>
      simp only[]at h D
      unfold iE at h D
      rw[oS H]at h D
      simp only[Q.bind]at h D
      split at h
      ·rename_i q W
       simp only[oC,List.any_nil,Bool.false_eq_true,if_false,Q.run,Option.some.injEq,BR.val.injEq]at h
       obtain⟨rfl,rfl⟩:=h
       rw[W]at D
       simp only[oC,List.any_nil,Bool.false_eq_true,if_false]at D
       refine D ?_
       simp only[Q.asks,Bool.false_or,vW,List.nil_append,List.all_cons,List.all_nil,Bool.and_true]
       rw[F,N]
       rfl
      ·simp[Q.run]at h
   grind [Bool.false_eq_true,Q.run]
 |_=>grind [K1]
def Eb:FP:=⟨true,[],[]⟩
theorem W6{f:Nat}{af:ig}{as:List iD}(h:E.fn f=some af)(D:af.eff=true)(F:(as.map (rd fr)).all kept=true):
  iQ E call n ((u,⟨d,.callf f as,none⟩)::ds) jT ⟨fr,lh,sh⟩=if meets u jT Eb=true then ke E call n ds (jT++ [Eb]) (ij E call n [⟨d,.callf f as,none⟩] ⟨fr,lh,sh⟩)else none:=by
 refine uB fun H=> ?_
 unfold jC
 have Ck:jq (St.mk fr lh sh).rho (.callf f as)=some (some (f,as.map (rd fr))):=by rw[lG];rfl
 simp only[Ck]
 unfold lE
 simp only[h,D]
 unfold iE
 rw[zy _ F]
 simp only[Q.run,Q.log,vW,List.all_nil,Bool.not_true,Bool.false_eq_true,if_false,if_true,j4,List.map_nil]
 rfl
theorem IS{h D:List (Sp×Nat)}:apart ⟨false,h,D⟩ Eb=(J0 h&&J0 D):=by
 grind [apart,Eb,mD]
theorem Y6:J0 []=true:=nr rfl
theorem aof{k:Nat}{xs:List (Sp×Nat)}:J0 ((.L,k)::xs)=J0 xs:=nr rfl
end
end Go.Ev
namespace Go.Ev
open Go
section
variable{E:Env}{n:Nat}{a:ic}
theorem jm(I:Nat→St→Prop)(R:Out→St→Prop)(N:Nat)
  (step: ∀k st,k<N→I k st→(∃iX,DC E n a st=some (.nrm,iX)∧I (k+1) iX)∨(∃o iX,o≠ .nrm∧DC E n a st=some (o,iX)∧R o iX))
  (F: ∀st,I N st→ ∃o iX,o≠ .nrm∧DC E n a st=some (o,iX)∧R o iX):
  ∀(k:Nat) (st:St),k≤N→I k st→ ∃o iX,DC E n (.loop a) st=some (o,iX)∧R o iX:=by
 have D: ∀{st o iX},o≠ .nrm→DC E n a st=some (o,iX)→DC E n (.loop a) st=some (o,iX):=by
  intro st o iX J h
  rw[vq,h]
  cases o with
  |nrm=>grind
  |ext id=>rfl
  |ret=>rfl
 have H: ∀(m k:Nat) (st:St),N-k=m→k≤N→I k st→ ∃o iX,DC E n (.loop a) st=some (o,iX)∧R o iX:=by
  intro m
  induction m with
  |zero=>
   intro k st K O h
   have:k=N:=by omega
   grind
  |succ m ih=>
   grind [vq,Am]
 grind
theorem jc{fr:Fr}{lh:iz ib}{sh:List ib}{o:Out}{P:Fr→iz ib→List ib→Prop}
  (h: ∃o' D,DC E n (.loop a) ⟨fr,lh,sh⟩=some (o',D)∧o'=o∧P D.fr D.lh D.sh):
  DC E n (.loop a) ⟨fr,lh,sh⟩=some (o,⟨pw E n a fr lh sh,lZ E n a fr lh sh,ng E n a fr lh sh⟩)∧P (pw E n a fr lh sh) (lZ E n a fr lh sh) (ng E n a fr lh sh):=by
 obtain⟨o',D,F,rfl,H⟩:=h
 exact Pj ⟨D.fr,D.lh,D.sh,F,H⟩
end
theorem IsSl.kept1{v:T}{n:Nat}{cs:List T}(h:IsSl v n cs):kept1 v=true:=Ui h.froz1
end Go.Ev
namespace Go.Ev
open Go
theorem AX{st:St}{a b:List Up}:vW st (a++b)=(vW st a&&vW st b):=by grind [vW]
theorem AY{st:St}{sp:Sp}{k:Nat}{e:ib}(h:BT (st.get sp k)=true):vW st [(sp,k,e)]=true:=by
 cases sp with
 |L=>rfl
 |S=>simp only[vW,List.all_cons,List.all_nil,Bool.and_true,h,Bool.or_true]
section
variable{st:St}{nx:Nat}
theorem Cw{f:T→Q (T×List Up)}(D: ∀t p,(f t).run st.get nx=some p→vW st p.2=true): ∀(ts:List T) (p:List T×List Up),(jd f ts).run st.get nx=some p→vW st p.2=true
 | [],p,h=>by simp[jd,Q.run]at h;subst h;rfl
 |t::ts,p,h=>by
  simp only[jd,jt]at h
  cases F:(f t).run st.get nx with
  |none=>grind
  |some J=>
   rw[F]at h
   simp only[Option.bind_some]at h
   cases H:(jd f ts).run st.get nx with
   |none=>grind
   |some K=>
    rw[H]at h
    simp only[Option.bind_some,Q.run,Option.some.injEq]at h
    subst h
    simp only[AX,D _ _ F,Cw D ts _ H,Bool.and_self]
theorem Um: ∀(n:Nat) (keep:Bool) (t:T) (p:T×List Up),(fz keep n t).run st.get nx=some p→vW st p.2=true
 |0,keep,t,p,h=>by simp[fz,Q.run]at h
 |n+1,keep,t,p,h=>by
  have ih:=Um n
  have K:=fun(k:Bool) (ts:List T) (q:List T×List Up)=>Cw (ih k) ts q
  cases t with
  |isl sp k g off len sz=>
   simp only[fz]at h
   split at h
   ·simp[Q.run]at h;subst h;rfl
   ·simp only[Q.run]at h
    cases D:st.get sp k with
    |mk H ob=>
     have O: ∀{o},ob=o→BT (st.get sp k)=BT ⟨H,o⟩:=fun e=>by rw[D,e]
     rw[D]at h
     simp only at h
     split at h
     ·split at h
      ·split at h
       ·simp only[Q.run,Option.some.injEq]at h;subst h;exact AY (by rw[D];rfl)
       ·simp[Q.run]at h
      ·split at h
       ·simp only[jt]at h
        cases F:(jd (fz false n) (List.take (len*sz) (List.drop off ‹List T›))).run st.get nx with
        |none=>grind
        |some q=>
         rw[F]at h
         simp only[Option.bind_some,Q.run,Option.some.injEq]at h
         subst h
         simp only[AX,K _ _ _ F,Bool.true_and]
         exact AY (by rw[D];rfl)
       ·simp[Q.run]at h
      ·simp[Q.run]at h
     ·simp[Q.run]at h
  |mp sp k g=>
   simp only[fz]at h
   split at h
   ·simp[Q.run]at h;subst h;rfl
   ·simp only[Q.run]at h
    cases D:st.get sp k with
    |mk H ob=>
     rw[D]at h
     simp only at h
     split at h
     ·split at h
      ·simp only[Q.run,Option.some.injEq]at h;subst h;exact AY (by rw[D];rfl)
      ·simp[Q.run]at h
     ·simp[Q.run]at h
  |ptr sp k g off=>
   simp only[fz]at h
   split at h
   ·simp[Q.run]at h;subst h;rfl
   ·simp only[Q.run]at h
    cases D:st.get sp k with
    |mk H ob=>
     rw[D]at h
     simp only at h
     split at h
     ·split at h
      ·simp only[jt]at h
       cases F:(jd (fz false n) (List.drop off ‹List T›)).run st.get nx with
       |none=>grind
       |some q=>
        rw[F]at h
        simp only[Option.bind_some,Q.run,Option.some.injEq]at h
        subst h
        simp only[AX,K _ _ _ F,Bool.true_and]
        exact AY (by rw[D];rfl)
      ·simp[Q.run]at h
     ·simp[Q.run]at h
  |fn f a c=>
   simp only[fz,jt]at h
   cases J:(jd (fz keep n) a).run st.get nx with
   |none=>grind
   |some N=>
    rw[J]at h
    simp only[Option.bind_some]at h
    cases F:(jd (fz keep n) c).run st.get nx with
    |none=>grind
    |some U=>
     grind [Q.run,Option.some.injEq,AX,Bool.and_self]
  |agg cs=>
   simp only[fz,jt]at h
   cases J:(jd (fz keep n) cs).run st.get nx with
   |none=>grind
   |some N=>
    grind [Q.run,Option.some.injEq]
  |tup cs=>
   simp only[fz,jt]at h
   cases J:(jd (fz keep n) cs).run st.get nx with
   |none=>grind
   |some N=>
    grind [Q.run,Option.some.injEq]
  |_=>simp[fz,Q.run]at h;subst h;rfl
end
section
variable{E:Env}{call:p7}{n:Nat}{fr:Fr}{lh:iz ib}{sh:List ib}{ds:List (List Nat×be)}{jT:List FP}{u:List Nat}{d:Option Nat}
theorem W7{f:Nat}{af:ig}{as:List iD}(F:E.fn f=some af)(J:af.eff=false)(K:af.own=none)(O:noU ds=true):
  iQ E call n (([],⟨d,.callf f as,none⟩)::ds) jT ⟨fr,lh,sh⟩=ke E call n ds (jT++ [oB]) (ij E call n [⟨d,.callf f as,none⟩] ⟨fr,lh,sh⟩):=by
 rw[uB (fp:=(jC E call ⟨d,.callf f as,none⟩ ⟨fr,lh,sh⟩).getD oB)]
 ·show ke _ _ _ _ _ _=_
  unfold ke
  cases ij E call n [⟨d,.callf f as,none⟩] ⟨fr,lh,sh⟩with
  |none=>rfl
  |some s=>grind [IN]
 ·intro D
  unfold ja at D
  have Ck:jq (St.mk fr lh sh).rho (.callf f as)=some (some (f,as.map (rd fr))):=by rw[lG];rfl
  simp only[Ck]at D
  suffices h: ∃fp,jC E call ⟨d,.callf f as,none⟩ ⟨fr,lh,sh⟩=some fp by
   grind
  unfold jC lE
  simp only[Ck,F]
  unfold je at D
  simp only[F,J]at D ⊢
  cases H:(jd (fz false iE) (as.map (rd fr))).run (St.mk fr lh sh).get sh.length with
  |none=>grind
  |some q=>
   simp only[H,Bool.false_eq_true,if_false]at D ⊢
   have N:vW (St.mk fr lh sh) q.2=true:=Cw (fun t p h=>Um _ _ t p h) _ _ H
   simp only[N,Bool.not_true,Bool.false_eq_true,if_false,K]
   cases U:call f q.1 []with
   |none=>grind
   |some r=>grind
def isNe:T→Bool
 | .sl _ (_+1) _=>true
 |_=>false
theorem Y7{cs:List T}{m:Nat}{ex:Bool}:isNe (.sl cs (m+1) ex)=true:=nr rfl
def uC(h:Nat):T→List (Sp×Nat)
 | .isl .L k _ _ _ _=> [(.L,k)]
 |_=> [(.L,h)]
theorem K2{h:Nat}:uC h .nilsl= [(.L,h)]:=nr rfl
theorem afl{D sz bytes:Nat}{s x:iD}(hs:notS (rd fr s)=true)(X:isNe (rd fr x)=true):iQ E call n ((u,⟨some D,.app sz bytes s x false false,none⟩)::ds) jT ⟨fr,lh,sh⟩=
  if meets u jT ⟨false,uC D (rd fr s),uC D (rd fr s)⟩=true then ke E call n ds (jT++ [⟨false,uC D (rd fr s),uC D (rd fr s)⟩]) (ij E call n [⟨some D,.app sz bytes s x false false,none⟩] ⟨fr,lh,sh⟩)else none:=by
 refine uB fun N=> ?_
 cases IJ:rd fr x with
 |sl cs m ex=>
  cases m with
  |zero=>simp_all[isNe]
  |succ m=>
   by_cases O:cs.length=(m+1)*sz
   ·have U:jP sz (rd fr x)= .ret (m+1,cs):=by rw[IJ];simp only[jP,O,if_true]
    obtain⟨v,J,h,H⟩:=xO (q:=rP D sz bytes (rd fr s) (rd fr x) false false) (by rfl) (by rw[lG];rfl) N
    have V:=YZ hs h
    have H:=H (by rw[V];simp)
    rw[H]
    unfold rP at h ⊢
    rw[U]at h ⊢
    simp only[Q.bind,Nat.add_one_ne_zero,if_false]at h ⊢
    cases F:rd fr s with
    |nilsl=>
     rw[F]at h
     simp only at h ⊢
     split at h
     ·rename_i K
      rw[if_pos K]
      simp[ot,Q.run]at h
      obtain⟨rfl,rfl⟩:=h
      rfl
     ·simp[Q.run]at h
    |sl Y Z W=>
     rw[F]at h
     cases W with
     |false=>simp[Q.run]at h
     |true=>
      simp only at h ⊢
      split at h
      ·rename_i K
       rw[if_pos K]
       simp[ot,Q.run]at h
       obtain⟨rfl,rfl⟩:=h
       rfl
      ·simp[Q.run]at h
    |isl sp k g off len pT=>
     cases sp with
     |S=>grind [notS]
     |L=>
      grind [Q.run,Option.some.injEq,BR.val.injEq,Q.asks,Q.log,j4,uC]
    |_=>grind [Q.run]
   ·obtain⟨v,J,h,H⟩:=xO (q:=rP D sz bytes (rd fr s) (rd fr x) false false) (by rfl) (by rw[lG];rfl) N
    simp_all[rP,jP,Q.bind,Q.run]
 |_=>grind [isNe]
def zA:ib→Bool
 |⟨_,.cells _ _ bx⟩=>bx
 |_=>false
def IT(lh:iz ib):T→Bool
 | .ptr .L k _ _=>zA (a6 lh k)
 |_=>false
theorem Pw{k g off:Nat}:IT lh (.ptr .L k g off)=zA (a6 lh k):=nr rfl
theorem F7{g h:Nat}{cs:List T}{bx:Bool}:zA ⟨g,.cells cs h bx⟩=bx:=nr rfl
theorem aog{x v:iD}{m:Nat}(F:IT lh (rd fr x)=true):iQ E call n ((u,⟨none,.st x v m,none⟩)::ds) jT ⟨fr,lh,sh⟩=
  if meets u jT ⟨false,q8 (rd fr x),q8 (rd fr x)⟩=true then ke E call n ds (jT++ [⟨false,q8 (rd fr x),q8 (rd fr x)⟩]) (ij E call n [⟨none,.st x v m,none⟩] ⟨fr,lh,sh⟩)else none:=by
 refine uB fun K=> ?_
 cases IJ:rd fr x with
 |ptr sp k g off=>
  cases sp with
  |S=>grind [IT]
  |L=>
   obtain⟨w,N,h,D⟩:=xO (q:=tP (rd fr x) (rd fr v) m) (by rfl) (by rw[lG];rfl) K
   rw[IJ]at F h D
   simp only[IT]at F
   unfold tP at h D
   split at h
   ·simp[Q.run]at h
   ·rename_i O
    rw[if_neg O]at D
    simp only[Q.run,Q.asks,Q.log]at h D
    have H:(St.mk fr lh sh).get .L k=a6 lh k:=rfl
    rw[H]at h D
    generalize a6 lh k=e at F h D
    obtain⟨W,ob⟩:=e
    cases ob with
    |none=>simp[zA]at F
    |map a b c=>simp[zA]at F
    |cells cs X bx=>
     simp only[zA]at F
     subst F
     simp only at h D
     split at h
     ·rename_i U
      rw[if_pos U]at D
      split at h
      ·rename_i V
       rw[if_pos V]at D
       have J:(true&&Sp.L==Sp.L)=true:=rfl
       simp only[J,if_true,Q.run,Option.some.injEq,BR.val.injEq]at h D
       obtain⟨rfl,rfl⟩:=h
       exact D rfl
      ·simp[Q.run]at h
     ·simp[Q.run]at h
 |_=>grind [IT]
end
section
variable{α β:Type}[DecidableEq α]
def iH:List (α×β)→α→Option β
 | [],_=>none
 |p::m,a=>if a=p.1 then some p.2 else iH m a
def oI:List (α×β)→α→Option Nat
 | [],_=>none
 |p::m,a=>if a=p.1 then some 0 else(oI m a).map (· +1)
variable{ek:EK}{kT:α→T}{vT:β→T}
theorem F8(D: ∀a b,tO ek (kT a) (kT b)=some (decide (a=b)))(a:α): ∀m:List (α×β),m9 ek (kT a) (m.map fun p=>kT p.1)=some (oI m a)
 | []=>rfl
 |p::m=>by
  rw[List.map_cons,Pr,D,F8 D a m,oI]
  by_cases h:a=p.1
  ·rw[decide_eq_true h,if_pos h];rfl
  ·rw[decide_eq_false h,if_neg h];rfl
theorem ti(a:α): ∀m:List (α×β),iH m a=(oI m a).bind fun i=>(m[i]?).map (·.2)
 | []=>rfl
 |p::m=>by
  rw[iH,oI]
  by_cases h:a=p.1
  ·grind
  ·rw[if_neg h,if_neg h,ti a m]
   cases oI m a <;> rfl
theorem xR(a:α): ∀(m:List (α×β)) (i:Nat),oI m a=some i→i<m.length
 | [],i,h=>by simp[oI]at h
 |p::m,i,h=>by
  rw[oI]at h
  split at h
  ·grind
  ·cases D:oI m a with
   |none=>grind
   |some j=>
    rw[D]at h
    simp at h
    have:=xR a m j D
    grind
theorem afm(h: ∀a b,tO ek (kT a) (kT b)=some (decide (a=b)))(D: ∀a,isKey ek (kT a)=true)(m:List (α×β))(a:α)(z:T):
  nF ek (m.map fun p=>kT p.1) (m.map fun p=>vT p.2) (kT a) z true=some (match iH m a with|some v=> .tup [vT v,.b true]|none=> .tup [z,.b false]):=by
 rw[MR (D a),F8 h,ti]
 cases F:oI m a with
 |none=>rfl
 |some i=>
  grind [IM,List.getElem?_eq_getElem,xR]
theorem MS(h: ∀a b,tO ek (kT a) (kT b)=some (decide (a=b)))(D: ∀a,isKey ek (kT a)=true)(m:List (α×β))(a:α)(z:T):
  nF ek (m.map fun p=>kT p.1) (m.map fun p=>vT p.2) (kT a) z false=some (match iH m a with|some v=>vT v|none=>z):=by
 rw[MR (D a),F8 h,ti]
 cases F:oI m a with
 |none=>rfl
 |some i=>
  grind [IM,List.getElem?_eq_getElem,xR]
theorem xS(D: ∀a b,tO ek (kT a) (kT b)=some (decide (a=b)))(m:List (α×β))(a:α)(v:β)(h:iH m a=none):
  p6 ek (kT a) (vT v) (m.map fun p=>kT p.1) (m.map fun p=>vT p.2)=some ((m++ [(a,v)]).map (fun p=>kT p.1),(m++ [(a,v)]).map (fun p=>vT p.2)):=by
 rw[YU,F8 D]
 rw[ti]at h
 cases F:oI m a with
 |none=>simp[Ps]
 |some i=>
  grind [List.getElem?_eq_getElem,xR]
theorem pW(a b:α)(v:β): ∀m:List (α×β),iH (m++ [(b,v)]) a=match iH m a with|some u=>some u|none=>if a=b then some v else none
 | []=>by simp[iH]
 |p::m=>by
  rw[List.cons_append,iH,iH,pW a b v m]
  grind
end
end Go.Ev
namespace Go.Ev
open Go
theorem K3{h:List T}:scalar (.tup h)=h.all nM:=by
 unfold scalar
 congr 1
theorem Y8{x:Bool}:nM (.b x)=true:=nr rfl
theorem Y9{k:IntKind}{n:Int}:nM (.i k n)=true:=nr rfl
def F9(sh:List ib):List Up→List ib
 | []=>sh
 |(.L,_,_)::us=>F9 sh us
 |(.S,k,e)::us=>F9 (jO sh k e) us
theorem Un{sh:List ib}:F9 sh []=sh:=nr rfl
theorem Cx: ∀(a:List Up) (sh:List ib) (b:List Up),F9 sh (a++b)=F9 (F9 sh a) b
 | [],sh,b=>rfl
 |(.L,k,e)::a,sh,b=>Cx a sh b
 |(.S,k,e)::a,sh,b=>Cx a (jO sh k e) b
theorem Ga: ∀(us:List Up) (fr:Fr) (lh:iz ib) (sh:List ib),((St.mk fr lh sh).ups us).sh=F9 sh us
 | [],_,_,_=>rfl
 |(.L,k,e)::us,fr,lh,sh=>Ga us fr (mr lh k e) sh
 |(.S,k,e)::us,fr,lh,sh=>Ga us fr lh (jO sh k e)
def iP(lh:iz ib)(v:T)(k sz n:Nat)(cs:List T):Prop:=
 (n=0∧v= .nilsl∧cs= [])∨(∃g h,v= .isl .L k g 0 n sz∧a6 lh k=⟨g,.cells cs h false⟩∧cs.length=n*sz∧0<n)
def kz(n:Nat)(cs:List T):T:=if n=0 then .nilsl else .sl cs n false
theorem mg{n:Nat}{cs:List T}(h:n=0→cs= []):IsSl (kz n cs) n cs:=by
 unfold kz
 split
 ·rename_i D;exact Or.inl ⟨rfl,D,h D⟩
 ·exact Or.inr ⟨false,rfl⟩
section
variable{lh:iz ib}{sh:List ib}{v:T}{k sz n:Nat}{cs:List T}
theorem iP.nil:iP lh .nilsl k sz 0 []:=Or.inl ⟨rfl,rfl,rfl⟩
theorem iP.len(h:iP lh v k sz n cs):cs.length=n*sz:=by
 rcases h with⟨rfl,_,rfl⟩|⟨g,wm,_,_,h,_⟩
 ·simp
 ·exact h
theorem iP.isl(h:iP lh v k sz n cs):IsSl (kz n cs) n cs:=mg fun D=>by
 have:=h.len;rw[D,Nat.zero_mul]at this;exact List.length_eq_zero_iff.1 this
theorem iP.congr{D:iz ib}(h:iP lh v k sz n cs)(e:a6 D k=a6 lh k):iP D v k sz n cs:=by
 rcases h with h|⟨g,F,H,J,K,N⟩
 ·exact Or.inl h
 ·exact Or.inr ⟨g,F,H,by rw[e,J],K,N⟩
theorem iP.notS(h:iP lh v k sz n cs):Ev.notS v=true:=by
 rcases h with⟨_,rfl,_⟩|⟨g,wm,rfl,_⟩ <;> rfl
theorem iP.lenI(h:iP lh v k sz n cs):Ev.lenI v=some (.i .i64 (n:Int)):=by
 rcases h with⟨rfl,rfl,_⟩|⟨g,wm,rfl,_⟩ <;> rfl
theorem iP.noTup(h:iP lh v k sz n cs):Ev.noTup v=true:=by
 rcases h with⟨_,rfl,_⟩|⟨g,wm,rfl,_⟩ <;> rfl
theorem iP.cells(h:iP lh v k sz n cs):cellsOf v= [v]:=by
 rcases h with⟨_,rfl,_⟩|⟨g,wm,rfl,_⟩ <;> rfl
def J4(lh:iz ib)(sh:List ib)(d sz bytes:Nat)(s x:T):T:=match Ev.appW lh sh d sz bytes s x with|some p=>p.1|none=>iI
def Cy(lh:iz ib)(sh:List ib)(d sz bytes:Nat)(s x:T):iz ib:=match Ev.appW lh sh d sz bytes s x with|some p=>p.2|none=>lh
theorem iP.appW{m bytes:Nat}{D:List T}{x:T}(h:iP lh v k sz n cs)(O:Ev.slC lh sh sz x=some (m+1,D))(J:D.length=(m+1)*sz)(K:(n+(m+1))*bytes≤roomy):
  Ev.appW lh sh k sz bytes v x=some (J4 lh sh k sz bytes v x,Cy lh sh k sz bytes v x)∧iP (Cy lh sh k sz bytes v x) (J4 lh sh k sz bytes v x) k sz (n+(m+1)) (cs++D)∧ ∀j,j≠k→a6 (Cy lh sh k sz bytes v x) j=a6 lh j:=by
 have U: ∃N F,Ev.appW lh sh k sz bytes v x=some (N,F)∧iP F N k sz (n+(m+1)) (cs++D)∧ ∀j,j≠k→a6 F j=a6 lh j:=by
  unfold Ev.appW
  rw[O,Option.bind_some]
  rcases h with⟨rfl,rfl,rfl⟩|⟨g,wm,rfl,h2,h3,h4⟩
  ·rw[jY,if_pos (by simpa using K)]
   refine⟨_,_,rfl,Or.inr ⟨_,_,by rw[Nat.zero_add],zq _ _ _,by simpa using J,by omega⟩,fun j H=>jg _ _ H⟩
  ·rw[ql,h2,qk,if_pos ⟨rfl,rfl,K,rfl,h3.symm⟩]
   refine⟨_,_,rfl,Or.inr ⟨_,_,rfl,zq _ _ _,by rw[List.length_append,h3,J,Nat.add_mul n (m+1)],by omega⟩,fun j H=>jg _ _ H⟩
 grind [J4,Cy]
def WL(lh:iz ib):T→List Up
 | .isl .L k g _ _ _=>match a6 lh k with|⟨_,.cells cs _ _⟩=> [(.L,k,⟨g,.cells cs cs.length false⟩)]|_=> []
 |_=> []
theorem Uo{sh:List ib}{lh:iz ib}{v:T}:F9 sh (WL lh v)=sh:=by
 unfold WL
 split
 ·split <;> rfl
 ·rfl
theorem iP.fzW{m:Nat}{keep:Bool}(h:iP lh v k sz n cs):Ev.fzW m lh sh keep v=some (kz n cs,WL lh v):=by
 rcases h with⟨rfl,rfl,rfl⟩|⟨g,wm,rfl,h2,h3,h4⟩
 ·rfl
 grind [kz,WL,AV,tg,List.take_length]
theorem iP.fzV{keep:Bool}(h:iP lh v k sz n cs):Ev.fzV lh sh keep v=some (kz n cs,WL lh v):=by
 rcases h with⟨rfl,rfl,rfl⟩|⟨g,wm,rfl,h2,h3,h4⟩
 ·rfl
 grind [kz,WL,MH,tg,List.take_length]
theorem qq{d:Nat}(h:iP lh v k sz n cs)(D:d=k):uC d v= [(.L,k)]:=by
 subst D
 rcases h with⟨_,rfl,_⟩|⟨g,wm,rfl,_⟩ <;> rfl
end
def mh(lh:iz ib)(k i:Nat):T:=match a6 lh k with|⟨_,.cells cs _ _⟩=>cs.getD i iI|_=>iI
theorem vu{lh:iz ib}{k g D i:Nat}{cs:List T}{bx:Bool}(h:a6 lh k=⟨g,.cells cs D bx⟩):mh lh k i=cs.getD i iI:=by unfold mh;rw[h]
theorem Gb{lh:iz ib}{k g H:Nat}{bx:Bool}{P:T→T→Prop}(h: ∃D F,a6 lh k=⟨g,.cells [D,F] H bx⟩∧P D F):a6 lh k=⟨g,.cells [mh lh k 0,mh lh k 1] H bx⟩∧P (mh lh k 0) (mh lh k 1):=by
 obtain⟨D,F,J,K⟩:=h
 rw[vu J,vu J]
 grind
def aoh(sh:List ib)(ek:EK)(m k v:T):Option (List ib):=match m with| .mp .S kk g=>K0 sh kk (jr sh kk) g ek k v|_=>none
theorem MT{sh:List ib}{ek:EK}{kk g:Nat}{k v:T}:aoh sh ek (.mp .S kk g) k v=K0 sh kk (jr sh kk) g ek k v:=nr rfl
theorem aoi{E:Env}{call:p7}{n:Nat}{fr:Fr}{lh:iz ib}{sh:List ib}{os:List be}{ek:EK}{m k v:iD}(H:K1 (rd fr m)=true)(D:froz (rd fr v)=true):ij E call n (⟨none,.mu ek m k v,none⟩::os) ⟨fr,lh,sh⟩=ks (ij E call n os) fr ((aoh sh ek (rd fr m) (rd fr k) (rd fr v)).map fun F=>(lh,F)):=by
 cases h:rd fr m with
 |mp sp kk g=>
  cases sp with
  |L=>grind [K1]
  |S=>
   rw[aod h D,MT]
   cases K0 sh kk (jr sh kk) g ek (rd fr k) (rd fr v) <;> rfl
 |_=>grind [K1]
theorem IsSl.kept{v:T}{n:Nat}{cs:List T}(h:IsSl v n cs):kept v=true:=by
 rcases h with⟨rfl,_,_⟩|⟨ex,rfl⟩ <;> rfl
end Go.Ev
namespace Go.Ev
open Go
theorem Px(m:Nat)(F:m≤62)(a:Int):Ev.bin .and (.i .u64 a) (.i .u64 (2 ^ m-1))=some (.i .u64 (a%2 ^ m)):=by
 have h:(2:Int) ^ m=((2 ^ m:Nat):Int):=by norm_cast
 have O:0<2 ^ m:=Nat.two_pow_pos m
 have H:2 ^ m≤2 ^ 62:=Nat.pow_le_pow_right (by omega) F
 have TQ:(BitVec.ofInt 64 ((2:Int) ^ m-1)).toNat=2 ^ m-1:=by
  grind
 have D:(BitVec.ofInt 64 a &&& BitVec.ofInt 64 ((2:Int) ^ m-1)).toNat=(a%2 ^ m).toNat:=by
  rw[BitVec.toNat_and,TQ,Nat.and_two_pow_sub_one_eq_mod,BitVec.toNat_ofInt]
  have J:0≤a%((2 ^ 64:Nat):Int):=Int.emod_nonneg _ (by omega)
  have U:(a%((2 ^ 64:Nat):Int))%((2 ^ m:Nat):Int)=a%((2 ^ m:Nat):Int):=Int.emod_emod_of_dvd a (by
   have:(2 ^ m:Nat)∣2 ^ 64:=Nat.pow_dvd_pow 2 (by omega)
   exact Int.natCast_dvd_natCast.2 this)
  have V:(((a%((2 ^ 64:Nat):Int)).toNat%2 ^ m:Nat):Int)=a%((2 ^ m:Nat):Int):=by
   grind
  grind
 have W:(IntKind.u64).bits=64:=rfl
 simp only[Ev.bin,if_true,qJ]
 have K:0≤a%2 ^ m:=by rw[h];exact Int.emod_nonneg _ (by omega)
 have N:a%2 ^ m<2 ^ m:=by rw[h];exact Int.emod_lt_of_pos _ (by omega)
 grind [IntKind.wrap]
theorem Za{a:Int}:Ev.bin .and (.i .u64 a) (.i .u64 4294967295)=some (.i .u64 (a%4294967296)):=Px 32 (by omega) a
theorem Uq{k':IntKind}{a:Int}{b:Nat}(h:b≤64):Ev.bin .shr (.i .u64 a) (.i k' (b:Int))=some (.i .u64 (a/2 ^ b)):=by
 rw[MQ,if_neg (by omega),Int.toNat_natCast]
 have:min b (IntKind.u64).bits=b:=Nat.min_eq_left h
 grind
theorem Zb{k':IntKind}{a:Int}:Ev.bin .shr (.i .u64 a) (.i k' 32)=some (.i .u64 (a/4294967296)):=Uq (b:=32) (by omega)
theorem Zc{a b:Int}(h:a=0∨a=1)(D:b=0∨b=1):Ev.bin .and (.i .i64 a) (.i .i64 b)=some (.i .i64 (min a b)):=by
 rcases h with rfl|rfl <;> rcases D with rfl|rfl <;> rfl
theorem Ur{a b:Int}(h:a=0∨a=1)(D:b=0∨b=1):Ev.bin .or (.i .i64 a) (.i .i64 b)=some (.i .i64 (max a b)):=by
 rcases h with rfl|rfl <;> rcases D with rfl|rfl <;> rfl
def Us(lh:iz ib)(k:Nat):List T:=match a6 lh k with|⟨_,.cells cs _ _⟩=>cs|_=> []
theorem Zd{lh:iz ib}{k g D:Nat}{cs:List T}{bx:Bool}(h:a6 lh k=⟨g,.cells cs D bx⟩):Us lh k=cs:=by unfold Us;rw[h]
theorem Ut{lh:iz ib}{k g D:Nat}{bx:Bool}{P:List T→Prop}(h: ∃cs,a6 lh k=⟨g,.cells cs D bx⟩∧P cs):a6 lh k=⟨g,.cells (Us lh k) D bx⟩∧P (Us lh k):=by
 grind [Zd]
end Go.Ev
namespace Go.Ev
open Go
theorem Ze{E:Env}{n:Nat}{os Dp:List be}{b:ic}{st W X J K:St}{o:Out}(N:ij E (hZ E) n os st=some W)(O:ij E (hZ E) n Dp st=some X)(U:DC E n b W=some (o,J))(V:DC E n b X=some (o,K))(hs:BV (yZ os++jV b) J K):DC E n (.fork os Dp b) st=some (o,rQ (yZ os++jV b) J K):=by
 rw[kh]
 obtain⟨h,N⟩:=vn os N
 obtain⟨D,O⟩:=vn Dp O
 obtain⟨F,U⟩:=kh.1 U
 obtain⟨H,V⟩:=kh.1 V
 have l1:h≤h+D+F+H:=by omega
 have l2:D≤h+D+F+H:=by omega
 have Y:F≤h+D+F+H:=by omega
 have Z:H≤h+D+F+H:=by omega
 refine⟨h+D+F+H, ?_⟩
 simp only[mE,mH (jy l1) os N,mH (jy l2) Dp O,j6 (jy Y) Y b U,j6 (jy Z) Z b V,Mf]
 grind
theorem Uu{E:Env}{n:Nat}{os Dp:List be}{b:ic}{fr f1 f2:Fr}{lh H K:iz ib}{sh J:List ib}{O U:St}(N:yZ Dp=yZ os)(V:ij E (hZ E) n os ⟨fr,lh,sh⟩=some O)(W:ij E (hZ E) n Dp ⟨fr,lh,sh⟩=some U)(X:DC E n b O=some (.nrm,⟨f1,H,J⟩))(Y:DC E n b U=some (.nrm,⟨f2,K,J⟩))(hO: ∀k,k∉yZ os++jV b→a6 H k=a6 K k):
  ∃(Z:Fr) (iN:iz ib),DC E n (.fork os Dp b) ⟨fr,lh,sh⟩=some (.nrm,⟨Z,iN,J⟩)∧(∀k,k∉yZ os++jV b→an Z k=an fr k)∧ ∀k,k∉yZ os++jV b→a6 iN k=a6 H k:=by
 have p: ∀{D:List be} {s:St} {f:Fr} {l:iz ib},yZ D=yZ os→ij E (hZ E) n D ⟨fr,lh,sh⟩=some s→DC E n b s=some (.nrm,⟨f,l,J⟩)→ ∀k,k∉yZ os++jV b→an f k=an fr k:=by
  intro D s f l N h g k F
  simp only[List.mem_append,not_or]at F
  have a:=nC g k (by simpa using F.2)
  have c:=tf D h k (by rw[N];exact F.1)
  exact a.trans c
 have vv:=p rfl V X
 have MU:=p N W Y
 refine⟨_,_,Ze V W X Y ⟨rfl,fun k F=>(vv k F).trans (MU k F).symm,hO⟩,fun k F=> ?_,fun k F=> ?_⟩
 ·grind [rX]
 ·show iz.get lI (BU _ H K) k=_
  rw[Ep,if_neg F];rfl
def rb:ic→ic
 | .fork os _ b=> .seq (.region os) b
 |c=>c
def re:ic→ic
 | .fork _ Dp b=> .seq (.region Dp) b
 |c=>c
def Zf:ic→Bool
 | .fork os Dp _=>decide (yZ Dp=yZ os)
 |_=>false
theorem Cz{E:Env}{n:Nat}{os:List be}{b:ic}{st t:St}{o:Out}(h:DC E n (.seq (.region os) b) st=some (o,t)): ∃s,ij E (hZ E) n os st=some s∧DC E n b s=some (o,t):=by
 rw[Tc,Es]at h
 cases hs:ij E (hZ E) n os st with
 |none=>rw[hs]at h;cases h
 |some s=>rw[hs]at h;exact⟨s,rfl,h⟩
theorem Zg{E:Env}{n:Nat}{c:ic}{fr V W:Fr}{lh h O:iz ib}{sh D:List ib}(U:Zf c=true)(F:DC E n (rb c) ⟨fr,lh,sh⟩=some (.nrm,⟨V,h,D⟩))(H:DC E n (re c) ⟨fr,lh,sh⟩=some (.nrm,⟨W,O,D⟩))(X: ∀k,(jV c).contains k=false→a6 h k=a6 O k):
  ∃(J:Fr) (K:iz ib),DC E n c ⟨fr,lh,sh⟩=some (.nrm,⟨J,K,D⟩)∧(∀k,(jV c).contains k=false→an J k=an fr k)∧ ∀k,(jV c).contains k=false→a6 K k=a6 h k:=by
 cases c with
 |fork os Dp b=>
  obtain⟨s1,Y,F⟩:=Cz F
  obtain⟨s2,Z,H⟩:=Cz H
  have N: ∀k,(jV (.fork os Dp b)).contains k=false↔k∉yZ os++jV b:=by
   intro k
   show(yZ os++jV b).contains k=false↔_
   simp
  obtain⟨J,K,q1,q2,q3⟩:=Uu (of_decide_eq_true U) Y Z F H (fun k hk=>X k ((N k).2 hk))
  grind
 |_=>cases U
section
variable{k:IntKind}{a b:Int}{s t:List Nat}
theorem bnd{p:Prop}[Decidable p]:(some (T.b (decide p)):Option T)=if p then some (.b true)else some (.b false):=by grind
theorem aoj{p:Prop}[Decidable p]:(some (T.b (!decide p)):Option T)=if p then some (.b false)else some (.b true):=by grind
theorem Uv:Ev.bin .eql (.i k a) (.i k b)=if a=b then some (.b true)else some (.b false):=MJ.trans bnd
theorem Uw:Ev.bin .neq (.i k a) (.i k b)=if a=b then some (.b false)else some (.b true):=MK.trans aoj
theorem Ux:Ev.bin .lss (.i k a) (.i k b)=if a<b then some (.b true)else some (.b false):=ML.trans bnd
theorem Uy:Ev.bin .leq (.i k a) (.i k b)=if a≤b then some (.b true)else some (.b false):=MM.trans bnd
theorem Uz:Ev.bin .gtr (.i k a) (.i k b)=if b<a then some (.b true)else some (.b false):=MN.trans bnd
theorem UA:Ev.bin .geq (.i k a) (.i k b)=if b≤a then some (.b true)else some (.b false):=MO.trans bnd
theorem Py:Ev.bin .eql (.s s) (.s t)=if s=t then some (.b true)else some (.b false):=IC.trans bnd
theorem Pz:Ev.bin .neq (.s s) (.s t)=if s=t then some (.b false)else some (.b true):=ID.trans aoj
end
theorem ifl{α:Type}{p:Prop}[Decidable p]{a b c:α}(h:p→a=c)(D: ¬p→b=c):(if p then a else b)=c:=by grind
def Gd(I:St→Prop)(R:Out→St→Prop)(x:Option (Out×St)):Prop:= ∃o st,x=some (o,st)∧((o= .nrm∧I st)∨(o≠ .nrm∧R o st))
section
variable{I:St→Prop}{R:Out→St→Prop}{p:Prop}[Decidable p]{x y:Option (Out×St)}{st:St}{i:Nat}
theorem wD(h:p→Gd I R x)(D: ¬p→Gd I R y):Gd I R (if p then x else y):=by grind
theorem k7(h:I st):Gd I R (some (.nrm,st)):=⟨_,_,rfl,.inl ⟨rfl,h⟩⟩
theorem mI(h:R (.ext i) st):Gd I R (some (.ext i,st)):=⟨_,_,rfl,.inr ⟨by simp,h⟩⟩
theorem uD(h:R .ret st):Gd I R (some (.ret,st)):=⟨_,_,rfl,.inr ⟨by simp,h⟩⟩
end
theorem lQ{E:Env}{n:Nat}{a:ic}(I:Nat→St→Prop)(P:Fr→iz ib→List ib→Prop)(o:Out)(N:Nat)
  (step: ∀k st,k<N→I k st→Gd (I (k+1)) (fun o' D=>o'=o∧P D.fr D.lh D.sh) (DC E n a st))
  (F: ∀st,I N st→Gd (fun _=>False) (fun o' D=>o'=o∧P D.fr D.lh D.sh) (DC E n a st)) (fr:Fr) (lh:iz ib) (sh:List ib) (H:I 0 ⟨fr,lh,sh⟩):
  DC E n (.loop a) ⟨fr,lh,sh⟩=some (o,⟨pw E n a fr lh sh,lZ E n a fr lh sh,ng E n a fr lh sh⟩)∧P (pw E n a fr lh sh) (lZ E n a fr lh sh) (ng E n a fr lh sh):=by
 refine jc (jm I _ N (fun k st J hi=> ?_) (fun st hi=> ?_) 0 _ (Nat.zero_le _) H)
 ·obtain⟨o',D,e,h|h⟩:=step k st J hi
  ·grind
  ·grind
 ·obtain⟨o',D,e,h|h⟩:=F st hi
  ·exact h.2.elim
  ·grind
end Go.Ev
namespace Go.Ev
open Go
theorem iz.put_self{α:Type}{d v:α}(D:v≠d): ∀{f:Nat} {t:iz α} {n:Nat},n<f→iz.get d t n=v→iz.put d f t n v=t
 |0,t,n,h,_=>by omega
 |f+1,.nil,n,_,e=>absurd e.symm (by rw[iz.get_nil];exact D)
 |f+1,.nd w l r,0,_,e=>by unfold iz.get at e;simp only at e;rw[e];unfold iz.put;rfl
 |f+1,.nd w l r,k+1,h,e=>by
  unfold iz.get at e;simp only at e
  unfold iz.put;simp only
  have F:k/2<f:=by omega
  cases H:Nat.beq (k%2) 0 <;> rw[H]at e <;> simp only[cond_true,cond_false]at e ⊢ <;> rw[iz.put_self D F e]
theorem PA{fr:Fr}{k:Nat}{v:T}(h:an fr k=v)(D:v≠iI):j3 fr k v=fr:=iz.put_self D (Nat.lt_succ_self k) h
theorem jE{E:Env}{f:Nat}{a:List T}{sh D:List ib}{b:Bool}(h:hZ E f a sh=some (.b b,D)):hZ E f a sh=if b=true then some (.b true,D)else some (.b false,D):=by cases b <;> simpa using h
section
variable{I:St→Prop}{R:Out→St→Prop}{p:Prop}[Decidable p]{x y:Option (Out×St)}{st:St}{i:Nat}
theorem gdI:Gd I R (if p then x else y)=((p→Gd I R x)∧(¬p→Gd I R y)):=propext (by by_cases h:p <;> simp[h])
theorem gdN:Gd I R (some (.nrm,st))=I st:=propext ⟨fun⟨_,_,e,h⟩=>by cases e;exact h.elim (·.2) (fun h=>absurd rfl h.1),k7⟩
theorem gdX:Gd I R (some (.ext i,st))=R (.ext i) st:=propext ⟨fun⟨_,_,e,h⟩=>by cases e;exact h.elim (fun h=>by cases h.1) (·.2),mI⟩
theorem gdR:Gd I R (some (.ret,st))=R .ret st:=propext ⟨fun⟨_,_,e,h⟩=>by cases e;exact h.elim (fun h=>by cases h.1) (·.2),uD⟩
end
theorem auP{α β:Type}{p:Prop}[Decidable p]{x y:Option (α×β)}{v:α}:(∃s,(if p then x else y)=some (v,s))=((p→ ∃s,x=some (v,s))∧(¬p→ ∃s,y=some (v,s))):=propext (by by_cases h:p <;> simp[h])
theorem auQ{α β:Type}{u v:α}{t:β}:(∃s,some (u,t)=some (v,s))=(u=v):=propext (by simp)
theorem lz{lh:iz ib}{j:Nat}{e:ib}{v:T}{k sz n:Nat}{cs:List T}(h:k≠j):iP (mr lh j e) v k sz n cs=iP lh v k sz n cs:=by unfold iP;rw[jg lh e h]
section
variable{E:Env}{n:Nat}{a:ic}{m:Nat}{fr:Fr}{lh:iz ib}{sh:List ib}
abbrev Lp(E:Env)(n:Nat)(a:ic)(fr:Fr)(lh:iz ib)(sh:List ib)(o:Out)(P:Fr→iz ib→List ib→Prop):Prop:=DC E n (.loop a) ⟨fr,lh,sh⟩=some (o,⟨pw E n a fr lh sh,lZ E n a fr lh sh,ng E n a fr lh sh⟩)∧P (pw E n a fr lh sh) (lZ E n a fr lh sh) (ng E n a fr lh sh)
theorem UB{b:ic}{st D:St}{o:Out}(H:mb (jV (.loop b))=m)(h:DC E n b st=some (o,D)){s:Nat}(hs:(m >>> s)%2=0):an D.fr s=an st.fr s:=by
 refine nC h s ?_
 show(jV (.loop b)).contains s=false
 cases J:(jV (.loop b)).contains s with
 |false=>rfl
 |true=>
  have F:=F5 s _ (List.contains_iff_mem.1 J)
  rw[H,Nat.testBit,Nat.and_comm,Nat.and_one_is_mod,hs]at F
  simp at F
theorem px(H:mb (jV (.loop a))=m)(I:Nat→Fr→iz ib→List ib→Prop){P:Fr→iz ib→List ib→Prop}{o:Out}(N:Nat)(J:I 0 fr lh sh)
  (step: ∀k f l s,k<N→(∀j,(m >>> j)%2=0→an f j=an fr j)→I k f l s→Gd (fun t=>I (k+1) t.fr t.lh t.sh) (fun o' t=>o'=o∧P t.fr t.lh t.sh) (DC E n a ⟨f,l,s⟩))
  (D: ∀f l s,(∀j,(m >>> j)%2=0→an f j=an fr j)→I N f l s→Gd (fun _=>False) (fun o' t=>o'=o∧P t.fr t.lh t.sh) (DC E n a ⟨f,l,s⟩)):
  Lp E n a fr lh sh o P:=by
 refine lQ (fun k st=>(∀j,(m >>> j)%2=0→an st.fr j=an fr j)∧I k st.fr st.lh st.sh) P o N (fun k st K hi=> ?_) (fun st hi=>D _ _ _ hi.1 hi.2) fr lh sh ⟨fun _ _=>rfl,J⟩
 obtain⟨o',O,e,h⟩:=step k _ _ _ K hi.1 hi.2
 exact⟨o',O,e,h.imp (fun h=>⟨h.1,fun j F=>(UB H e F).trans (hi.1 j F),h.2⟩) id⟩
abbrev tJ(E:Env)(n:Nat)(a:ic)(fr:Fr)(lh:iz ib)(sh:List ib)(e s:Nat)(r:Int)(Q:iz ib→List ib→Prop):Prop:=DC E n (.loop a) ⟨fr,lh,sh⟩=(if r=0 then some (.ext e,⟨pw E n a fr lh sh,lZ E n a fr lh sh,ng E n a fr lh sh⟩)else some (.ret,⟨j3 (pw E n a fr lh sh) s (.i .i64 r),lZ E n a fr lh sh,ng E n a fr lh sh⟩))∧Q (lZ E n a fr lh sh) (ng E n a fr lh sh)
abbrev UC(E:Env)(n:Nat)(a:ic)(fr:Fr)(lh:iz ib)(sh:List ib)(e s:Nat)(p:Prop)[Decidable p](v:T)(Q:iz ib→List ib→Prop):Prop:=DC E n (.loop a) ⟨fr,lh,sh⟩=(if p then some (.ext e,⟨pw E n a fr lh sh,lZ E n a fr lh sh,ng E n a fr lh sh⟩)else some (.ret,⟨j3 (pw E n a fr lh sh) s v,lZ E n a fr lh sh,ng E n a fr lh sh⟩))∧Q (lZ E n a fr lh sh) (ng E n a fr lh sh)
theorem qt(F:mb (jV (.loop a))=m){e s:Nat}{p:Prop}[Decidable p]{v:T}(H:v≠iI)(I:Nat→Fr→iz ib→List ib→Prop){Q:iz ib→List ib→Prop}(N:Nat)(J:I 0 fr lh sh)
  (step: ∀k f l h,k<N→(∀j,(m >>> j)%2=0→an f j=an fr j)→I k f l h→Gd (fun t=>I (k+1) t.fr t.lh t.sh) (fun o' t=>o'= .ret∧ ¬p∧an t.fr s=v∧Q t.lh t.sh) (DC E n a ⟨f,l,h⟩))
  (D: ∀f l h,(∀j,(m >>> j)%2=0→an f j=an fr j)→I N f l h→Gd (fun _=>False) (fun o' t=>o'= .ext e∧p∧Q t.lh t.sh) (DC E n a ⟨f,l,h⟩)):
  UC E n a fr lh sh e s p v Q:=by
 obtain⟨K,O,U⟩:=px F I (P:=fun f l h=>(¬p→an f s=v)∧Q l h) (o:=if p then .ext e else .ret) N J
  (fun k f l h V p i=>by
    obtain⟨o',t,x,y⟩:=step k f l h V p i
    exact⟨o',t,x,y.imp id fun⟨a,b,c,d,g⟩=>⟨a,by rw[if_neg c];exact b,fun _=>d,g⟩⟩)
  (fun f l h p i=>by
    obtain⟨o',t,x,y⟩:=D f l h p i
    exact⟨o',t,x,y.imp id fun⟨a,b,c,d⟩=>⟨a,by rw[if_pos c];exact b,fun z=>absurd c z,d⟩⟩)
 refine⟨?_,U⟩
 rw[K]
 split
 ·rfl
 ·rename_i W;rw[PA (O W) H]
theorem jD(F:mb (jV (.loop a))=m){e s:Nat}{r:Int}(I:Nat→Fr→iz ib→List ib→Prop){Q:iz ib→List ib→Prop}(N:Nat)(H:I 0 fr lh sh)
  (step: ∀k f l h,k<N→(∀j,(m >>> j)%2=0→an f j=an fr j)→I k f l h→Gd (fun t=>I (k+1) t.fr t.lh t.sh) (fun o' t=>o'= .ret∧r≠0∧an t.fr s= .i .i64 r∧Q t.lh t.sh) (DC E n a ⟨f,l,h⟩))
  (D: ∀f l h,(∀j,(m >>> j)%2=0→an f j=an fr j)→I N f l h→Gd (fun _=>False) (fun o' t=>o'= .ext e∧r=0∧Q t.lh t.sh) (DC E n a ⟨f,l,h⟩)):
  tJ E n a fr lh sh e s r Q:=qt F (by simp[iI]) I N H step D
theorem PB{lh:iz ib}{k:Nat}{v:ib}(h:a6 lh k=v)(D:v≠lI):mr lh k v=lh:=iz.put_self D (Nat.lt_succ_self k) h
theorem lpO{e s k:Nat}{r:Int}{x:ib}{Q:iz ib→List ib→Prop}(h:tJ E n a fr lh sh e s r fun l h=>(r=0→a6 l k=x)∧Q l h)(D:x.ob≠ .none):
  DC E n (.loop a) ⟨fr,lh,sh⟩=(if r=0 then some (.ext e,⟨pw E n a fr lh sh,mr (lZ E n a fr lh sh) k x,ng E n a fr lh sh⟩)else some (.ret,⟨j3 (pw E n a fr lh sh) s (.i .i64 r),lZ E n a fr lh sh,ng E n a fr lh sh⟩))∧Q (lZ E n a fr lh sh) (ng E n a fr lh sh):=by
 obtain⟨F,H,J⟩:=h
 refine⟨?_,J⟩
 rw[F]
 split
 ·rename_i K;rw[PB (H K) (fun h=>D (by rw[h];rfl))]
 ·rfl
end
end Go.Ev
