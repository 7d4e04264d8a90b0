/- A tree evaluator over the model, proved against it (part G): where it answers, the call returns that answer. Conditions: none beyond its theorems' own. -/
import Derived.Test.YtjniffjppoklpaaGreatEvF
import GoSem.ClaimJoined
import Derived.ChangeArms
import Derived.DataShut
import Derived.OpenShut
set_option linter.unusedSimpArgs false
set_option linter.unusedVariables false
namespace Go.Ev
open Go
def kept1:T→Bool
 | .isl .S .. | .ptr .S .. | .mp .S .. =>true
 |t=>froz1 t
def kept:T→Bool
 | .agg cs=>cs.all kept1
 | .tup cs=>cs.all kept1
 | .fn _ a c=>a.all kept1&&c.all kept1
 |t=>kept1 t
theorem Mm{n:Nat}{t:T}(h:kept1 t=true):fz true (n+1) t= .ret (t,[]):=by
 cases t with
 |isl sp k g off len sz=>cases sp with|S=>rfl|L=>simp[kept1,froz1]at h
 |ptr sp k g off=>cases sp with|S=>rfl|L=>simp[kept1,froz1]at h
 |mp sp k g=>cases sp with|S=>rfl|L=>simp[kept1,froz1]at h
 |_=>exact qD h
theorem rZ{n:Nat}: ∀(ts:List T),ts.all kept1=true→jm (fz true (n+1)) ts= .ret (ts,[])
 | [],_=>rfl
 |t::ts,h=>by
  simp_all[List.all_cons,Bool.and_eq_true,jm,Mm,rZ,Q.bind,List.append_nil]
theorem Dt{n:Nat}{t:T}(h:kept t=true):fz true (n+2) t= .ret (t,[]):=by
 cases t with
 |agg cs=>simp only[kept]at h;rw[I7,rZ cs h];rfl
 |tup cs=>simp only[kept]at h;rw[OO,rZ cs h];rfl
 |fn f a c=>simp only[kept,Bool.and_eq_true]at h;rw[Yb,rZ a h.1,rZ c h.2];rfl
 |_=>exact Mm h
theorem BY{n:Nat}: ∀(ts:List T),ts.all kept=true→jm (fz true (n+2)) ts= .ret (ts,[])
 | [],_=>rfl
 |t::ts,h=>by
  simp_all[List.all_cons,Bool.and_eq_true,jm,Dt,BY,Q.bind,List.append_nil]
theorem alq{k:IntKind}{n:Int}:kept (.i k n)=true:=nr rfl
theorem alr{l:List Nat}:kept (.s l)=true:=nr rfl
theorem O0:kept .nilsl=true:=nr rfl
theorem aeC{cs:List T}:kept (.vp cs)=true:=nr rfl
theorem Y6{k g off:Nat}:kept (.ptr .S k g off)=true:=nr rfl
theorem Au{k g:Nat}:kept (.mp .S k g)=true:=nr rfl
theorem Y7{cs:List T}:kept (.agg cs)=cs.all kept1:=nr rfl
theorem aeD{k:IntKind}{n:Int}:kept1 (.i k n)=true:=nr rfl
theorem aeE{l:List Nat}:kept1 (.s l)=true:=nr rfl
theorem Mn:kept1 .nilmp=true:=nr rfl
theorem Y8{k g:Nat}:kept1 (.mp .S k g)=true:=nr rfl
theorem nX{t:T}(h:froz1 t=true):kept1 t=true:=by cases t <;> first|rfl|(simp[froz1]at h)
section
variable{E:Env}{call:qT}{n:Nat}{fr:Fr}{lh:iL iy}{sh:List iy}{os:List iz}{d:Nat}
theorem Y9{v:T}(h:kept v=true):fzV lh sh true v=some (v,[]):=by
 unfold fzV iT;rw[Dt h];rfl
theorem SR{D:Nat}{af:iC}{f:Nat}{args:List T}(F:E.fn f=some af)(J:af.eff=true)(K:args.all kept=true):jy E call D ⟨fr,lh,sh⟩ f args=
  (call f args sh).bind fun r=>some (r.1,⟨fr,lh,r.2⟩):=by
 unfold jy
 simp only[F,J,if_true]
 unfold iT
 rw[BY args K]
 simp only[Q.run,Dr]
 cases call f args sh <;> rfl
theorem als{x:iS}(D:d<n)(r:noTup (rd fr x)=true)(F:kept (rd fr x)=true):iB E call n (⟨some d,.box x true,none⟩::os) ⟨fr,lh,sh⟩=iB E call n os ⟨kJ fr d (.ptr .S sh.length 1 0),lh,iR sh sh.length ⟨1,.cells (cellsOf (rd fr x)) 0 true⟩⟩:=by
 rw[qC (by rfl) (show Gz n (some d)from D)]
 unfold one
 simp only[jK,r,Bool.not_true,Bool.false_eq_true,if_false,if_true]
 unfold iT
 rw[Dt F]
 simp only[Q.bind,List.isEmpty_nil,r,Bool.and_self,if_true]
 rfl
theorem Za{k g off m:Nat}{v:T}(e:iy)(D: ∀cs wm bx,e.ob= .cells cs wm bx→bx=true)(K:(cellsOf v).length=m)(N:noTup v=true)(O:kept v=true):oL lh sh (Q.run (St.mk .nil lh sh).get sh.length (TM k g off m v e))=Fs lh sh k e g off v m:=by
 obtain⟨U,ob⟩:=e
 unfold Fs TM
 by_cases V:U=g
 ·subst V
  cases ob with
  |none=>simp[Q.run,oL]
  |map ks X z=>simp[Q.run,oL]
  |cells cs wm bx=>
   have r:=D cs wm bx rfl
   subst r
   by_cases D:wm≤off∧off+m≤cs.length
   ·have F:(decide (wm≤off)&&decide (off+m≤cs.length))=true:=by simp[D.1,D.2]
    have r:(true&&Sp.S==Sp.L)=false:=rfl
    have J:(true&&Sp.S==Sp.S)=true:=rfl
    unfold iT
    simp only[if_true,F,r,J,Bool.false_eq_true,if_false]
    rw[Dt O]
    have W:(pW [] Sp.S k|| !noTup v||decide ((cellsOf v).length≠m))=false:=by simp[pW,K,N]
    simp only[Q.bind,W,Bool.false_eq_true,if_false,Q.run,oL]
    rw[if_pos ⟨trivial,K,N,D⟩]
    rfl
   grind [Bool.false_eq_true,Q.run,oL]
 grind [Q.run,oL]
theorem yR{k g r off m wm:Nat}{cs:List T}{v:T}(J:kept v=true)(K:iM sh k=⟨r,.cells cs wm true⟩):stV lh sh (.ptr .S k g off) v m=Fs lh sh k ⟨r,.cells cs wm true⟩ g off v m:=by
 by_cases D:(cellsOf v).length=m
 ·cases F:noTup v with
  |false=>
   grind [stV,uR,Fs,Q.run]
  |true=>
   unfold stV uR
   have:(decide ((cellsOf v).length≠m)|| !noTup v)=false:=by simp[D,F]
   simp only[this,Bool.false_eq_true,if_false]
   have:=Za (lh:=lh) (sh:=sh) (k:=k) (g:=g) (off:=off) ⟨r,.cells cs wm true⟩ (by intro a b c h;cases h;rfl) D F J
   rw[←this,←K]
   rfl
 grind [stV,uR,Fs,Q.run]
def O1(sh:List iy)(kk:Nat)(e:iy)(g:Nat)(ek:EK)(k v:T):Option (List iy):=
 match e with
 |⟨r,.map ks D false⟩=>if r=g∧isKey ek k=true then(rL ek k v ks D).map fun q=>iR sh kk ⟨g,.map q.1 q.2 false⟩else none
 |_=>none
theorem Zb{kk g r:Nat}{ek:EK}{k v:T}{ks D:List T}:O1 sh kk ⟨r,.map ks D false⟩ g ek k v=if r=g∧isKey ek k=true then(rL ek k v ks D).map fun q=>iR sh kk ⟨g,.map q.1 q.2 false⟩else none:=rfl
def aeF(kk g:Nat)(ek:EK)(k v:T)(e:iy):Q EF:=if e.g=g&&isKey ek k then match e.ob with
      | .map ks r false=>(fz false iT v).bind fun p=>match rL ek k p.1 ks r with
        |some q=>if pW p.2 .S kk then .fail else .ret (.val jg (p.2++ [(.S,kk,⟨g,.map q.1 q.2 false⟩)]))
        |none=> .fail
      |_=> .fail
     else .fail
theorem aeG{kk g:Nat}{ek:EK}{k v:T}(e:iy)(J:froz v=true):((ri (Q.run (St.mk fr lh sh).get sh.length (aeF kk g ek k v e))).bind fun r=>iB E call n os {(St.mk fr lh sh).ups r.2 with fr:=fr})=
  (O1 sh kk e g ek k v).bind fun K=>iB E call n os ⟨fr,lh,K⟩:=by
 obtain⟨F,ob⟩:=e
 unfold aeF O1
 by_cases D:F=g∧isKey ek k=true
 ·have:(decide (F=g)&&isKey ek k)=true:=by simp[D.1,D.2]
  simp only[this,if_true]
  cases ob with
  |none=>rfl
  |cells cs wm bx=>rfl
  |map ks N z=>
   cases z with
   |true=>rfl
   |false=>
    simp only[if_pos D]
    unfold iT
    rw[qt J]
    simp only[Q.bind]
    cases rL ek k v ks N with
    |none=>rfl
    |some q=>simp only[pW,List.any_nil,Bool.false_eq_true,if_false,Q.run,List.nil_append];rfl
 grind [Bool.false_eq_true,Q.run,ri]
theorem au3{ek:EK}{m k v:iS}{kk g:Nat}(r:rd fr m= .mp .S kk g)(D:froz (rd fr v)=true):iB E call n (⟨none,.mu ek m k v,none⟩::os) ⟨fr,lh,sh⟩=(O1 sh kk (iM sh kk) g ek (rd fr k) (rd fr v)).bind fun F=>iB E call n os ⟨fr,lh,F⟩:=by
 rw[qC (by rfl) (show Gz n none from trivial)]
 unfold one
 simp only[jK,r]
 exact aeG (iM sh kk) D
end
section
variable{E:Env}{call:qT}{n:Nat}{fr:Fr}{lh:iL iy}{sh:List iy}{ds:List (List Nat×iz)}{jR:List FP}{u:List Nat}{d:Option Nat}
def O2:T→Bool
 | .mp .S .. =>true
 |_=>false
theorem aeH{k g:Nat}:O2 (.mp .S k g)=true:=nr rfl
theorem au4{ek:EK}{m k v:iS}(X:O2 (rd fr m)=true)(F:froz (rd fr v)=true):jc E call n ((u,⟨none,.mu ek m k v,none⟩)::ds) jR ⟨fr,lh,sh⟩=
  if meets u jR ⟨false,tX (rd fr m),tX (rd fr m)⟩=true then ke E call n ds (jR++ [⟨false,tX (rd fr m),tX (rd fr m)⟩]) (iB E call n [⟨none,.mu ek m k v,none⟩] ⟨fr,lh,sh⟩)else none:=by
 refine vn fun J=> ?_
 cases Mk:rd fr m with
 |mp sp kk g=>
  cases sp with
  |L=>grind [O2]
  |S=>
   obtain⟨w,K,r,D⟩:=yQ (q:= .rd .S kk (aeF kk g ek (rd fr k) (rd fr v))) (by rfl) (by rw[lU];simp only[jK,Mk];rfl) J
   simp only[Q.run,Q.log,Q.asks]at r D
   have U4:(St.mk fr lh sh).get .S kk=iM sh kk:=rfl
   rw[U4]at r D
   generalize N:iM sh kk=e at r D
   obtain⟨O,ob⟩:=e
   unfold aeF at r D
   by_cases U:(decide (O=g)&&isKey ek (rd fr k))=true
   ·simp only[U,if_true]at r D
    cases ob with
    |none=>simp[Q.run]at r
    |cells cs wm bx=>simp[Q.run]at r
    |map ks Y V=>
     cases V with
     |true=>simp[Q.run]at r
     |false=>
      simp only[]at r D
      unfold iT at r D
      rw[qt F]at r D
      simp only[Q.bind]at r D
      split at r
      ·rename_i q W
       simp only[pW,List.any_nil,Bool.false_eq_true,if_false,Q.run,Option.some.injEq,EF.val.injEq]at r
       obtain⟨rfl,rfl⟩:=r
       rw[W]at D
       simp only[pW,List.any_nil,Bool.false_eq_true,if_false]at D
       refine D ?_
       simp only[Q.asks,Bool.false_or,nl,List.nil_append,List.all_cons,List.all_nil,Bool.and_true]
       rw[U4,N]
       rfl
      ·simp[Q.run]at r
   grind [Bool.false_eq_true,Q.run]
 |_=>grind [O2]
def Hl:FP:=⟨true,[],[]⟩
theorem acp{f:Nat}{af:iC}{as:List iS}(r:E.fn f=some af)(D:af.eff=true)(F:(as.map (rd fr)).all kept=true):
  jc E call n ((u,⟨d,.callf f as,none⟩)::ds) jR ⟨fr,lh,sh⟩=if meets u jR Hl=true then ke E call n ds (jR++ [Hl]) (iB E call n [⟨d,.callf f as,none⟩] ⟨fr,lh,sh⟩)else none:=by
 refine vn fun J=> ?_
 unfold jS
 have De:jL (St.mk fr lh sh).rho (.callf f as)=some (some (f,as.map (rd fr))):=by rw[lU];rfl
 simp only[De]
 unfold mz
 simp only[r,D]
 unfold iT
 rw[BY _ F]
 simp only[Q.run,Q.log,nl,List.all_nil,Bool.not_true,Bool.false_eq_true,if_false,if_true,kR,List.map_nil]
 rfl
theorem Mo{r D:List (Sp×Nat)}:apart ⟨false,r,D⟩ Hl=(NV r&&NV D):=by
 grind [apart,Hl,nq]
theorem aeI:NV []=true:=nr rfl
theorem au5{k:Nat}{xs:List (Sp×Nat)}:NV ((.L,k)::xs)=NV xs:=nr rfl
end
end Go.Ev
namespace Go.Ev
open Go
section
variable{E:Env}{n:Nat}{a:iA}
theorem jx(I:Nat→St→Prop)(R:Out→St→Prop)(N:Nat)
  (step: ∀k st,k<N→I k st→(∃jz,DC E n a st=some (.nrm,jz)∧I (k+1) jz)∨(∃o jz,o≠ .nrm∧DC E n a st=some (o,jz)∧R o jz))
  (D: ∀st,I N st→ ∃o jz,o≠ .nrm∧DC E n a st=some (o,jz)∧R o jz):
  ∀(k:Nat) (st:St),k≤N→I k st→ ∃o jz,DC E n (.loop a) st=some (o,jz)∧R o jz:=by
 have r: ∀{st o jz},o≠ .nrm→DC E n a st=some (o,jz)→DC E n (.loop a) st=some (o,jz):=by
  intro st o jz J h
  rw[xE,h]
  cases o with
  |nrm=>grind
  |ext id=>rfl
  |ret=>rfl
 have F: ∀(m k:Nat) (st:St),N-k=m→k≤N→I k st→ ∃o jz,DC E n (.loop a) st=some (o,jz)∧R o jz:=by
  intro m
  induction m with
  |zero=>
   intro k st K O h
   have:k=N:=by omega
   grind
  |succ m ih=>
   grind [xE,np]
 grind
theorem jh{fr:Fr}{lh:iL iy}{sh:List iy}{o:Out}{P:Fr→iL iy→List iy→Prop}
  (h: ∃o' r,DC E n (.loop a) ⟨fr,lh,sh⟩=some (o',r)∧o'=o∧P r.fr r.lh r.sh):
  DC E n (.loop a) ⟨fr,lh,sh⟩=some (o,⟨pb E n a fr lh sh,nh E n a fr lh sh,nB E n a fr lh sh⟩)∧P (pb E n a fr lh sh) (nh E n a fr lh sh) (nB E n a fr lh sh):=by
 obtain⟨o',r,D,rfl,F⟩:=h
 exact TA ⟨r.fr,r.lh,r.sh,D,F⟩
end
theorem iJ.kept1{v:T}{n:Nat}{cs:List T}(h:iJ v n cs):kept1 v=true:=nX h.froz1
end Go.Ev
namespace Go.Ev
open Go
theorem Du{st:St}{a b:List Up}:nl st (a++b)=(nl st a&&nl st b):=by grind [nl]
theorem Dw{st:St}{sp:Sp}{k:Nat}{e:iy}(h:EH (st.get sp k)=true):nl st [(sp,k,e)]=true:=by
 cases sp with
 |L=>rfl
 |S=>simp only[nl,List.all_cons,List.all_nil,Bool.and_true,h,Bool.or_true]
section
variable{st:St}{nx:Nat}
theorem Av{f:T→Q (T×List Up)}(r: ∀t p,(f t).run st.get nx=some p→nl st p.2=true): ∀(ts:List T) (p:List T×List Up),(jm f ts).run st.get nx=some p→nl st p.2=true
 | [],p,h=>by simp[jm,Q.run]at h;subst h;rfl
 |t::ts,p,h=>by
  simp only[jm,jq]at h
  cases D:(f t).run st.get nx with
  |none=>grind
  |some J=>
   rw[D]at h
   simp only[Option.bind_some]at h
   cases F:(jm f ts).run st.get nx with
   |none=>grind
   |some K=>
    rw[F]at h
    simp only[Option.bind_some,Q.run,Option.some.injEq]at h
    subst h
    simp only[Du,r _ _ D,Av r ts _ F,Bool.and_self]
theorem O3: ∀(n:Nat) (keep:Bool) (t:T) (p:T×List Up),(fz keep n t).run st.get nx=some p→nl st p.2=true
 |0,keep,t,p,h=>by simp[fz,Q.run]at h
 |n+1,keep,t,p,h=>by
  have ih:=O3 n
  have K:=fun(k:Bool) (ts:List T) (q:List T×List Up)=>Av (ih k) ts q
  cases t with
  |isl sp k g off len sz=>
   simp only[fz]at h
   split at h
   ·simp[Q.run]at h;subst h;rfl
   ·simp only[Q.run]at h
    cases r:st.get sp k with
    |mk F ob=>
     have O: ∀{o},ob=o→EH (st.get sp k)=EH ⟨F,o⟩:=fun e=>by rw[r,e]
     rw[r]at h
     simp only at h
     split at h
     ·split at h
      ·split at h
       ·simp only[Q.run,Option.some.injEq]at h;subst h;exact Dw (by rw[r];rfl)
       ·simp[Q.run]at h
      ·split at h
       ·simp only[jq]at h
        cases D:(jm (fz false n) (List.take (len*sz) (List.drop off ‹List T›))).run st.get nx with
        |none=>grind
        |some q=>
         rw[D]at h
         simp only[Option.bind_some,Q.run,Option.some.injEq]at h
         subst h
         simp only[Du,K _ _ _ D,Bool.true_and]
         exact Dw (by rw[r];rfl)
       ·simp[Q.run]at h
      ·simp[Q.run]at h
     ·simp[Q.run]at h
  |mp sp k g=>
   simp only[fz]at h
   split at h
   ·simp[Q.run]at h;subst h;rfl
   ·simp only[Q.run]at h
    cases r:st.get sp k with
    |mk F ob=>
     rw[r]at h
     simp only at h
     split at h
     ·split at h
      ·simp only[Q.run,Option.some.injEq]at h;subst h;exact Dw (by rw[r];rfl)
      ·simp[Q.run]at h
     ·simp[Q.run]at h
  |ptr sp k g off=>
   simp only[fz]at h
   split at h
   ·simp[Q.run]at h;subst h;rfl
   ·simp only[Q.run]at h
    cases r:st.get sp k with
    |mk F ob=>
     rw[r]at h
     simp only at h
     split at h
     ·split at h
      ·simp only[jq]at h
       cases D:(jm (fz false n) (List.drop off ‹List T›)).run st.get nx with
       |none=>grind
       |some q=>
        rw[D]at h
        simp only[Option.bind_some,Q.run,Option.some.injEq]at h
        subst h
        simp only[Du,K _ _ _ D,Bool.true_and]
        exact Dw (by rw[r];rfl)
      ·simp[Q.run]at h
     ·simp[Q.run]at h
  |fn f a c=>
   simp only[fz,jq]at h
   cases J:(jm (fz keep n) a).run st.get nx with
   |none=>grind
   |some N=>
    rw[J]at h
    simp only[Option.bind_some]at h
    cases D:(jm (fz keep n) c).run st.get nx with
    |none=>grind
    |some U=>
     grind [Q.run,Option.some.injEq,Du,Bool.and_self]
  |agg cs=>
   simp only[fz,jq]at h
   cases J:(jm (fz keep n) cs).run st.get nx with
   |none=>grind
   |some N=>
    grind [Q.run,Option.some.injEq]
  |tup cs=>
   simp only[fz,jq]at h
   cases J:(jm (fz keep n) cs).run st.get nx with
   |none=>grind
   |some N=>
    grind [Q.run,Option.some.injEq]
  |_=>simp[fz,Q.run]at h;subst h;rfl
end
section
variable{E:Env}{call:qT}{n:Nat}{fr:Fr}{lh:iL iy}{sh:List iy}{ds:List (List Nat×iz)}{jR:List FP}{u:List Nat}{d:Option Nat}
theorem acq{f:Nat}{af:iC}{as:List iS}(F:E.fn f=some af)(K:af.eff=false)(N:af.own=none)(U:SS ds=true):
  jc E call n (([],⟨d,.callf f as,none⟩)::ds) jR ⟨fr,lh,sh⟩=ke E call n ds (jR++ [oe]) (iB E call n [⟨d,.callf f as,none⟩] ⟨fr,lh,sh⟩):=by
 rw[vn (fp:=(jS E call ⟨d,.callf f as,none⟩ ⟨fr,lh,sh⟩).getD oe)]
 ·show ke _ _ _ _ _ _=_
  unfold ke
  cases iB E call n [⟨d,.callf f as,none⟩] ⟨fr,lh,sh⟩with
  |none=>rfl
  |some s=>grind [Ft]
 ·intro D
  unfold js at D
  have De:jL (St.mk fr lh sh).rho (.callf f as)=some (some (f,as.map (rd fr))):=by rw[lU];rfl
  simp only[De]at D
  suffices h: ∃fp,jS E call ⟨d,.callf f as,none⟩ ⟨fr,lh,sh⟩=some fp by
   grind
  unfold jS mz
  simp only[De,F]
  unfold jy at D
  simp only[F,K]at D ⊢
  cases J:(jm (fz false iT) (as.map (rd fr))).run (St.mk fr lh sh).get sh.length with
  |none=>grind
  |some q=>
   simp only[J,Bool.false_eq_true,if_false]at D ⊢
   have O:nl (St.mk fr lh sh) q.2=true:=Av (fun t p h=>O3 _ _ t p h) _ _ J
   simp only[O,Bool.not_true,Bool.false_eq_true,if_false,N]
   cases V:call f q.1 []with
   |none=>grind
   |some r=>grind
def isNe:T→Bool
 | .sl _ (_+1) _=>true
 |_=>false
theorem aeJ{cs:List T}{m:Nat}{ex:Bool}:isNe (.sl cs (m+1) ex)=true:=nr rfl
def wP(r:Nat):T→List (Sp×Nat)
 | .isl .L k _ _ _ _=> [(.L,k)]
 |_=> [(.L,r)]
theorem O4{r k g off len sz:Nat}:wP r (.isl .L k g off len sz)= [(.L,k)]:=nr rfl
theorem O5{r:Nat}:wP r .nilsl= [(.L,r)]:=nr rfl
theorem alu{D sz bytes:Nat}{s x:iS}(hs:notS (rd fr s)=true)(X:isNe (rd fr x)=true):jc E call n ((u,⟨some D,.app sz bytes s x false false,none⟩)::ds) jR ⟨fr,lh,sh⟩=
  if meets u jR ⟨false,wP D (rd fr s),wP D (rd fr s)⟩=true then ke E call n ds (jR++ [⟨false,wP D (rd fr s),wP D (rd fr s)⟩]) (iB E call n [⟨some D,.app sz bytes s x false false,none⟩] ⟨fr,lh,sh⟩)else none:=by
 refine vn fun N=> ?_
 cases Mk:rd fr x with
 |sl cs m ex=>
  cases m with
  |zero=>simp_all[isNe]
  |succ m=>
   by_cases O:cs.length=(m+1)*sz
   ·have U:j5 sz (rd fr x)= .ret (m+1,cs):=by rw[Mk];simp only[j5,O,if_true]
    obtain⟨v,J,r,F⟩:=yQ (q:=pN D sz bytes (rd fr s) (rd fr x) false false) (by rfl) (by rw[lU];rfl) N
    have V:=aeA hs r
    have F:=F (by rw[V];simp)
    rw[F]
    unfold pN at r ⊢
    rw[U]at r ⊢
    simp only[Q.bind,Nat.add_one_ne_zero,if_false]at r ⊢
    cases OP:rd fr s with
    |nilsl=>
     rw[OP]at r
     simp only at r ⊢
     split at r
     ·rename_i K
      rw[if_pos K]
      simp[pn,Q.run]at r
      obtain⟨rfl,rfl⟩:=r
      rfl
     ·simp[Q.run]at r
    |sl Y Z W=>
     rw[OP]at r
     cases W with
     |false=>simp[Q.run]at r
     |true=>
      simp only at r ⊢
      split at r
      ·rename_i K
       rw[if_pos K]
       simp[pn,Q.run]at r
       obtain⟨rfl,rfl⟩:=r
       rfl
      ·simp[Q.run]at r
    |isl sp k g off len re=>
     cases sp with
     |S=>grind [notS]
     |L=>
      grind [Q.run,Option.some.injEq,EF.val.injEq,Q.asks,Q.log,kR,wP]
    |_=>grind [Q.run]
   ·obtain⟨v,J,r,F⟩:=yQ (q:=pN D sz bytes (rd fr s) (rd fr x) false false) (by rfl) (by rw[lU];rfl) N
    simp_all[pN,j5,Q.bind,Q.run]
 |_=>grind [isNe]
def BZ:iy→Bool
 |⟨_,.cells _ _ bx⟩=>bx
 |_=>false
def Mp(lh:iL iy):T→Bool
 | .ptr .L k _ _=>BZ (a6 lh k)
 |_=>false
theorem TN{k g off:Nat}:Mp lh (.ptr .L k g off)=BZ (a6 lh k):=nr rfl
theorem Jh{g wm:Nat}{cs:List T}{bx:Bool}:BZ ⟨g,.cells cs wm bx⟩=bx:=nr rfl
theorem au6{x v:iS}{m:Nat}(F:Mp lh (rd fr x)=true):jc E call n ((u,⟨none,.st x v m,none⟩)::ds) jR ⟨fr,lh,sh⟩=
  if meets u jR ⟨false,tb (rd fr x),tb (rd fr x)⟩=true then ke E call n ds (jR++ [⟨false,tb (rd fr x),tb (rd fr x)⟩]) (iB E call n [⟨none,.st x v m,none⟩] ⟨fr,lh,sh⟩)else none:=by
 refine vn fun K=> ?_
 cases Mk:rd fr x with
 |ptr sp k g off=>
  cases sp with
  |S=>grind [Mp]
  |L=>
   obtain⟨w,N,r,D⟩:=yQ (q:=uR (rd fr x) (rd fr v) m) (by rfl) (by rw[lU];rfl) K
   rw[Mk]at F r D
   simp only[Mp]at F
   unfold uR at r D
   split at r
   ·simp[Q.run]at r
   ·rename_i O
    rw[if_neg O]at D
    simp only[Q.run,Q.asks,Q.log]at r D
    have U4:(St.mk fr lh sh).get .L k=a6 lh k:=rfl
    rw[U4]at r D
    generalize a6 lh k=e at F r D
    obtain⟨W,ob⟩:=e
    cases ob with
    |none=>simp[BZ]at F
    |map a b c=>simp[BZ]at F
    |cells cs wm bx=>
     simp only[BZ]at F
     subst F
     simp only at r D
     split at r
     ·rename_i U
      rw[if_pos U]at D
      split at r
      ·rename_i V
       rw[if_pos V]at D
       have J:(true&&Sp.L==Sp.L)=true:=rfl
       simp only[J,if_true,Q.run,Option.some.injEq,EF.val.injEq]at r D
       obtain⟨rfl,rfl⟩:=r
       exact D rfl
      ·simp[Q.run]at r
     ·simp[Q.run]at r
 |_=>grind [Mp]
end
section
variable{α β:Type}[DecidableEq α]
def ja:List (α×β)→α→Option β
 | [],_=>none
 |p::m,a=>if a=p.1 then some p.2 else ja m a
def qc:List (α×β)→α→Option Nat
 | [],_=>none
 |p::m,a=>if a=p.1 then some 0 else(qc m a).map (· +1)
variable{ek:EK}{kT:α→T}{vT:β→T}
theorem Ji(r: ∀a b,xW ek (kT a) (kT b)=some (decide (a=b)))(a:α): ∀m:List (α×β),oz ek (kT a) (m.map fun p=>kT p.1)=some (qc m a)
 | []=>rfl
 |p::m=>by
  rw[List.map_cons,TI,r,Ji r a m,qc]
  by_cases h:a=p.1
  ·rw[decide_eq_true h,if_pos h];rfl
  ·rw[decide_eq_false h,if_neg h];rfl
theorem vu(a:α): ∀m:List (α×β),ja m a=(qc m a).bind fun i=>(m[i]?).map (·.2)
 | []=>rfl
 |p::m=>by
  rw[ja,qc]
  by_cases h:a=p.1
  ·grind
  ·rw[if_neg h,if_neg h,vu a m]
   cases qc m a <;> rfl
theorem Aw(a:α): ∀(m:List (α×β)) (i:Nat),qc m a=some i→i<m.length
 | [],i,h=>by simp[qc]at h
 |p::m,i,h=>by
  rw[qc]at h
  split at h
  ·grind
  ·cases r:qc m a with
   |none=>grind
   |some j=>
    rw[r]at h
    simp at h
    have:=Aw a m j r
    grind
theorem alv(r: ∀a b,xW ek (kT a) (kT b)=some (decide (a=b)))(D: ∀a,isKey ek (kT a)=true)(m:List (α×β))(a:α)(z:T):
  oU ek (m.map fun p=>kT p.1) (m.map fun p=>vT p.2) (kT a) z true=some (match ja m a with|some v=> .tup [vT v,.b true]|none=> .tup [z,.b false]):=by
 rw[QZ (D a),Ji r,vu]
 cases F:qc m a with
 |none=>rfl
 |some i=>
  grind [Ml,List.getElem?_eq_getElem,Aw]
theorem Q0(r: ∀a b,xW ek (kT a) (kT b)=some (decide (a=b)))(D: ∀a,isKey ek (kT a)=true)(m:List (α×β))(a:α)(z:T):
  oU ek (m.map fun p=>kT p.1) (m.map fun p=>vT p.2) (kT a) z false=some (match ja m a with|some v=>vT v|none=>z):=by
 rw[QZ (D a),Ji r,vu]
 cases F:qc m a with
 |none=>rfl
 |some i=>
  grind [Ml,List.getElem?_eq_getElem,Aw]
theorem Ax(r: ∀a b,xW ek (kT a) (kT b)=some (decide (a=b)))(m:List (α×β))(a:α)(v:β)(h:ja m a=none):
  rL ek (kT a) (vT v) (m.map fun p=>kT p.1) (m.map fun p=>vT p.2)=some ((m++ [(a,v)]).map (fun p=>kT p.1),(m++ [(a,v)]).map (fun p=>vT p.2)):=by
 rw[aev,Ji r]
 rw[vu]at h
 cases D:qc m a with
 |none=>simp[TJ]
 |some i=>
  grind [List.getElem?_eq_getElem,Aw]
theorem rG(a b:α)(v:β): ∀m:List (α×β),ja (m++ [(b,v)]) a=match ja m a with|some u=>some u|none=>if a=b then some v else none
 | []=>by simp[ja]
 |p::m=>by
  rw[List.cons_append,ja,ja,rG a b v m]
  grind
end
end Go.Ev
namespace Go.Ev
open Go
theorem O6{r:List T}:scalar (.tup r)=r.all rf:=by
 unfold scalar
 congr 1
theorem aeK{k:IntKind}{n:Int}:rf (.i k n)=true:=nr rfl
def Fu(sh:List iy):List Up→List iy
 | []=>sh
 |(.L,_,_)::us=>Fu sh us
 |(.S,k,e)::us=>Fu (iR sh k e) us
theorem Zc{sh:List iy}:Fu sh []=sh:=nr rfl
theorem alw{sh:List iy}{k:Nat}{e:iy}{us:List Up}:Fu sh ((.L,k,e)::us)=Fu sh us:=nr rfl
theorem Fv: ∀(a:List Up) (sh:List iy) (b:List Up),Fu sh (a++b)=Fu (Fu sh a) b
 | [],sh,b=>rfl
 |(.L,k,e)::a,sh,b=>Fv a sh b
 |(.S,k,e)::a,sh,b=>Fv a (iR sh k e) b
theorem Jj: ∀(us:List Up) (fr:Fr) (lh:iL iy) (sh:List iy),((St.mk fr lh sh).ups us).sh=Fu sh us
 | [],_,_,_=>rfl
 |(.L,k,e)::us,fr,lh,sh=>Jj us fr (oK lh k e) sh
 |(.S,k,e)::us,fr,lh,sh=>Jj us fr lh (iR sh k e)
def jr(lh:iL iy)(v:T)(k sz n:Nat)(cs:List T):Prop:=
 (n=0∧v= .nilsl∧cs= [])∨(∃g wm,v= .isl .L k g 0 n sz∧a6 lh k=⟨g,.cells cs wm false⟩∧cs.length=n*sz∧0<n)
def ku(n:Nat)(cs:List T):T:=if n=0 then .nilsl else .sl cs n false
theorem oN{n:Nat}{cs:List T}(h:n=0→cs= []):iJ (ku n cs) n cs:=by
 unfold ku
 split
 ·rename_i r;exact Or.inl ⟨rfl,r,h r⟩
 ·exact Or.inr ⟨false,rfl⟩
section
variable{lh:iL iy}{sh:List iy}{v:T}{k sz n:Nat}{cs:List T}
theorem jr.nil:jr lh .nilsl k sz 0 []:=Or.inl ⟨rfl,rfl,rfl⟩
theorem jr.len(h:jr lh v k sz n cs):cs.length=n*sz:=by
 rcases h with⟨rfl,_,rfl⟩|⟨g,wm,_,_,h,_⟩
 ·simp
 ·exact h
theorem jr.isl(h:jr lh v k sz n cs):iJ (ku n cs) n cs:=oN fun r=>by
 have:=h.len;rw[r,Nat.zero_mul]at this;exact List.length_eq_zero_iff.1 this
theorem jr.congr{r:iL iy}(h:jr lh v k sz n cs)(e:a6 r k=a6 lh k):jr r v k sz n cs:=by
 rcases h with h|⟨g,wm,D,F,J,K⟩
 ·exact Or.inl h
 ·exact Or.inr ⟨g,wm,D,by rw[e,F],J,K⟩
theorem jr.notS(h:jr lh v k sz n cs):Ev.notS v=true:=by
 rcases h with⟨_,rfl,_⟩|⟨g,wm,rfl,_⟩ <;> rfl
theorem jr.lenI(h:jr lh v k sz n cs):Ev.lenI v=some (.i .i64 (n:Int)):=by
 rcases h with⟨rfl,rfl,_⟩|⟨g,wm,rfl,_⟩ <;> rfl
theorem jr.noTup(h:jr lh v k sz n cs):Ev.noTup v=true:=by
 rcases h with⟨_,rfl,_⟩|⟨g,wm,rfl,_⟩ <;> rfl
theorem jr.cells(h:jr lh v k sz n cs):cellsOf v= [v]:=by
 rcases h with⟨_,rfl,_⟩|⟨g,wm,rfl,_⟩ <;> rfl
def Zd(lh:iL iy)(sh:List iy)(d sz bytes:Nat)(s x:T):T:=match Ev.appW lh sh d sz bytes s x with|some p=>p.1|none=>jg
def HL(lh:iL iy)(sh:List iy)(d sz bytes:Nat)(s x:T):iL iy:=match Ev.appW lh sh d sz bytes s x with|some p=>p.2|none=>lh
theorem jr.appW{m bytes:Nat}{r:List T}{x:T}(h:jr lh v k sz n cs)(N:Ev.slC lh sh sz x=some (m+1,r))(A5:r.length=(m+1)*sz)(J:(n+(m+1))*bytes≤roomy):
  Ev.appW lh sh k sz bytes v x=some (Zd lh sh k sz bytes v x,HL lh sh k sz bytes v x)∧jr (HL lh sh k sz bytes v x) (Zd lh sh k sz bytes v x) k sz (n+(m+1)) (cs++r)∧ ∀j,j≠k→a6 (HL lh sh k sz bytes v x) j=a6 lh j:=by
 have O: ∃K D,Ev.appW lh sh k sz bytes v x=some (K,D)∧jr D K k sz (n+(m+1)) (cs++r)∧ ∀j,j≠k→a6 D j=a6 lh j:=by
  unfold Ev.appW
  rw[N,Option.bind_some]
  rcases h with⟨rfl,rfl,rfl⟩|⟨g,wm,rfl,h2,h3,h4⟩
  ·rw[At,if_pos (by simpa using J)]
   refine⟨_,_,rfl,Or.inr ⟨_,_,by rw[Nat.zero_add],BR _ _ _,by simpa using A5,by omega⟩,fun j F=>jF _ _ F⟩
  ·rw[Mi,h2,Fp,if_pos ⟨rfl,rfl,J,rfl,h3.symm⟩]
   refine⟨_,_,rfl,Or.inr ⟨_,_,rfl,BR _ _ _,by rw[List.length_append,h3,A5,Nat.add_mul n (m+1)],by omega⟩,fun j F=>jF _ _ F⟩
 grind [Zd,HL]
def fzU(lh:iL iy):T→List Up
 | .isl .L k g _ _ _=>match a6 lh k with|⟨_,.cells cs _ _⟩=> [(.L,k,⟨g,.cells cs cs.length false⟩)]|_=> []
 |_=> []
theorem Ze{sh:List iy}{lh:iL iy}{v:T}:Fu sh (fzU lh v)=sh:=by
 unfold fzU
 split
 ·split <;> rfl
 ·rfl
theorem jr.fzW{m:Nat}{keep:Bool}(h:jr lh v k sz n cs):Ev.fzW m lh sh keep v=some (ku n cs,fzU lh v):=by
 rcases h with⟨rfl,rfl,rfl⟩|⟨g,wm,rfl,h2,h3,h4⟩
 ·rfl
 grind [ku,fzU,Jg,vi,List.take_length]
theorem jr.fzV{keep:Bool}(h:jr lh v k sz n cs):Ev.fzV lh sh keep v=some (ku n cs,fzU lh v):=by
 rcases h with⟨rfl,rfl,rfl⟩|⟨g,wm,rfl,h2,h3,h4⟩
 ·rfl
 grind [ku,fzU,I8,vi,List.take_length]
theorem sa{d:Nat}(h:jr lh v k sz n cs)(r:d=k):wP d v= [(.L,k)]:=by
 subst r
 rcases h with⟨_,rfl,_⟩|⟨g,wm,rfl,_⟩ <;> rfl
end
def TO(lh:iL iy)(k i:Nat):T:=match a6 lh k with|⟨_,.cells cs _ _⟩=>cs.getD i jg|_=>jg
theorem Q1{lh:iL iy}{k g wm i:Nat}{cs:List T}{bx:Bool}(h:a6 lh k=⟨g,.cells cs wm bx⟩):TO lh k i=cs.getD i jg:=by unfold TO;rw[h]
theorem Jk{lh:iL iy}{k g wm:Nat}{bx:Bool}{P:T→T→Prop}(h: ∃r D,a6 lh k=⟨g,.cells [r,D] wm bx⟩∧P r D):a6 lh k=⟨g,.cells [TO lh k 0,TO lh k 1] wm bx⟩∧P (TO lh k 0) (TO lh k 1):=by
 obtain⟨r,D,F,J⟩:=h
 rw[Q1 F,Q1 F]
 grind
def au7(sh:List iy)(ek:EK)(m k v:T):Option (List iy):=match m with| .mp .S kk g=>O1 sh kk (iM sh kk) g ek k v|_=>none
theorem Q2{sh:List iy}{ek:EK}{kk g:Nat}{k v:T}:au7 sh ek (.mp .S kk g) k v=O1 sh kk (iM sh kk) g ek k v:=nr rfl
theorem au8{E:Env}{call:qT}{n:Nat}{fr:Fr}{lh:iL iy}{sh:List iy}{os:List iz}{ek:EK}{m k v:iS}(F:O2 (rd fr m)=true)(r:froz (rd fr v)=true):iB E call n (⟨none,.mu ek m k v,none⟩::os) ⟨fr,lh,sh⟩=ks (iB E call n os) fr ((au7 sh ek (rd fr m) (rd fr k) (rd fr v)).map fun D=>(lh,D)):=by
 cases h:rd fr m with
 |mp sp kk g=>
  cases sp with
  |L=>grind [O2]
  |S=>
   rw[au3 h r,Q2]
   cases O1 sh kk (iM sh kk) g ek (rd fr k) (rd fr v) <;> rfl
 |_=>grind [O2]
theorem iJ.kept{v:T}{n:Nat}{cs:List T}(h:iJ v n cs):kept v=true:=by
 rcases h with⟨rfl,_,_⟩|⟨ex,rfl⟩ <;> rfl
end Go.Ev
namespace Go.Ev
open Go
theorem TP(m:Nat)(J:m≤62)(a:Int):Ev.bin .and (.i .u64 a) (.i .u64 (2 ^ m-1))=some (.i .u64 (a%2 ^ m)):=by
 have D:(2:Int) ^ m=((2 ^ m:Nat):Int):=by norm_cast
 have C9:0<2 ^ m:=Nat.two_pow_pos m
 have K:2 ^ m≤2 ^ 62:=Nat.pow_le_pow_right (by omega) J
 have r:(BitVec.ofInt 64 ((2:Int) ^ m-1)).toNat=2 ^ m-1:=by
  grind
 have F:(BitVec.ofInt 64 a &&& BitVec.ofInt 64 ((2:Int) ^ m-1)).toNat=(a%2 ^ m).toNat:=by
  rw[BitVec.toNat_and,r,Nat.and_two_pow_sub_one_eq_mod,BitVec.toNat_ofInt]
  have N:0≤a%((2 ^ 64:Nat):Int):=Int.emod_nonneg _ (by omega)
  have V:(a%((2 ^ 64:Nat):Int))%((2 ^ m:Nat):Int)=a%((2 ^ m:Nat):Int):=Int.emod_emod_of_dvd a (by
   have:(2 ^ m:Nat)∣2 ^ 64:=Nat.pow_dvd_pow 2 (by omega)
   exact Int.natCast_dvd_natCast.2 this)
  have W:(((a%((2 ^ 64:Nat):Int)).toNat%2 ^ m:Nat):Int)=a%((2 ^ m:Nat):Int):=by
   grind
  grind
 have X:(IntKind.u64).bits=64:=rfl
 simp only[Ev.bin,if_true,tu]
 have O:0≤a%2 ^ m:=by rw[D];exact Int.emod_nonneg _ (by omega)
 have U:a%2 ^ m<2 ^ m:=by rw[D];exact Int.emod_lt_of_pos _ (by omega)
 grind [IntKind.wrap]
theorem aeL{a:Int}:Ev.bin .and (.i .u64 a) (.i .u64 4294967295)=some (.i .u64 (a%4294967296)):=TP 32 (by omega) a
theorem Zf{k':IntKind}{a:Int}{b:Nat}(h:b≤64):Ev.bin .shr (.i .u64 a) (.i k' (b:Int))=some (.i .u64 (a/2 ^ b)):=by
 rw[aej,if_neg (by omega),Int.toNat_natCast]
 have:min b (IntKind.u64).bits=b:=Nat.min_eq_left h
 grind
theorem aeM{k':IntKind}{a:Int}:Ev.bin .shr (.i .u64 a) (.i k' 32)=some (.i .u64 (a/4294967296)):=Zf (b:=32) (by omega)
theorem aeN{a b:Int}(r:a=0∨a=1)(D:b=0∨b=1):Ev.bin .and (.i .i64 a) (.i .i64 b)=some (.i .i64 (min a b)):=by
 rcases r with rfl|rfl <;> rcases D with rfl|rfl <;> rfl
theorem Zg{a b:Int}(r:a=0∨a=1)(D:b=0∨b=1):Ev.bin .or (.i .i64 a) (.i .i64 b)=some (.i .i64 (max a b)):=by
 rcases r with rfl|rfl <;> rcases D with rfl|rfl <;> rfl
def Zh(lh:iL iy)(k:Nat):List T:=match a6 lh k with|⟨_,.cells cs _ _⟩=>cs|_=> []
theorem aeO{lh:iL iy}{k g wm:Nat}{cs:List T}{bx:Bool}(h:a6 lh k=⟨g,.cells cs wm bx⟩):Zh lh k=cs:=by unfold Zh;rw[h]
theorem Zi{lh:iL iy}{k g wm:Nat}{bx:Bool}{P:List T→Prop}(h: ∃cs,a6 lh k=⟨g,.cells cs wm bx⟩∧P cs):a6 lh k=⟨g,.cells (Zh lh k) wm bx⟩∧P (Zh lh k):=by
 grind [aeO]
end Go.Ev
set_option autoImplicit false
namespace Go.Ev
def yt(R:List T→Prop):Nat→List T→Prop
 |0,ts=>ts= []
 |n+1,ts=> ∃p r,ts=p++r∧R p∧yt R n r
def aeP(R:TypeId→List T→Prop):List TypeId→List T→Prop
 | [],ts=>ts= []
 |f::D,ts=> ∃p r,ts=p++r∧R f p∧aeP R D r
def mA(P:Program):Nat→TypeId→List T→Prop
 |0,_,_=>False
 |n+1,t,ts=>match P.underlying t with
  |some .bool=> ∃b,ts= [.b b]
  |some (.int k)=> ∃x,ts= [.i k x]
  |some .string=> ∃s,ts= [.s s]∧s.length≤reachBytes
  |some (.slice e)=> ∃v len r,ts= [v]∧iJ v len r∧len*P.bytesOf e≤reachBytes∧yt (mA P n e) len r
  |some (.struct D)=>aeP (mA P n) (D.toList.map (·.type)) ts
  |some (.array m e)=>yt (mA P n e) m ts
  |_=>False
def Mq(P:Program)(S:List TypeId):List Field→Nat→Nat→Bool
 | [],o,n=>o==n
 |f::r,o,n=>f.offset==o&&S.contains f.type&&Mq P S r (o+P.cellsOf f.type) n
def alx(P:Program)(S:List TypeId)(t:TypeId):Bool:=match P.underlying t with
 |some .bool=>true
 |some (.int _)=>true
 |some .string=>true
 |some (.slice e)=>S.contains e&&decide (0<P.cellsOf e)
 |some (.struct r)=>Mq P S r.toList 0 (P.cellsOf t)
 |some (.array m e)=>S.contains e&&m*P.cellsOf e==P.cellsOf t
 |_=>false
def M0:iP:=fun _ _=>False
theorem PList.cat{w:World}{M:iP}: ∀{ts us:List T} {D xs:List Value},PList w M ts D→PList w M us xs→PList w M (ts++us) (D++xs)
 | [],us,D,xs,F,J=>by grind [PList]
 |t::ts,us,D,xs,F,J=>by
  simp only[PList]at F
  obtain⟨u,r,rfl,K,N⟩:=F
  simp only[List.cons_append,PList]
  exact⟨u,_,rfl,K,PList.cat N J⟩
variable{H:Type}{enc:TypeId×Value→H}{P:Program}{w:World}{base:Nat}{held:Bool}
def Tree(P:Program)(w:World)(n:Nat)(t:TypeId)(cs:List Value):Prop:= ∃ts,PList w M0 ts cs∧ts.all single=true∧mA P n t ts
theorem CT{n:Nat}{S:List TypeId}{sp:Nat→Bool}
  (ih: ∀t cs d K,t∈S→DataW.trod enc P w base sp held n t cs=some (d,K)→(∀x∈d.weights P t,x≤reachBytes)→Tree P w n t cs):
  ∀(D:List Field) (o m:Nat) (cs:List Value) (xs:List (DataW H×List MemPlace)),Mq P S D o m=true→cs.length=m→
   (D.mapM fun f=>DataW.trod enc P w base sp held n f.type ((cs.drop f.offset).take (P.cellsOf f.type)))=some xs→
   (∀x∈DataW.weightsEach P (D.map (·.type)) (xs.map (·.1)),x≤reachBytes)→
   ∃ts,PList w M0 ts (cs.drop o)∧ts.all single=true∧aeP (mA P n) (D.map (·.type)) ts
 | [],o,m,cs,xs,F,N,r,J=>by
   simp[Mq]at F
   refine⟨[], ?_,rfl,rfl⟩
   grind [PList,List.drop_length]
 |f::D,o,m,cs,xs,F,N,r,J=>by
  simp only[Mq,Bool.and_eq_true,beq_iff_eq,List.contains_iff_mem]at F
  obtain⟨⟨h1,O⟩,U⟩:=F
  rw[List.mapM_cons]at r
  simp only[Option.bind_eq_bind,Option.bind_eq_some_iff,Option.pure_def,Option.some.injEq]at r
  obtain⟨⟨d,K⟩,V,W,X,rfl⟩:=r
  simp only[List.map_cons,DataW.weightsEach,List.mem_append]at J
  obtain⟨ts,Y,Z,t3⟩:=ih _ _ _ _ O V fun x r=>J x (.inl r)
  obtain⟨us,u1,u2,u3⟩:=CT ih D _ m cs W U N X fun x r=>J x (.inr r)
  refine⟨ts++us, ?_,by rw[List.all_append,Z,u2];rfl,ts,us,rfl,t3,u3⟩
  have:=Y.cat u1
  grind [List.drop_drop,List.take_append_drop]
theorem HM(b o i:Nat):(Addr.mk b o none).add i=⟨b,o+i,none⟩:=by
 grind [Addr.add]
theorem HN{w:World}{r:Nat}: ∀(ts:List T) (cs:List Value) (off:Nat),PList w M0 ts cs→ts.all single=true→(∀i v,cs[i]? =some v→w.cell? ⟨r,off+i,none⟩=some v)→jd w M0 r off ts
 | [],_,_,_,_,_=>by simp only[jd]
 |t::ts,cs,off,h,hs,D=>by
  simp only[PList]at h
  obtain⟨u,us,rfl,F,J⟩:=h
  simp only[List.all_cons,Bool.and_eq_true]at hs
  simp only[jd]
  refine⟨⟨u,D 0 u rfl,fun h=>h,F,hs.1⟩,HN ts us (off+1) J hs.2 fun i v K=> ?_⟩
  have:=D (i+1) v (by simpa using K)
  grind
theorem Fw{w:World}{r:Nat}: ∀{ts us:List T} {off:Nat},jd w M0 r off ts→jd w M0 r (off+ts.length) us→jd w M0 r off (ts++us)
 | [],_,_,_,F=>F
 |t::ts,us,off,D,F=>by
  simp only[jd]at D
  simp only[List.cons_append,jd]
  refine⟨D.1,Fw D.2 ?_⟩
  grind
theorem Zj{b o n:Nat}{cs:List Value}(h:w.cells? base ⟨b,o,none⟩ n=some cs):cs.length=n∧ ∀i v,cs[i]? =some v→w.cell? ⟨b,o+i,none⟩=some v:=by
 unfold World.cells? at h
 split at h
 ·have r:=mapM_some_length h
  rw[List.length_range]at r
  refine⟨r,fun i v D=> ?_⟩
  have hi:i<n:=by rw[←r];exact(List.getElem?_eq_some_iff.1 D).1
  have:=mapM_some_get h i i (by rw[List.getElem?_range hi])
  grind [HM]
 ·cases h
theorem HO{n:Nat}{e:TypeId}{c:Nat}{sp:Nat→Bool}{b o:Nat}
  (ih: ∀cs d F,DataW.trod enc P w base sp held n e cs=some (d,F)→(∀x∈d.weights P e,x≤reachBytes)→Tree P w n e cs):
  ∀(len i:Nat) (xs:List (DataW H×List MemPlace)),
   ((List.range' i len).mapM fun i=>(w.cells? base ((Addr.mk b o none).add (i*c)) c).bind (DataW.trod enc P w base sp held n e))=some xs→
   (∀x∈DataW.weightsAll P e (xs.map (·.1)),x≤reachBytes)→ ∃J,jd w M0 b (o+i*c) J∧yt (mA P n e) len J
 |0,i,xs,h,r=>⟨[],by simp only[jd],rfl⟩
 |len+1,i,xs,h,r=>by
  rw[List.range'_succ,List.mapM_cons]at h
  simp only[Option.bind_eq_bind,Option.bind_eq_some_iff,Option.pure_def,Option.some.injEq]at h
  obtain⟨⟨d,F⟩,⟨cs,K,O⟩,U,V,rfl⟩:=h
  simp only[List.map_cons,DataW.weightsAll,List.mem_append]at r
  obtain⟨ts,N,W,X⟩:=ih _ _ _ O fun x D=>r x (.inl D)
  obtain⟨us,u1,Y⟩:=HO ih len (i+1) U V fun x D=>r x (.inr D)
  rw[HM]at K
  obtain⟨Z,c2⟩:=Zj K
  have hl:ts.length=c:=by rw[←Z];exact PList.length _ _ N
  refine⟨ts++us,Fw (HN ts cs _ N W c2) ?_,ts,us,rfl,X,Y⟩
  grind
theorem HP{a:Addr}{n:Nat}{cs:List Value}(h:w.cells? base a n=some cs)(r:0<n):a.spot=none:=by
 unfold World.cells? at h
 split at h
 ·have D:=mapM_some_length h
  rw[List.length_range]at D
  have:=mapM_some_get h 0 0 (by rw[List.getElem?_range r])
  grind [List.getElem?_eq_getElem,Addr.add,World.cell?_spot]
 ·cases h
theorem Mr{n:Nat}{e:TypeId}{c:Nat}{sp:Nat→Bool}
  (ih: ∀cs d J,DataW.trod enc P w base sp held n e cs=some (d,J)→(∀x∈d.weights P e,x≤reachBytes)→Tree P w n e cs):
  ∀(len i:Nat) (cs:List Value) (xs:List (DataW H×List MemPlace)),cs.length=(i+len)*c→
   ((List.range' i len).mapM fun i=>DataW.trod enc P w base sp held n e ((cs.drop (i*c)).take c))=some xs→
   (∀x∈DataW.weightsAll P e (xs.map (·.1)),x≤reachBytes)→ ∃ts,PList w M0 ts (cs.drop (i*c))∧ts.all single=true∧yt (mA P n e) len ts
 |0,i,cs,xs,r,h,D=>⟨[],by simp only[PList];rw[Nat.add_zero]at r;rw[←r,List.drop_length],rfl,rfl⟩
 |len+1,i,cs,xs,r,h,D=>by
  rw[List.range'_succ,List.mapM_cons]at h
  simp only[Option.bind_eq_bind,Option.bind_eq_some_iff,Option.pure_def,Option.some.injEq]at h
  obtain⟨⟨d,J⟩,K,N,O,rfl⟩:=h
  simp only[List.map_cons,DataW.weightsAll,List.mem_append]at D
  obtain⟨ts,U,V,W⟩:=ih _ _ _ K fun x F=>D x (.inl F)
  obtain⟨us,X,Y,Z⟩:=Mr ih len (i+1) cs N (by rw[r];congr 1;omega) O fun x F=>D x (.inr F)
  refine⟨ts++us, ?_,by rw[List.all_append,V,Y];rfl,ts,us,rfl,W,Z⟩
  have:=U.cat X
  grind [Nat.succ_mul,List.drop_drop,List.take_append_drop]
theorem trees_of{S:List TypeId}(Z: ∀t∈S,alx P S t=true): ∀(n:Nat) (t:TypeId) (cs:List Value) (d:DataW H) (K:List MemPlace),t∈S→
  DataW.trod enc P w base (fun _=>true) held n t cs=some (d,K)→(∀x∈d.weights P t,x≤reachBytes)→Tree P w n t cs
 |0,t,cs,d,K,_,h,_=>by simp[DataW.trod]at h
 |n+1,t,cs,d,K,ht,h,O=>by
  have N:=Z t ht
  have ih:=fun t cs d K=>trees_of Z n t cs d K
  unfold alx at N
  unfold Tree mA
  cases J:P.underlying t with
  |none=>grind
  |some u=>
  rw[J]at N
  cases u with
  |int k=>
   obtain⟨x,rfl,_⟩:=DataW.trod_int J h
   exact⟨[.i k x],by simp only[PList,PRel];exact⟨_,_,rfl,rfl,rfl⟩,rfl,x,rfl⟩
  |bool=>
   obtain⟨b,rfl,_⟩:=DataW.trod_bool J h
   exact⟨[.b b],by simp only[PList,PRel];exact⟨_,_,rfl,rfl,rfl⟩,rfl,b,rfl⟩
  |array m e=>
   simp only[Bool.and_eq_true,List.contains_iff_mem,beq_iff_eq]at N
   obtain⟨xs,n',F,r,D,U,Y⟩:=DataW.trod_array J h
   injection F with F
   subst F
   injection r with r _
   subst r
   simp only[DataW.weights,J]at O
   have:=Mr (enc:=enc) (base:=base) (held:=held) (c:=P.cellsOf e) (fun cs d K=>ih e cs d K N.1) m 0 cs xs (by rw[Nat.zero_add,D,N.2]) (mapM_some_of_get _ _ (by rw[U,List.length_range']) fun i x r=>by
    obtain⟨V,W⟩:=List.getElem?_eq_some_iff.1 r
    rw[List.length_range']at V
    rw[List.getElem_range',Nat.zero_add,Nat.one_mul]at W
    subst W
    exact Y i V) O
   simpa using this
  |string=>
   obtain⟨s,rfl,e,_⟩:=DataW.trod_string J h
   injection e with e1 e2
   subst e1
   refine⟨[.s (bytesN s)],by simp only[PList,PRel];exact⟨_,_,rfl,⟨s,rfl,rfl⟩,rfl⟩,rfl,_,rfl, ?_⟩
   simp_all[bytesN,DataW.weights,List.length_map]
  |slice e=>
   simp only[Bool.and_eq_true,List.contains_iff_mem,decide_eq_true_eq]at N
   obtain⟨he,hc⟩:=N
   rcases DataW.trod_slice J h with⟨rfl,_⟩|⟨⟨b,o,sp⟩,len,cap,elems,rest,n',F,rfl,r,_,hl,_,D,hel,hre,_⟩
   ·exact⟨[.nilsl],by simp only[PList,PRel];exact⟨_,_,rfl,rfl,rfl⟩,rfl,.nilsl,0,[],rfl,.inl ⟨rfl,rfl,rfl⟩,by simp,rfl⟩
   ·injection F with F
    subst F
    injection r with r _
    subst r
    simp only[DataW.weights,J,List.mem_cons,List.mem_append,List.length_map]at O
    obtain⟨hr1,NZ⟩:=hre rfl
    have A6:sp=none∨cap=0:=by
     by_cases h0:cap=0
     ·exact .inr h0
     ·left
      by_cases V:len=0
      ·have:=NZ 0 (by omega)
       rw[V,List.getElem?_eq_getElem (by omega)]at this
       simp only[Nat.add_zero,Nat.zero_mul,Option.bind_eq_some_iff]at this
       obtain⟨c,Ms,_⟩:=this
       exact HP (a:=⟨b,o,sp⟩) (by simpa[Addr.add]using Ms) hc
      ·have:=hel 0 (by omega)
       rw[List.getElem?_eq_getElem (by omega)]at this
       simp only[Nat.zero_mul,Option.bind_eq_some_iff]at this
       obtain⟨c,Ms,_⟩:=this
       exact HP (a:=⟨b,o,sp⟩) (by simpa[Addr.add]using Ms) hc
    have TQ: ∃X,jd w M0 b o X∧yt (mA P n e) len X:=by
     rcases A6 with rfl|h0
     ·have:=HO (base:=base) (enc:=enc) (held:=held) (c:=P.cellsOf e) (b:=b) (o:=o) (fun cs d K=>ih e cs d K he) len 0 elems
       (mapM_some_of_get _ _ (by rw[D,List.length_range']) fun i x r=>by
         obtain⟨V,W⟩:=List.getElem?_eq_some_iff.1 r
         rw[List.length_range']at V
         rw[List.getElem_range',Nat.zero_add,Nat.one_mul]at W
         subst W
         exact hel i V) fun x r=>O x (.inr (.inl r))
      simpa using this
     ·have:len=0:=by omega
      subst this
      exact⟨[],by simp only[jd],rfl⟩
    obtain⟨X,k1,k2⟩:=TQ
    refine⟨[.sl X len false], ?_,rfl,_,len,X,rfl,.inr ⟨false,rfl⟩, ?_,k2⟩
    ·simp only[PList,PRel]
     exact⟨_,_,rfl,⟨b,o,cap,sp,rfl,hl,(fun h=>by cases h),A6,k1⟩,rfl⟩
    ·refine Nat.le_trans (Nat.mul_le_mul_right _ ?_) (O _ (.inl rfl))
     omega
  |struct fs=>
   obtain⟨xs,n',F,r,D,U,Y⟩:=DataW.trod_struct J h
   injection F with F
   subst F
   injection r with r _
   subst r
   simp only[DataW.weights,J]at O
   have:=CT (enc:=enc) (base:=base) (held:=held) ih fs.toList 0 _ cs xs N D (mapM_some_of_get _ _ (by rw[U,Array.length_toList]) fun i x r=>Y i x (by simpa using r)) O
   grind
  |_=>cases N
def mD(P:Program)(t:TypeId):Option (List TypeId):=match P.underlying t with
 |some (.struct r)=>some (r.toList.map (·.type))
 |_=>none
def O7(P:Program)(t:TypeId):Option TypeId:=match P.underlying t with
 |some (.slice e)=>some e
 |_=>none
theorem mA.st{n:Nat}{t:TypeId}{l:List TypeId}{ts:List T}(h:mA P (n+1) t ts)(r:mD P t=some l):aeP (mA P n) l ts:=by
 grind [mD,mA]
def Zk(P:Program)(t:TypeId):Option (Nat×TypeId):=match P.underlying t with
 |some (.array m e)=>some (m,e)
 |_=>none
theorem mA.arr{n m:Nat}{t e:TypeId}{ts:List T}(h:mA P (n+1) t ts)(r:Zk P t=some (m,e)):yt (mA P n e) m ts:=by
 grind [Zk,mA]
theorem mA.row{n:Nat}{t e:TypeId}{ts:List T}(h:mA P (n+1) t ts)(D:O7 P t=some e): ∃v len r,ts= [v]∧iJ v len r∧len*P.bytesOf e≤reachBytes∧yt (mA P n e) len r:=by
 grind [O7,mA]
end Go.Ev
namespace Go.Ev
open Go
theorem aeQ{E:Env}{n:Nat}{os Gy:List iz}{b:iA}{st X Y K N:St}{o:Out}(O:iB E (be E) n os st=some X)(U:iB E (be E) n Gy st=some Y)(V:DC E n b X=some (o,K))(W:DC E n b Y=some (o,N))(hs:EJ (BH os++jU b) K N):DC E n (.fork os Gy b) st=some (o,tJ (BH os++jU b) K N):=by
 rw[k5]
 obtain⟨r,O⟩:=xD os O
 obtain⟨D,U⟩:=xD Gy U
 obtain⟨F,V⟩:=k5.1 V
 obtain⟨J,W⟩:=k5.1 W
 have l1:r≤r+D+F+J:=by omega
 have l2:D≤r+D+F+J:=by omega
 have Z:F≤r+D+F+J:=by omega
 have l4:J≤r+D+F+J:=by omega
 refine⟨r+D+F+J, ?_⟩
 simp only[nS,nW (jV l1) os O,nW (jV l2) Gy U,kW (jV Z) Z b V,kW (jV l4) l4 b W,Qq]
 grind
theorem Zl{E:Env}{n:Nat}{os Gy:List iz}{b:iA}{fr f1 f2:Fr}{lh F K:iL iy}{sh J:List iy}{O U:St}(N:BH Gy=BH os)(V:iB E (be E) n os ⟨fr,lh,sh⟩=some O)(W:iB E (be E) n Gy ⟨fr,lh,sh⟩=some U)(X:DC E n b O=some (.nrm,⟨f1,F,J⟩))(Y:DC E n b U=some (.nrm,⟨f2,K,J⟩))(hO: ∀k,k∉BH os++jU b→a6 F k=a6 K k):
  ∃(Z:Fr) (je:iL iy),DC E n (.fork os Gy b) ⟨fr,lh,sh⟩=some (.nrm,⟨Z,je,J⟩)∧(∀k,k∉BH os++jU b→an Z k=an fr k)∧ ∀k,k∉BH os++jU b→a6 je k=a6 F k:=by
 have p: ∀{r:List iz} {s:St} {f:Fr} {l:iL iy},BH r=BH os→iB E (be E) n r ⟨fr,lh,sh⟩=some s→DC E n b s=some (.nrm,⟨f,l,J⟩)→ ∀k,k∉BH os++jU b→an f k=an fr k:=by
  intro r s f l N h g k D
  simp only[List.mem_append,not_or]at D
  have a:=lH g k (by simpa using D.2)
  have c:=vh r h k (by rw[N];exact D.1)
  exact a.trans c
 have Ay:=p rfl V X
 have Zm:=p N W Y
 refine⟨_,_,aeQ V W X Y ⟨rfl,fun k D=>(Ay k D).trans (Zm k D).symm,hO⟩,fun k D=> ?_,fun k D=> ?_⟩
 ·grind [tQ]
 ·show iL.get mN (EI _ F K) k=_
  rw[HC,if_neg D];rfl
def tc:iA→iA
 | .fork os _ b=> .seq (.region os) b
 |c=>c
def td:iA→iA
 | .fork _ Gy b=> .seq (.region Gy) b
 |c=>c
def aeR:iA→Bool
 | .fork os Gy _=>decide (BH Gy=BH os)
 |_=>false
theorem Fx{E:Env}{n:Nat}{os:List iz}{b:iA}{st t:St}{o:Out}(h:DC E n (.seq (.region os) b) st=some (o,t)): ∃s,iB E (be E) n os st=some s∧DC E n b s=some (o,t):=by
 rw[wN,HE]at h
 cases hs:iB E (be E) n os st with
 |none=>rw[hs]at h;cases h
 |some s=>rw[hs]at h;exact⟨s,rfl,h⟩
theorem aeS{E:Env}{n:Nat}{c:iA}{fr W X:Fr}{lh r U:iL iy}{sh D:List iy}(V:aeR c=true)(F:DC E n (tc c) ⟨fr,lh,sh⟩=some (.nrm,⟨W,r,D⟩))(J:DC E n (td c) ⟨fr,lh,sh⟩=some (.nrm,⟨X,U,D⟩))(Y: ∀k,(jU c).contains k=false→a6 r k=a6 U k):
  ∃(K:Fr) (N:iL iy),DC E n c ⟨fr,lh,sh⟩=some (.nrm,⟨K,N,D⟩)∧(∀k,(jU c).contains k=false→an K k=an fr k)∧ ∀k,(jU c).contains k=false→a6 N k=a6 r k:=by
 cases c with
 |fork os Gy b=>
  obtain⟨s1,Z,F⟩:=Fx F
  obtain⟨s2,e2,J⟩:=Fx J
  have O: ∀k,(jU (.fork os Gy b)).contains k=false↔k∉BH os++jU b:=by
   intro k
   show(BH os++jU b).contains k=false↔_
   simp
  obtain⟨K,N,q1,q2,q3⟩:=Zl (of_decide_eq_true V) Z e2 F J (fun k hk=>Y k ((O k).2 hk))
  grind
 |_=>cases V
section
variable{k:IntKind}{a b:Int}{s t:List Nat}
theorem bnd{p:Prop}[Decidable p]:(some (T.b (decide p)):Option T)=if p then some (.b true)else some (.b false):=by grind
theorem avb{p:Prop}[Decidable p]:(some (T.b (!decide p)):Option T)=if p then some (.b false)else some (.b true):=by grind
theorem Zn:Ev.bin .eql (.i k a) (.i k b)=if a=b then some (.b true)else some (.b false):=QT.trans bnd
theorem Zp:Ev.bin .neq (.i k a) (.i k b)=if a=b then some (.b false)else some (.b true):=QU.trans avb
theorem Zq:Ev.bin .lss (.i k a) (.i k b)=if a<b then some (.b true)else some (.b false):=QV.trans bnd
theorem Zr:Ev.bin .leq (.i k a) (.i k b)=if a≤b then some (.b true)else some (.b false):=QW.trans bnd
theorem Zs:Ev.bin .gtr (.i k a) (.i k b)=if b<a then some (.b true)else some (.b false):=QX.trans bnd
theorem Zt:Ev.bin .geq (.i k a) (.i k b)=if b≤a then some (.b true)else some (.b false):=QY.trans bnd
theorem TR:Ev.bin .eql (.s s) (.s t)=if s=t then some (.b true)else some (.b false):=Mc.trans bnd
theorem TS:Ev.bin .neq (.s s) (.s t)=if s=t then some (.b false)else some (.b true):=Md.trans avb
end
theorem ifl{α:Type}{p:Prop}[Decidable p]{a b c:α}(r:p→a=c)(D: ¬p→b=c):(if p then a else b)=c:=by grind
def Gd(I:St→Prop)(R:Out→St→Prop)(x:Option (Out×St)):Prop:= ∃o st,x=some (o,st)∧((o= .nrm∧I st)∨(o≠ .nrm∧R o st))
section
variable{I:St→Prop}{R:Out→St→Prop}{p:Prop}[Decidable p]{x y:Option (Out×St)}{st:St}{i:Nat}
theorem vv(r:p→Gd I R x)(D: ¬p→Gd I R y):Gd I R (if p then x else y):=by grind
theorem kA(h:I st):Gd I R (some (.nrm,st)):=⟨_,_,rfl,.inl ⟨rfl,h⟩⟩
theorem mf(h:R (.ext i) st):Gd I R (some (.ext i,st)):=⟨_,_,rfl,.inr ⟨by simp,h⟩⟩
theorem yS(h:R .ret st):Gd I R (some (.ret,st)):=⟨_,_,rfl,.inr ⟨by simp,h⟩⟩
end
theorem ll{E:Env}{n:Nat}{a:iA}(I:Nat→St→Prop)(P:Fr→iL iy→List iy→Prop)(o:Out)(N:Nat)
  (step: ∀k st,k<N→I k st→Gd (I (k+1)) (fun o' r=>o'=o∧P r.fr r.lh r.sh) (DC E n a st))
  (D: ∀st,I N st→Gd (fun _=>False) (fun o' r=>o'=o∧P r.fr r.lh r.sh) (DC E n a st)) (fr:Fr) (lh:iL iy) (sh:List iy) (F:I 0 ⟨fr,lh,sh⟩):
  DC E n (.loop a) ⟨fr,lh,sh⟩=some (o,⟨pb E n a fr lh sh,nh E n a fr lh sh,nB E n a fr lh sh⟩)∧P (pb E n a fr lh sh) (nh E n a fr lh sh) (nB E n a fr lh sh):=by
 refine jh (jx I _ N (fun k st J hi=> ?_) (fun st hi=> ?_) 0 _ (Nat.zero_le _) F)
 ·obtain⟨o',r,e,h|h⟩:=step k st J hi
  ·grind
  ·grind
 ·obtain⟨o',r,e,h|h⟩:=D st hi
  ·exact h.2.elim
  ·grind
end Go.Ev
namespace Go.Ev
open Go
theorem iL.put_self{α:Type}{d v:α}(D:v≠d): ∀{f:Nat} {t:iL α} {n:Nat},n<f→iL.get d t n=v→iL.put d f t n v=t
 |0,t,n,h,_=>by omega
 |f+1,.nil,n,_,e=>absurd e.symm (by rw[iL.get_nil];exact D)
 |f+1,.nd w l r,0,_,e=>by unfold iL.get at e;simp only at e;rw[e];unfold iL.put;rfl
 |f+1,.nd w l r,k+1,h,e=>by
  unfold iL.get at e;simp only at e
  unfold iL.put;simp only
  have F:k/2<f:=by omega
  cases J:Nat.beq (k%2) 0 <;> rw[J]at e <;> simp only[cond_true,cond_false]at e ⊢ <;> rw[iL.put_self D F e]
theorem TT{fr:Fr}{k:Nat}{v:T}(h:an fr k=v)(r:v≠jg):kJ fr k v=fr:=iL.put_self r (Nat.lt_succ_self k) h
theorem j3{E:Env}{f:Nat}{a:List T}{sh r:List iy}{b:Bool}(h:be E f a sh=some (.b b,r)):be E f a sh=if b=true then some (.b true,r)else some (.b false,r):=by cases b <;> simpa using h
section
variable{I:St→Prop}{R:Out→St→Prop}{p:Prop}[Decidable p]{x y:Option (Out×St)}{st:St}{i:Nat}
theorem gdI:Gd I R (if p then x else y)=((p→Gd I R x)∧(¬p→Gd I R y)):=propext (by by_cases h:p <;> simp[h])
theorem gdN:Gd I R (some (.nrm,st))=I st:=propext ⟨fun⟨_,_,e,h⟩=>by cases e;exact h.elim (·.2) (fun h=>absurd rfl h.1),kA⟩
theorem gdX:Gd I R (some (.ext i,st))=R (.ext i) st:=propext ⟨fun⟨_,_,e,h⟩=>by cases e;exact h.elim (fun h=>by cases h.1) (·.2),mf⟩
theorem gdR:Gd I R (some (.ret,st))=R .ret st:=propext ⟨fun⟨_,_,e,h⟩=>by cases e;exact h.elim (fun h=>by cases h.1) (·.2),yS⟩
end
theorem aBR{α β:Type}{p:Prop}[Decidable p]{x y:Option (α×β)}{v:α}:(∃s,(if p then x else y)=some (v,s))=((p→ ∃s,x=some (v,s))∧(¬p→ ∃s,y=some (v,s))):=propext (by by_cases h:p <;> simp[h])
theorem Fy{α β:Type}{u v:α}{t:β}:(∃s,some (u,t)=some (v,s))=(u=v):=propext (by simp)
theorem xF{lh:iL iy}{j:Nat}{e:iy}{v:T}{k sz n:Nat}{cs:List T}(h:k≠j):jr (oK lh j e) v k sz n cs=jr lh v k sz n cs:=by unfold jr;rw[jF lh e h]
section
variable{E:Env}{n:Nat}{a:iA}{m:Nat}{fr:Fr}{lh:iL iy}{sh:List iy}
abbrev Lp(E:Env)(n:Nat)(a:iA)(fr:Fr)(lh:iL iy)(sh:List iy)(o:Out)(P:Fr→iL iy→List iy→Prop):Prop:=DC E n (.loop a) ⟨fr,lh,sh⟩=some (o,⟨pb E n a fr lh sh,nh E n a fr lh sh,nB E n a fr lh sh⟩)∧P (pb E n a fr lh sh) (nh E n a fr lh sh) (nB E n a fr lh sh)
theorem Zu{b:iA}{st r:St}{o:Out}(F:lO (jU (.loop b))=m)(h:DC E n b st=some (o,r)){s:Nat}(hs:(m >>> s)%2=0):an r.fr s=an st.fr s:=by
 refine lH h s ?_
 show(jU (.loop b)).contains s=false
 cases J:(jU (.loop b)).contains s with
 |false=>rfl
 |true=>
  have D:=Jf s _ (List.contains_iff_mem.1 J)
  rw[F,Nat.testBit,Nat.and_comm,Nat.and_one_is_mod,hs]at D
  simp at D
theorem kO(F:lO (jU (.loop a))=m)(I:Nat→Fr→iL iy→List iy→Prop){P:Fr→iL iy→List iy→Prop}{o:Out}(N:Nat)(J:I 0 fr lh sh)
  (step: ∀k f l s,k<N→(∀j,(m >>> j)%2=0→an f j=an fr j)→I k f l s→Gd (fun t=>I (k+1) t.fr t.lh t.sh) (fun o' t=>o'=o∧P t.fr t.lh t.sh) (DC E n a ⟨f,l,s⟩))
  (r: ∀f l s,(∀j,(m >>> j)%2=0→an f j=an fr j)→I N f l s→Gd (fun _=>False) (fun o' t=>o'=o∧P t.fr t.lh t.sh) (DC E n a ⟨f,l,s⟩)):
  Lp E n a fr lh sh o P:=by
 refine ll (fun k st=>(∀j,(m >>> j)%2=0→an st.fr j=an fr j)∧I k st.fr st.lh st.sh) P o N (fun k st K hi=> ?_) (fun st hi=>r _ _ _ hi.1 hi.2) fr lh sh ⟨fun _ _=>rfl,J⟩
 obtain⟨o',O,e,h⟩:=step k _ _ _ K hi.1 hi.2
 exact⟨o',O,e,h.imp (fun h=>⟨h.1,fun j D=>(Zu F e D).trans (hi.1 j D),h.2⟩) id⟩
abbrev vw(E:Env)(n:Nat)(a:iA)(fr:Fr)(lh:iL iy)(sh:List iy)(e s:Nat)(r:Int)(Q:iL iy→List iy→Prop):Prop:=DC E n (.loop a) ⟨fr,lh,sh⟩=(if r=0 then some (.ext e,⟨pb E n a fr lh sh,nh E n a fr lh sh,nB E n a fr lh sh⟩)else some (.ret,⟨kJ (pb E n a fr lh sh) s (.i .i64 r),nh E n a fr lh sh,nB E n a fr lh sh⟩))∧Q (nh E n a fr lh sh) (nB E n a fr lh sh)
abbrev Zv(E:Env)(n:Nat)(a:iA)(fr:Fr)(lh:iL iy)(sh:List iy)(e s:Nat)(p:Prop)[Decidable p](v:T)(Q:iL iy→List iy→Prop):Prop:=DC E n (.loop a) ⟨fr,lh,sh⟩=(if p then some (.ext e,⟨pb E n a fr lh sh,nh E n a fr lh sh,nB E n a fr lh sh⟩)else some (.ret,⟨kJ (pb E n a fr lh sh) s v,nh E n a fr lh sh,nB E n a fr lh sh⟩))∧Q (nh E n a fr lh sh) (nB E n a fr lh sh)
theorem sd(D:lO (jU (.loop a))=m){e s:Nat}{p:Prop}[Decidable p]{v:T}(F:v≠jg)(I:Nat→Fr→iL iy→List iy→Prop){Q:iL iy→List iy→Prop}(N:Nat)(J:I 0 fr lh sh)
  (step: ∀k f l h,k<N→(∀j,(m >>> j)%2=0→an f j=an fr j)→I k f l h→Gd (fun t=>I (k+1) t.fr t.lh t.sh) (fun o' t=>o'= .ret∧ ¬p∧an t.fr s=v∧Q t.lh t.sh) (DC E n a ⟨f,l,h⟩))
  (r: ∀f l h,(∀j,(m >>> j)%2=0→an f j=an fr j)→I N f l h→Gd (fun _=>False) (fun o' t=>o'= .ext e∧p∧Q t.lh t.sh) (DC E n a ⟨f,l,h⟩)):
  Zv E n a fr lh sh e s p v Q:=by
 obtain⟨K,O,U⟩:=kO D I (P:=fun f l h=>(¬p→an f s=v)∧Q l h) (o:=if p then .ext e else .ret) N J
  (fun k f l h V p i=>by
    obtain⟨o',t,x,y⟩:=step k f l h V p i
    exact⟨o',t,x,y.imp id fun⟨a,b,c,d,g⟩=>⟨a,by rw[if_neg c];exact b,fun _=>d,g⟩⟩)
  (fun f l h p i=>by
    obtain⟨o',t,x,y⟩:=r f l h p i
    exact⟨o',t,x,y.imp id fun⟨a,b,c,d⟩=>⟨a,by rw[if_pos c];exact b,fun z=>absurd c z,d⟩⟩)
 refine⟨?_,U⟩
 rw[K]
 split
 ·rfl
 ·rename_i W;rw[TT (O W) F]
theorem jW(F:lO (jU (.loop a))=m){e s:Nat}{r:Int}(I:Nat→Fr→iL iy→List iy→Prop){Q:iL iy→List iy→Prop}(N:Nat)(J:I 0 fr lh sh)
  (step: ∀k f l h,k<N→(∀j,(m >>> j)%2=0→an f j=an fr j)→I k f l h→Gd (fun t=>I (k+1) t.fr t.lh t.sh) (fun o' t=>o'= .ret∧r≠0∧an t.fr s= .i .i64 r∧Q t.lh t.sh) (DC E n a ⟨f,l,h⟩))
  (D: ∀f l h,(∀j,(m >>> j)%2=0→an f j=an fr j)→I N f l h→Gd (fun _=>False) (fun o' t=>o'= .ext e∧r=0∧Q t.lh t.sh) (DC E n a ⟨f,l,h⟩)):
  vw E n a fr lh sh e s r Q:=sd F (by simp[jg]) I N J step D
theorem TU{lh:iL iy}{k:Nat}{v:iy}(h:a6 lh k=v)(r:v≠mN):oK lh k v=lh:=iL.put_self r (Nat.lt_succ_self k) h
theorem lpO{e s k:Nat}{r:Int}{x:iy}{Q:iL iy→List iy→Prop}(h:vw E n a fr lh sh e s r fun l h=>(r=0→a6 l k=x)∧Q l h)(D:x.ob≠ .none):
  DC E n (.loop a) ⟨fr,lh,sh⟩=(if r=0 then some (.ext e,⟨pb E n a fr lh sh,oK (nh E n a fr lh sh) k x,nB E n a fr lh sh⟩)else some (.ret,⟨kJ (pb E n a fr lh sh) s (.i .i64 r),nh E n a fr lh sh,nB E n a fr lh sh⟩))∧Q (nh E n a fr lh sh) (nB E n a fr lh sh):=by
 obtain⟨F,J,K⟩:=h
 refine⟨?_,K⟩
 rw[F]
 split
 ·rename_i N;rw[TU (J N) (fun h=>D (by rw[h];rfl))]
 ·rfl
end
end Go.Ev
