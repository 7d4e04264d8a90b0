/- A tree evaluator over the model, proved against it (part G): where it answers, the call returns that answer. Conditions: none beyond its theorems' own. -/
import Derived.Test.YtblcbheipjeoeaaGreatEvF
import GoSem.ClaimJoined
import Derived.ChangeArms
import Derived.DataShut
import Derived.OpenShut
set_option linter.unusedSimpArgs false
set_option linter.unusedVariables false
namespace Go.Ev
open Go
def kept1:T→Bool
 | .isl .S .. | .ptr .S .. | .mp .S .. =>true
 |t=>froz1 t
def kept:T→Bool
 | .agg cs=>cs.all kept1
 | .tup cs=>cs.all kept1
 | .fn _ a c=>a.all kept1&&c.all kept1
 |t=>kept1 t
theorem Kx{n:Nat}{t:T}(h:kept1 t=true):fz true (n+1) t= .ret (t,[]):=by
 cases t with
 |isl sp k g off len sz=>cases sp with|S=>rfl|L=>simp[kept1,froz1]at h
 |ptr sp k g off=>cases sp with|S=>rfl|L=>simp[kept1,froz1]at h
 |mp sp k g=>cases sp with|S=>rfl|L=>simp[kept1,froz1]at h
 |_=>exact wJ h
theorem rJ{n:Nat}: ∀(ts:List T),ts.all kept1=true→iZ (fz true (n+1)) ts= .ret (ts,[])
 | [],_=>rfl
 |t::ts,h=>by
  simp_all[List.all_cons,Bool.and_eq_true,iZ,Kx,rJ,Q.bind,List.append_nil]
theorem CS{n:Nat}{t:T}(h:kept t=true):fz true (n+2) t= .ret (t,[]):=by
 cases t with
 |agg cs=>simp only[kept]at h;rw[H4,rJ cs h];rfl
 |tup cs=>simp only[kept]at h;rw[MR,rJ cs h];rfl
 |fn f a c=>simp only[kept,Bool.and_eq_true]at h;rw[agj,rJ a h.1,rJ c h.2];rfl
 |_=>exact Kx h
theorem Bw{n:Nat}: ∀(ts:List T),ts.all kept=true→iZ (fz true (n+2)) ts= .ret (ts,[])
 | [],_=>rfl
 |t::ts,h=>by
  simp_all[List.all_cons,Bool.and_eq_true,iZ,CS,Bw,Q.bind,List.append_nil]
theorem aiR{k:IntKind}{n:Int}:kept (.i k n)=true:=nr rfl
theorem aiS{l:List Nat}:kept (.s l)=true:=nr rfl
theorem Xm{k g off:Nat}:kept (.ptr .S k g off)=true:=nr rfl
theorem An{k g:Nat}:kept (.mp .S k g)=true:=nr rfl
theorem Xn{cs:List T}:kept (.agg cs)=cs.all kept1:=nr rfl
theorem acb{k:IntKind}{n:Int}:kept1 (.i k n)=true:=nr rfl
theorem acd{l:List Nat}:kept1 (.s l)=true:=nr rfl
theorem Ky:kept1 .nilmp=true:=nr rfl
theorem Xo{k g:Nat}:kept1 (.mp .S k g)=true:=nr rfl
theorem Xp{t:T}(h:froz1 t=true):kept1 t=true:=by cases t <;> first|rfl|(simp[froz1]at h)
section
variable{E:Env}{call:rh}{n:Nat}{fr:Fr}{lh:hJ gR}{sh:List gR}{os:List be}{d:Nat}
theorem Xq{v:T}(h:kept v=true):fzV lh sh true v=some (v,[]):=by
 unfold fzV iB;rw[CS h];rfl
theorem Q9{D:Nat}{C:gU}{f:Nat}{args:List T}(F:E.fn f=some C)(J:C.eff=true)(K:args.all kept=true):iU E call D ⟨fr,lh,sh⟩ f args=
  (call f args sh).bind fun r=>some (r.1,⟨fr,lh,r.2⟩):=by
 unfold iU
 simp only[F,J,if_true]
 unfold iB
 rw[Bw args K]
 simp only[Q.run,CR]
 cases call f args sh <;> rfl
theorem aiT{x:iz}(C:d<n)(r:noTup (rd fr x)=true)(D:kept (rd fr x)=true):gV E call n (⟨some d,.box x true,none⟩::os) ⟨fr,lh,sh⟩=gV E call n os ⟨kj fr d (.ptr .S sh.length 1 0),lh,jP sh sh.length ⟨1,.cells (cellsOf (rd fr x)) 0 true⟩⟩:=by
 rw[qL (by rfl) (show FE n (some d)from C)]
 unfold one
 simp only[jf,r,Bool.not_true,Bool.false_eq_true,if_false,if_true]
 unfold iB
 rw[CS D]
 simp only[Q.bind,List.isEmpty_nil,r,Bool.and_self,if_true]
 rfl
theorem Xr{k g off m:Nat}{v:T}(e:gR)(r: ∀cs wm bx,e.ob= .cells cs wm bx→bx=true)(F:(cellsOf v).length=m)(J:noTup v=true)(K:kept v=true):nO lh sh (Q.run (St.mk .nil lh sh).get sh.length (R7 k g off m v e))=D8 lh sh k e g off v m:=by
 obtain⟨N,ob⟩:=e
 unfold D8 R7
 by_cases O:N=g
 ·subst O
  cases ob with
  |none=>simp[Q.run,nO]
  |map ks V z=>simp[Q.run,nO]
  |cells cs wm bx=>
   have ZU:=r cs wm bx rfl
   subst ZU
   by_cases r:wm≤off∧off+m≤cs.length
   ·have C:(decide (wm≤off)&&decide (off+m≤cs.length))=true:=by simp[r.1,r.2]
    have ZU:(true&&Sp.S==Sp.L)=false:=rfl
    have D:(true&&Sp.S==Sp.S)=true:=rfl
    unfold iB
    simp only[if_true,C,ZU,D,Bool.false_eq_true,if_false]
    rw[CS K]
    have U:(pf [] Sp.S k|| !noTup v||decide ((cellsOf v).length≠m))=false:=by simp[pf,F,J]
    simp only[Q.bind,U,Bool.false_eq_true,if_false,Q.run,nO]
    rw[if_pos ⟨trivial,F,J,r⟩]
    rfl
   grind [Bool.false_eq_true,Q.run,nO]
 grind [Q.run,nO]
theorem If{k g r off m wm:Nat}{cs:List T}{v:T}(F:kept v=true)(J:jr sh k=⟨r,.cells cs wm true⟩):oh lh sh (.ptr .S k g off) v m=D8 lh sh k ⟨r,.cells cs wm true⟩ g off v m:=by
 by_cases C:(cellsOf v).length=m
 ·cases D:noTup v with
  |false=>
   grind [oh,vS,D8,Q.run]
  |true=>
   unfold oh vS
   have:(decide ((cellsOf v).length≠m)|| !noTup v)=false:=by simp[C,D]
   simp only[this,Bool.false_eq_true,if_false]
   have:=Xr (lh:=lh) (sh:=sh) (k:=k) (g:=g) (off:=off) ⟨r,.cells cs wm true⟩ (by intro a b c h;cases h;rfl) C D F
   rw[←this,←J]
   rfl
 grind [oh,vS,D8,Q.run]
def M7(sh:List gR)(kk:Nat)(e:gR)(g:Nat)(ek:EK)(k v:T):Option (List gR):=
 match e with
 |⟨r,.map ks C false⟩=>if r=g∧isKey ek k=true then(rB ek k v ks C).map fun q=>jP sh kk ⟨g,.map q.1 q.2 false⟩else none
 |_=>none
theorem Xs{kk g r:Nat}{ek:EK}{k v:T}{ks C:List T}:M7 sh kk ⟨r,.map ks C false⟩ g ek k v=if r=g∧isKey ek k=true then(rB ek k v ks C).map fun q=>jP sh kk ⟨g,.map q.1 q.2 false⟩else none:=rfl
def ace(kk g:Nat)(ek:EK)(k v:T)(e:gR):Q Du:=if e.g=g&&isKey ek k then match e.ob with
      | .map ks r false=>(fz false iB v).bind fun p=>match rB ek k p.1 ks r with
        |some q=>if pf p.2 .S kk then .fail else .ret (.val iY (p.2++ [(.S,kk,⟨g,.map q.1 q.2 false⟩)]))
        |none=> .fail
      |_=> .fail
     else .fail
theorem acf{kk g:Nat}{ek:EK}{k v:T}(e:gR)(F:froz v=true):((qK (Q.run (St.mk fr lh sh).get sh.length (ace kk g ek k v e))).bind fun r=>gV E call n os {(St.mk fr lh sh).ups r.2 with fr:=fr})=
  (M7 sh kk e g ek k v).bind fun J=>gV E call n os ⟨fr,lh,J⟩:=by
 obtain⟨D,ob⟩:=e
 unfold ace M7
 by_cases C:D=g∧isKey ek k=true
 ·have:(decide (D=g)&&isKey ek k)=true:=by simp[C.1,C.2]
  simp only[this,if_true]
  cases ob with
  |none=>rfl
  |cells cs wm bx=>rfl
  |map ks K z=>
   cases z with
   |true=>rfl
   |false=>
    simp only[if_pos C]
    unfold iB
    rw[pP F]
    simp only[Q.bind]
    cases rB ek k v ks K with
    |none=>rfl
    |some q=>simp only[pf,List.any_nil,Bool.false_eq_true,if_false,Q.run,List.nil_append];rfl
 grind [Bool.false_eq_true,Q.run,qK]
theorem ary{ek:EK}{m k v:iz}{kk g:Nat}(r:rd fr m= .mp .S kk g)(C:froz (rd fr v)=true):gV E call n (⟨none,.mu ek m k v,none⟩::os) ⟨fr,lh,sh⟩=(M7 sh kk (jr sh kk) g ek (rd fr k) (rd fr v)).bind fun D=>gV E call n os ⟨fr,lh,D⟩:=by
 rw[qL (by rfl) (show FE n none from trivial)]
 unfold one
 simp only[jf,r]
 exact acf (jr sh kk) C
end
section
variable{E:Env}{call:rh}{n:Nat}{fr:Fr}{lh:hJ gR}{sh:List gR}{ds:List (List Nat×be)}{jM:List FP}{u:List Nat}{d:Option Nat}
def M8:T→Bool
 | .mp .S .. =>true
 |_=>false
theorem acg{k g:Nat}:M8 (.mp .S k g)=true:=nr rfl
theorem arz{ek:EK}{m k v:iz}(X:M8 (rd fr m)=true)(F:froz (rd fr v)=true):iK E call n ((u,⟨none,.mu ek m k v,none⟩)::ds) jM ⟨fr,lh,sh⟩=
  if meets u jM ⟨false,tS (rd fr m),tS (rd fr m)⟩=true then ke E call n ds (jM++ [⟨false,tS (rd fr m),tS (rd fr m)⟩]) (gV E call n [⟨none,.mu ek m k v,none⟩] ⟨fr,lh,sh⟩)else none:=by
 refine ve fun J=> ?_
 cases Kv:rd fr m with
 |mp sp kk g=>
  cases sp with
  |L=>grind [M8]
  |S=>
   obtain⟨w,K,r,C⟩:=yb (q:= .rd .S kk (ace kk g ek (rd fr k) (rd fr v))) (by rfl) (by rw[lq];simp only[jf,Kv];rfl) J
   simp only[Q.run,Q.log,Q.asks]at r C
   have D:(St.mk fr lh sh).get .S kk=jr sh kk:=rfl
   rw[D]at r C
   generalize N:jr sh kk=e at r C
   obtain⟨O,ob⟩:=e
   unfold ace at r C
   by_cases U:(decide (O=g)&&isKey ek (rd fr k))=true
   ·simp only[U,if_true]at r C
    cases ob with
    |none=>simp[Q.run]at r
    |cells cs wm bx=>simp[Q.run]at r
    |map ks Y V=>
     cases V with
     |true=>simp[Q.run]at r
     |false=>
      simp only[]at r C
      unfold iB at r C
      rw[pP F]at r C
      simp only[Q.bind]at r C
      split at r
      ·rename_i q W
       simp only[pf,List.any_nil,Bool.false_eq_true,if_false,Q.run,Option.some.injEq,Du.val.injEq]at r
       obtain⟨rfl,rfl⟩:=r
       rw[W]at C
       simp only[pf,List.any_nil,Bool.false_eq_true,if_false]at C
       refine C ?_
       simp only[Q.asks,Bool.false_or,yi,List.nil_append,List.all_cons,List.all_nil,Bool.and_true]
       rw[D,N]
       rfl
      ·simp[Q.run]at r
   grind [Bool.false_eq_true,Q.run]
 |_=>grind [M8]
def Gc:FP:=⟨true,[],[]⟩
theorem aal{f:Nat}{r:gU}{as:List iz}(C:E.fn f=some r)(D:r.eff=true)(F:(as.map (rd fr)).all kept=true):
  iK E call n ((u,⟨d,.callf f as,none⟩)::ds) jM ⟨fr,lh,sh⟩=if meets u jM Gc=true then ke E call n ds (jM++ [Gc]) (gV E call n [⟨d,.callf f as,none⟩] ⟨fr,lh,sh⟩)else none:=by
 refine ve fun J=> ?_
 unfold jk
 have D0:jj (St.mk fr lh sh).rho (.callf f as)=some (some (f,as.map (rd fr))):=by rw[lq];rfl
 simp only[D0]
 unfold lO
 simp only[C,D]
 unfold iB
 rw[Bw _ F]
 simp only[Q.run,Q.log,yi,List.all_nil,Bool.not_true,Bool.false_eq_true,if_false,if_true,j6,List.map_nil]
 rfl
theorem Kz{r C:List (Sp×Nat)}:apart ⟨false,r,C⟩ Gc=(LZ r&&LZ C):=by
 grind [apart,Gc,mS]
theorem ach:LZ []=true:=nr rfl
theorem arA{k:Nat}{xs:List (Sp×Nat)}:LZ ((.L,k)::xs)=LZ xs:=nr rfl
end
end Go.Ev
namespace Go.Ev
open Go
section
variable{E:Env}{n:Nat}{a:gT}
theorem ij(I:Nat→St→Prop)(R:Out→St→Prop)(N:Nat)
  (step: ∀k st,k<N→I k st→(∃ja,DC E n a st=some (.nrm,ja)∧I (k+1) ja)∨(∃o ja,o≠ .nrm∧DC E n a st=some (o,ja)∧R o ja))
  (C: ∀st,I N st→ ∃o ja,o≠ .nrm∧DC E n a st=some (o,ja)∧R o ja):
  ∀(k:Nat) (st:St),k≤N→I k st→ ∃o ja,DC E n (.loop a) st=some (o,ja)∧R o ja:=by
 have r: ∀{st o ja},o≠ .nrm→DC E n a st=some (o,ja)→DC E n (.loop a) st=some (o,ja):=by
  intro st o ja F h
  rw[qZ,h]
  cases o with
  |nrm=>grind
  |ext id=>rfl
  |ret=>rfl
 have D: ∀(m k:Nat) (st:St),N-k=m→k≤N→I k st→ ∃o ja,DC E n (.loop a) st=some (o,ja)∧R o ja:=by
  intro m
  induction m with
  |zero=>
   intro k st J K h
   have:k=N:=by omega
   grind
  |succ m ih=>
   grind [qZ,Ce]
 grind
theorem ib{fr:Fr}{lh:hJ gR}{sh:List gR}{o:Out}{P:Fr→hJ gR→List gR→Prop}
  (h: ∃o' r,DC E n (.loop a) ⟨fr,lh,sh⟩=some (o',r)∧o'=o∧P r.fr r.lh r.sh):
  DC E n (.loop a) ⟨fr,lh,sh⟩=some (o,⟨kh E n a fr lh sh,kH E n a fr lh sh,kb E n a fr lh sh⟩)∧P (kh E n a fr lh sh) (kH E n a fr lh sh) (kb E n a fr lh sh):=by
 obtain⟨o',r,C,rfl,D⟩:=h
 exact RQ ⟨r.fr,r.lh,r.sh,C,D⟩
end
theorem g8.kept1{v:T}{n:Nat}{cs:List T}(h:g8 v n cs):kept1 v=true:=Xp h.froz1
end Go.Ev
namespace Go.Ev
open Go
theorem CT{st:St}{a b:List Up}:yi st (a++b)=(yi st a&&yi st b):=by grind [yi]
theorem CU{st:St}{sp:Sp}{k:Nat}{e:gR}(h:Dw (st.get sp k)=true):yi st [(sp,k,e)]=true:=by
 cases sp with
 |L=>rfl
 |S=>simp only[yi,List.all_cons,List.all_nil,Bool.and_true,h,Bool.or_true]
section
variable{st:St}{nx:Nat}
theorem Ea{f:T→Q (T×List Up)}(r: ∀t p,(f t).run st.get nx=some p→yi st p.2=true): ∀(ts:List T) (p:List T×List Up),(iZ f ts).run st.get nx=some p→yi st p.2=true
 | [],p,h=>by simp[iZ,Q.run]at h;subst h;rfl
 |t::ts,p,h=>by
  simp only[iZ,js]at h
  cases C:(f t).run st.get nx with
  |none=>grind
  |some F=>
   rw[C]at h
   simp only[Option.bind_some]at h
   cases D:(iZ f ts).run st.get nx with
   |none=>grind
   |some J=>
    rw[D]at h
    simp only[Option.bind_some,Q.run,Option.some.injEq]at h
    subst h
    simp only[CT,r _ _ C,Ea r ts _ D,Bool.and_self]
theorem Xt: ∀(n:Nat) (keep:Bool) (t:T) (p:T×List Up),(fz keep n t).run st.get nx=some p→yi st p.2=true
 |0,keep,t,p,h=>by simp[fz,Q.run]at h
 |n+1,keep,t,p,h=>by
  have ih:=Xt n
  have J:=fun(k:Bool) (ts:List T) (q:List T×List Up)=>Ea (ih k) ts q
  cases t with
  |isl sp k g off len sz=>
   simp only[fz]at h
   split at h
   ·simp[Q.run]at h;subst h;rfl
   ·simp only[Q.run]at h
    cases r:st.get sp k with
    |mk D ob=>
     have N: ∀{o},ob=o→Dw (st.get sp k)=Dw ⟨D,o⟩:=fun e=>by rw[r,e]
     rw[r]at h
     simp only at h
     split at h
     ·split at h
      ·split at h
       ·simp only[Q.run,Option.some.injEq]at h;subst h;exact CU (by rw[r];rfl)
       ·simp[Q.run]at h
      ·split at h
       ·simp only[js]at h
        cases C:(iZ (fz false n) (List.take (len*sz) (List.drop off ‹List T›))).run st.get nx with
        |none=>grind
        |some q=>
         rw[C]at h
         simp only[Option.bind_some,Q.run,Option.some.injEq]at h
         subst h
         simp only[CT,J _ _ _ C,Bool.true_and]
         exact CU (by rw[r];rfl)
       ·simp[Q.run]at h
      ·simp[Q.run]at h
     ·simp[Q.run]at h
  |mp sp k g=>
   simp only[fz]at h
   split at h
   ·simp[Q.run]at h;subst h;rfl
   ·simp only[Q.run]at h
    cases r:st.get sp k with
    |mk D ob=>
     rw[r]at h
     simp only at h
     split at h
     ·split at h
      ·simp only[Q.run,Option.some.injEq]at h;subst h;exact CU (by rw[r];rfl)
      ·simp[Q.run]at h
     ·simp[Q.run]at h
  |ptr sp k g off=>
   simp only[fz]at h
   split at h
   ·simp[Q.run]at h;subst h;rfl
   ·simp only[Q.run]at h
    cases r:st.get sp k with
    |mk D ob=>
     rw[r]at h
     simp only at h
     split at h
     ·split at h
      ·simp only[js]at h
       cases C:(iZ (fz false n) (List.drop off ‹List T›)).run st.get nx with
       |none=>grind
       |some q=>
        rw[C]at h
        simp only[Option.bind_some,Q.run,Option.some.injEq]at h
        subst h
        simp only[CT,J _ _ _ C,Bool.true_and]
        exact CU (by rw[r];rfl)
      ·simp[Q.run]at h
     ·simp[Q.run]at h
  |fn f a c=>
   simp only[fz,js]at h
   cases F:(iZ (fz keep n) a).run st.get nx with
   |none=>grind
   |some K=>
    rw[F]at h
    simp only[Option.bind_some]at h
    cases C:(iZ (fz keep n) c).run st.get nx with
    |none=>grind
    |some O=>
     grind [Q.run,Option.some.injEq,CT,Bool.and_self]
  |agg cs=>
   simp only[fz,js]at h
   cases F:(iZ (fz keep n) cs).run st.get nx with
   |none=>grind
   |some K=>
    grind [Q.run,Option.some.injEq]
  |tup cs=>
   simp only[fz,js]at h
   cases F:(iZ (fz keep n) cs).run st.get nx with
   |none=>grind
   |some K=>
    grind [Q.run,Option.some.injEq]
  |_=>simp[fz,Q.run]at h;subst h;rfl
end
section
variable{E:Env}{call:rh}{n:Nat}{fr:Fr}{lh:hJ gR}{sh:List gR}{ds:List (List Nat×be)}{jM:List FP}{u:List Nat}{d:Option Nat}
theorem aan{f:Nat}{D:gU}{as:List iz}(F:E.fn f=some D)(K:D.eff=false)(N:D.own=none)(U:noU ds=true):
  iK E call n (([],⟨d,.callf f as,none⟩)::ds) jM ⟨fr,lh,sh⟩=ke E call n ds (jM++ [nW]) (gV E call n [⟨d,.callf f as,none⟩] ⟨fr,lh,sh⟩):=by
 rw[ve (fp:=(jk E call ⟨d,.callf f as,none⟩ ⟨fr,lh,sh⟩).getD nW)]
 ·show ke _ _ _ _ _ _=_
  unfold ke
  cases gV E call n [⟨d,.callf f as,none⟩] ⟨fr,lh,sh⟩with
  |none=>rfl
  |some s=>grind [D9]
 ·intro C
  unfold iW at C
  have D0:jj (St.mk fr lh sh).rho (.callf f as)=some (some (f,as.map (rd fr))):=by rw[lq];rfl
  simp only[D0]at C
  suffices h: ∃fp,jk E call ⟨d,.callf f as,none⟩ ⟨fr,lh,sh⟩=some fp by
   grind
  unfold jk lO
  simp only[D0,F]
  unfold iU at C
  simp only[F,K]at C ⊢
  cases J:(iZ (fz false iB) (as.map (rd fr))).run (St.mk fr lh sh).get sh.length with
  |none=>grind
  |some q=>
   simp only[J,Bool.false_eq_true,if_false]at C ⊢
   have O:yi (St.mk fr lh sh) q.2=true:=Ea (fun t p h=>Xt _ _ t p h) _ _ J
   simp only[O,Bool.not_true,Bool.false_eq_true,if_false,N]
   cases V:call f q.1 []with
   |none=>grind
   |some r=>grind
def isNe:T→Bool
 | .sl _ (_+1) _=>true
 |_=>false
theorem aci{cs:List T}{m:Nat}{ex:Bool}:isNe (.sl cs (m+1) ex)=true:=nr rfl
def yL(r:Nat):T→List (Sp×Nat)
 | .isl .L k _ _ _ _=> [(.L,k)]
 |_=> [(.L,r)]
theorem M9{r:Nat}:yL r .nilsl= [(.L,r)]:=nr rfl
theorem aiU{C sz bytes:Nat}{s x:iz}(hs:notS (rd fr s)=true)(X:isNe (rd fr x)=true):iK E call n ((u,⟨some C,.app sz bytes s x false false,none⟩)::ds) jM ⟨fr,lh,sh⟩=
  if meets u jM ⟨false,yL C (rd fr s),yL C (rd fr s)⟩=true then ke E call n ds (jM++ [⟨false,yL C (rd fr s),yL C (rd fr s)⟩]) (gV E call n [⟨some C,.app sz bytes s x false false,none⟩] ⟨fr,lh,sh⟩)else none:=by
 refine ve fun N=> ?_
 cases Kv:rd fr x with
 |sl cs m ex=>
  cases m with
  |zero=>simp_all[isNe]
  |succ m=>
   by_cases O:cs.length=(m+1)*sz
   ·have U:jQ sz (rd fr x)= .ret (m+1,cs):=by rw[Kv];simp only[jQ,O,if_true]
    obtain⟨v,J,r,F⟩:=yb (q:=rA C sz bytes (rd fr s) (rd fr x) false false) (by rfl) (by rw[lq];rfl) N
    have V:=Ie hs r
    have F:=F (by rw[V];simp)
    rw[F]
    unfold rA at r ⊢
    rw[U]at r ⊢
    simp only[Q.bind,Nat.add_one_ne_zero,if_false]at r ⊢
    cases D:rd fr s with
    |nilsl=>
     rw[D]at r
     simp only at r ⊢
     split at r
     ·rename_i K
      rw[if_pos K]
      simp[oT,Q.run]at r
      obtain⟨rfl,rfl⟩:=r
      rfl
     ·simp[Q.run]at r
    |sl Y Z W=>
     rw[D]at r
     cases W with
     |false=>simp[Q.run]at r
     |true=>
      simp only at r ⊢
      split at r
      ·rename_i K
       rw[if_pos K]
       simp[oT,Q.run]at r
       obtain⟨rfl,rfl⟩:=r
       rfl
      ·simp[Q.run]at r
    |isl sp k g off len rf=>
     cases sp with
     |S=>grind [notS]
     |L=>
      grind [Q.run,Option.some.injEq,Du.val.injEq,Q.asks,Q.log,j6,yL]
    |_=>grind [Q.run]
   ·obtain⟨v,J,r,F⟩:=yb (q:=rA C sz bytes (rd fr s) (rd fr x) false false) (by rfl) (by rw[lq];rfl) N
    simp_all[rA,jQ,Q.bind,Q.run]
 |_=>grind [isNe]
def Bx:gR→Bool
 |⟨_,.cells _ _ bx⟩=>bx
 |_=>false
def KA(lh:hJ gR):T→Bool
 | .ptr .L k _ _=>Bx (a6 lh k)
 |_=>false
theorem R8{k g off:Nat}:KA lh (.ptr .L k g off)=Bx (a6 lh k):=nr rfl
theorem Ig{g wm:Nat}{cs:List T}{bx:Bool}:Bx ⟨g,.cells cs wm bx⟩=bx:=nr rfl
theorem arB{x v:iz}{m:Nat}(D:KA lh (rd fr x)=true):iK E call n ((u,⟨none,.st x v m,none⟩)::ds) jM ⟨fr,lh,sh⟩=
  if meets u jM ⟨false,sI (rd fr x),sI (rd fr x)⟩=true then ke E call n ds (jM++ [⟨false,sI (rd fr x),sI (rd fr x)⟩]) (gV E call n [⟨none,.st x v m,none⟩] ⟨fr,lh,sh⟩)else none:=by
 refine ve fun J=> ?_
 cases Kv:rd fr x with
 |ptr sp k g off=>
  cases sp with
  |S=>grind [KA]
  |L=>
   obtain⟨w,K,r,C⟩:=yb (q:=vS (rd fr x) (rd fr v) m) (by rfl) (by rw[lq];rfl) J
   rw[Kv]at D r C
   simp only[KA]at D
   unfold vS at r C
   split at r
   ·simp[Q.run]at r
   ·rename_i N
    rw[if_neg N]at C
    simp only[Q.run,Q.asks,Q.log]at r C
    have F:(St.mk fr lh sh).get .L k=a6 lh k:=rfl
    rw[F]at r C
    generalize a6 lh k=e at D r C
    obtain⟨V,ob⟩:=e
    cases ob with
    |none=>simp[Bx]at D
    |map a b c=>simp[Bx]at D
    |cells cs wm bx=>
     simp only[Bx]at D
     subst D
     simp only at r C
     split at r
     ·rename_i O
      rw[if_pos O]at C
      split at r
      ·rename_i U
       rw[if_pos U]at C
       have Tq:(true&&Sp.L==Sp.L)=true:=rfl
       simp only[Tq,if_true,Q.run,Option.some.injEq,Du.val.injEq]at r C
       obtain⟨rfl,rfl⟩:=r
       exact C rfl
      ·simp[Q.run]at r
     ·simp[Q.run]at r
 |_=>grind [KA]
end
section
variable{α β:Type}[DecidableEq α]
def iF:List (α×β)→α→Option β
 | [],_=>none
 |p::m,a=>if a=p.1 then some p.2 else iF m a
def po:List (α×β)→α→Option Nat
 | [],_=>none
 |p::m,a=>if a=p.1 then some 0 else(po m a).map (· +1)
variable{ek:EK}{kT:α→T}{vT:β→T}
theorem Ih(r: ∀a b,xV ek (kT a) (kT b)=some (decide (a=b)))(a:α): ∀m:List (α×β),nz ek (kT a) (m.map fun p=>kT p.1)=some (po m a)
 | []=>rfl
 |p::m=>by
  rw[List.map_cons,RY,r,Ih r a m,po]
  by_cases h:a=p.1
  ·rw[decide_eq_true h,if_pos h];rfl
  ·rw[decide_eq_false h,if_neg h];rfl
theorem vg(a:α): ∀m:List (α×β),iF m a=(po m a).bind fun i=>(m[i]?).map (·.2)
 | []=>rfl
 |p::m=>by
  rw[iF,po]
  by_cases h:a=p.1
  ·grind
  ·rw[if_neg h,if_neg h,vg a m]
   cases po m a <;> rfl
theorem Ao(a:α): ∀(m:List (α×β)) (i:Nat),po m a=some i→i<m.length
 | [],i,h=>by simp[po]at h
 |p::m,i,h=>by
  rw[po]at h
  split at h
  ·grind
  ·cases r:po m a with
   |none=>grind
   |some j=>
    rw[r]at h
    simp at h
    have:=Ao a m j r
    grind
theorem aiV(r: ∀a b,xV ek (kT a) (kT b)=some (decide (a=b)))(C: ∀a,isKey ek (kT a)=true)(m:List (α×β))(a:α)(z:T):
  nX ek (m.map fun p=>kT p.1) (m.map fun p=>vT p.2) (kT a) z true=some (match iF m a with|some v=> .tup [vT v,.b true]|none=> .tup [z,.b false]):=by
 rw[Pt (C a),Ih r,vg]
 cases D:po m a with
 |none=>rfl
 |some i=>
  grind [Kw,List.getElem?_eq_getElem,Ao]
theorem Pu(r: ∀a b,xV ek (kT a) (kT b)=some (decide (a=b)))(C: ∀a,isKey ek (kT a)=true)(m:List (α×β))(a:α)(z:T):
  nX ek (m.map fun p=>kT p.1) (m.map fun p=>vT p.2) (kT a) z false=some (match iF m a with|some v=>vT v|none=>z):=by
 rw[Pt (C a),Ih r,vg]
 cases D:po m a with
 |none=>rfl
 |some i=>
  grind [Kw,List.getElem?_eq_getElem,Ao]
theorem Aq(r: ∀a b,xV ek (kT a) (kT b)=some (decide (a=b)))(m:List (α×β))(a:α)(v:β)(h:iF m a=none):
  rB ek (kT a) (vT v) (m.map fun p=>kT p.1) (m.map fun p=>vT p.2)=some ((m++ [(a,v)]).map (fun p=>kT p.1),(m++ [(a,v)]).map (fun p=>vT p.2)):=by
 rw[ab5,Ih r]
 rw[vg]at h
 cases C:po m a with
 |none=>simp[RZ]
 |some i=>
  grind [List.getElem?_eq_getElem,Ao]
theorem rm(a b:α)(v:β): ∀m:List (α×β),iF (m++ [(b,v)]) a=match iF m a with|some u=>some u|none=>if a=b then some v else none
 | []=>by simp[iF]
 |p::m=>by
  rw[List.cons_append,iF,iF,rm a b v m]
  grind
end
end Go.Ev
namespace Go.Ev
open Go
theorem Na{r:List T}:scalar (.tup r)=r.all pU:=by
 unfold scalar
 congr 1
theorem acj{k:IntKind}{n:Int}:pU (.i k n)=true:=nr rfl
def KB(sh:List gR):List Up→List gR
 | []=>sh
 |(.L,_,_)::us=>KB sh us
 |(.S,k,e)::us=>KB (jP sh k e) us
theorem Eb: ∀(a:List Up) (sh:List gR) (b:List Up),KB sh (a++b)=KB (KB sh a) b
 | [],sh,b=>rfl
 |(.L,k,e)::a,sh,b=>Eb a sh b
 |(.S,k,e)::a,sh,b=>Eb a (jP sh k e) b
theorem Ii: ∀(us:List Up) (fr:Fr) (lh:hJ gR) (sh:List gR),((St.mk fr lh sh).ups us).sh=KB sh us
 | [],_,_,_=>rfl
 |(.L,k,e)::us,fr,lh,sh=>Ii us fr (pk lh k e) sh
 |(.S,k,e)::us,fr,lh,sh=>Ii us fr lh (jP sh k e)
def iT(lh:hJ gR)(v:T)(k sz n:Nat)(cs:List T):Prop:=
 (n=0∧v= .nilsl∧cs= [])∨(∃g wm,v= .isl .L k g 0 n sz∧a6 lh k=⟨g,.cells cs wm false⟩∧cs.length=n*sz∧0<n)
def lJ(n:Nat)(cs:List T):T:=if n=0 then .nilsl else .sl cs n false
theorem oA{n:Nat}{cs:List T}(h:n=0→cs= []):g8 (lJ n cs) n cs:=by
 unfold lJ
 split
 ·rename_i r;exact Or.inl ⟨rfl,r,h r⟩
 ·exact Or.inr ⟨false,rfl⟩
section
variable{lh:hJ gR}{sh:List gR}{v:T}{k sz n:Nat}{cs:List T}
theorem iT.nil:iT lh .nilsl k sz 0 []:=Or.inl ⟨rfl,rfl,rfl⟩
theorem iT.len(h:iT lh v k sz n cs):cs.length=n*sz:=by
 rcases h with⟨rfl,_,rfl⟩|⟨g,wm,_,_,h,_⟩
 ·simp
 ·exact h
theorem iT.isl(h:iT lh v k sz n cs):g8 (lJ n cs) n cs:=oA fun r=>by
 have:=h.len;rw[r,Nat.zero_mul]at this;exact List.length_eq_zero_iff.1 this
theorem iT.congr{r:hJ gR}(h:iT lh v k sz n cs)(e:a6 r k=a6 lh k):iT r v k sz n cs:=by
 rcases h with h|⟨g,wm,C,D,F,J⟩
 ·exact Or.inl h
 ·exact Or.inr ⟨g,wm,C,by rw[e,D],F,J⟩
theorem iT.notS(h:iT lh v k sz n cs):Ev.notS v=true:=by
 rcases h with⟨_,rfl,_⟩|⟨g,wm,rfl,_⟩ <;> rfl
theorem iT.lenI(h:iT lh v k sz n cs):Ev.lenI v=some (.i .i64 (n:Int)):=by
 rcases h with⟨rfl,rfl,_⟩|⟨g,wm,rfl,_⟩ <;> rfl
theorem iT.noTup(h:iT lh v k sz n cs):Ev.noTup v=true:=by
 rcases h with⟨_,rfl,_⟩|⟨g,wm,rfl,_⟩ <;> rfl
theorem iT.cells(h:iT lh v k sz n cs):cellsOf v= [v]:=by
 rcases h with⟨_,rfl,_⟩|⟨g,wm,rfl,_⟩ <;> rfl
def Ij(lh:hJ gR)(sh:List gR)(d sz bytes:Nat)(s x:T):T:=match Ev.appW lh sh d sz bytes s x with|some p=>p.1|none=>iY
def Ar(lh:hJ gR)(sh:List gR)(d sz bytes:Nat)(s x:T):hJ gR:=match Ev.appW lh sh d sz bytes s x with|some p=>p.2|none=>lh
theorem iT.appW{m bytes:Nat}{ps:List T}{x:T}(h:iT lh v k sz n cs)(K:Ev.slC lh sh sz x=some (m+1,ps))(D:ps.length=(m+1)*sz)(F:(n+(m+1))*bytes≤roomy):
  Ev.appW lh sh k sz bytes v x=some (Ij lh sh k sz bytes v x,Ar lh sh k sz bytes v x)∧iT (Ar lh sh k sz bytes v x) (Ij lh sh k sz bytes v x) k sz (n+(m+1)) (cs++ps)∧ ∀j,j≠k→a6 (Ar lh sh k sz bytes v x) j=a6 lh j:=by
 have N: ∃J r,Ev.appW lh sh k sz bytes v x=some (J,r)∧iT r J k sz (n+(m+1)) (cs++ps)∧ ∀j,j≠k→a6 r j=a6 lh j:=by
  unfold Ev.appW
  rw[K,Option.bind_some]
  rcases h with⟨rfl,rfl,rfl⟩|⟨g,wm,rfl,h2,h3,h4⟩
  ·rw[wM,if_pos (by simpa using F)]
   refine⟨_,_,rfl,Or.inr ⟨_,_,by rw[Nat.zero_add],tN _ _ _,by simpa using D,by omega⟩,fun j C=>jl _ _ C⟩
  ·rw[wN,h2,yK,if_pos ⟨rfl,rfl,F,rfl,h3.symm⟩]
   refine⟨_,_,rfl,Or.inr ⟨_,_,rfl,tN _ _ _,by rw[List.length_append,h3,D,Nat.add_mul n (m+1)],by omega⟩,fun j C=>jl _ _ C⟩
 grind [Ij,Ar]
def fzU(lh:hJ gR):T→List Up
 | .isl .L k g _ _ _=>match a6 lh k with|⟨_,.cells cs _ _⟩=> [(.L,k,⟨g,.cells cs cs.length false⟩)]|_=> []
 |_=> []
theorem Xu{sh:List gR}{lh:hJ gR}{v:T}:KB sh (fzU lh v)=sh:=by
 unfold fzU
 split
 ·split <;> rfl
 ·rfl
theorem iT.fzW{m:Nat}{keep:Bool}(h:iT lh v k sz n cs):Ev.fzW m lh sh keep v=some (lJ n cs,fzU lh v):=by
 rcases h with⟨rfl,rfl,rfl⟩|⟨g,wm,rfl,h2,h3,h4⟩
 ·rfl
 grind [lJ,fzU,Ic,vd,List.take_length]
theorem iT.fzV{keep:Bool}(h:iT lh v k sz n cs):Ev.fzV lh sh keep v=some (lJ n cs,fzU lh v):=by
 rcases h with⟨rfl,rfl,rfl⟩|⟨g,wm,rfl,h2,h3,h4⟩
 ·rfl
 grind [lJ,fzU,Pj,vd,List.take_length]
theorem rL{d:Nat}(h:iT lh v k sz n cs)(r:d=k):yL d v= [(.L,k)]:=by
 subst r
 rcases h with⟨_,rfl,_⟩|⟨g,wm,rfl,_⟩ <;> rfl
end
def R9(lh:hJ gR)(k i:Nat):T:=match a6 lh k with|⟨_,.cells cs _ _⟩=>cs.getD i iY|_=>iY
theorem Pv{lh:hJ gR}{k g wm i:Nat}{cs:List T}{bx:Bool}(h:a6 lh k=⟨g,.cells cs wm bx⟩):R9 lh k i=cs.getD i iY:=by unfold R9;rw[h]
theorem Ik{lh:hJ gR}{k g wm:Nat}{bx:Bool}{P:T→T→Prop}(h: ∃r C,a6 lh k=⟨g,.cells [r,C] wm bx⟩∧P r C):a6 lh k=⟨g,.cells [R9 lh k 0,R9 lh k 1] wm bx⟩∧P (R9 lh k 0) (R9 lh k 1):=by
 obtain⟨r,C,D,F⟩:=h
 rw[Pv D,Pv D]
 grind
def arC(sh:List gR)(ek:EK)(m k v:T):Option (List gR):=match m with| .mp .S kk g=>M7 sh kk (jr sh kk) g ek k v|_=>none
theorem Pw{sh:List gR}{ek:EK}{kk g:Nat}{k v:T}:arC sh ek (.mp .S kk g) k v=M7 sh kk (jr sh kk) g ek k v:=nr rfl
theorem arD{E:Env}{call:rh}{n:Nat}{fr:Fr}{lh:hJ gR}{sh:List gR}{os:List be}{ek:EK}{m k v:iz}(D:M8 (rd fr m)=true)(r:froz (rd fr v)=true):gV E call n (⟨none,.mu ek m k v,none⟩::os) ⟨fr,lh,sh⟩=ks (gV E call n os) fr ((arC sh ek (rd fr m) (rd fr k) (rd fr v)).map fun C=>(lh,C)):=by
 cases h:rd fr m with
 |mp sp kk g=>
  cases sp with
  |L=>grind [M8]
  |S=>
   rw[ary h r,Pw]
   cases M7 sh kk (jr sh kk) g ek (rd fr k) (rd fr v) <;> rfl
 |_=>grind [M8]
theorem g8.kept{v:T}{n:Nat}{cs:List T}(h:g8 v n cs):kept v=true:=by
 rcases h with⟨rfl,_,_⟩|⟨ex,rfl⟩ <;> rfl
end Go.Ev
namespace Go.Ev
open Go
theorem Sa(m:Nat)(F:m≤62)(a:Int):Ev.bin .and (.i .u64 a) (.i .u64 (2 ^ m-1))=some (.i .u64 (a%2 ^ m)):=by
 have C:(2:Int) ^ m=((2 ^ m:Nat):Int):=by norm_cast
 have Cz:0<2 ^ m:=Nat.two_pow_pos m
 have J:2 ^ m≤2 ^ 62:=Nat.pow_le_pow_right (by omega) F
 have r:(BitVec.ofInt 64 ((2:Int) ^ m-1)).toNat=2 ^ m-1:=by
  grind
 have D:(BitVec.ofInt 64 a &&& BitVec.ofInt 64 ((2:Int) ^ m-1)).toNat=(a%2 ^ m).toNat:=by
  rw[BitVec.toNat_and,r,Nat.and_two_pow_sub_one_eq_mod,BitVec.toNat_ofInt]
  have K:0≤a%((2 ^ 64:Nat):Int):=Int.emod_nonneg _ (by omega)
  have O:(a%((2 ^ 64:Nat):Int))%((2 ^ m:Nat):Int)=a%((2 ^ m:Nat):Int):=Int.emod_emod_of_dvd a (by
   have:(2 ^ m:Nat)∣2 ^ 64:=Nat.pow_dvd_pow 2 (by omega)
   exact Int.natCast_dvd_natCast.2 this)
  have U:(((a%((2 ^ 64:Nat):Int)).toNat%2 ^ m:Nat):Int)=a%((2 ^ m:Nat):Int):=by
   grind
  grind
 have V:(IntKind.u64).bits=64:=rfl
 simp only[Ev.bin,if_true,th]
 have N:0≤a%2 ^ m:=by rw[C];exact Int.emod_nonneg _ (by omega)
 have Rh:a%2 ^ m<2 ^ m:=by rw[C];exact Int.emod_lt_of_pos _ (by omega)
 grind [IntKind.wrap]
theorem ack{a:Int}:Ev.bin .and (.i .u64 a) (.i .u64 4294967295)=some (.i .u64 (a%4294967296)):=Sa 32 (by omega) a
theorem Xv{k':IntKind}{a:Int}{b:Nat}(h:b≤64):Ev.bin .shr (.i .u64 a) (.i k' (b:Int))=some (.i .u64 (a/2 ^ b)):=by
 rw[abT,if_neg (by omega),Int.toNat_natCast]
 have:min b (IntKind.u64).bits=b:=Nat.min_eq_left h
 grind
theorem acm{k':IntKind}{a:Int}:Ev.bin .shr (.i .u64 a) (.i k' 32)=some (.i .u64 (a/4294967296)):=Xv (b:=32) (by omega)
theorem acn{a b:Int}(r:a=0∨a=1)(C:b=0∨b=1):Ev.bin .and (.i .i64 a) (.i .i64 b)=some (.i .i64 (min a b)):=by
 rcases r with rfl|rfl <;> rcases C with rfl|rfl <;> rfl
theorem Xw{a b:Int}(r:a=0∨a=1)(C:b=0∨b=1):Ev.bin .or (.i .i64 a) (.i .i64 b)=some (.i .i64 (max a b)):=by
 rcases r with rfl|rfl <;> rcases C with rfl|rfl <;> rfl
def Xx(lh:hJ gR)(k:Nat):List T:=match a6 lh k with|⟨_,.cells cs _ _⟩=>cs|_=> []
theorem aco{lh:hJ gR}{k g wm:Nat}{cs:List T}{bx:Bool}(h:a6 lh k=⟨g,.cells cs wm bx⟩):Xx lh k=cs:=by unfold Xx;rw[h]
theorem Xy{lh:hJ gR}{k g wm:Nat}{bx:Bool}{P:List T→Prop}(h: ∃cs,a6 lh k=⟨g,.cells cs wm bx⟩∧P cs):a6 lh k=⟨g,.cells (Xx lh k) wm bx⟩∧P (Xx lh k):=by
 grind [aco]
end Go.Ev
set_option autoImplicit false
namespace Go.Ev
def yp(R:List T→Prop):Nat→List T→Prop
 |0,ts=>ts= []
 |n+1,ts=> ∃p r,ts=p++r∧R p∧yp R n r
def acp(R:TypeId→List T→Prop):List TypeId→List T→Prop
 | [],ts=>ts= []
 |f::C,ts=> ∃p r,ts=p++r∧R f p∧acp R C r
def kS(P:Program):Nat→TypeId→List T→Prop
 |0,_,_=>False
 |n+1,t,ts=>match P.underlying t with
  |some .bool=> ∃b,ts= [.b b]
  |some (.int k)=> ∃x,ts= [.i k x]
  |some .string=> ∃s,ts= [.s s]∧s.length≤reachBytes
  |some (.slice e)=> ∃v len r,ts= [v]∧g8 v len r∧len*P.bytesOf e≤reachBytes∧yp (kS P n e) len r
  |some (.struct C)=>acp (kS P n) (C.toList.map (·.type)) ts
  |some (.array m e)=>yp (kS P n e) m ts
  |_=>False
def KC(P:Program)(S:List TypeId):List Field→Nat→Nat→Bool
 | [],o,n=>o==n
 |f::r,o,n=>f.offset==o&&S.contains f.type&&KC P S r (o+P.cellsOf f.type) n
def aiX(P:Program)(S:List TypeId)(t:TypeId):Bool:=match P.underlying t with
 |some .bool=>true
 |some (.int _)=>true
 |some .string=>true
 |some (.slice e)=>S.contains e&&decide (0<P.cellsOf e)
 |some (.struct r)=>KC P S r.toList 0 (P.cellsOf t)
 |some (.array m e)=>S.contains e&&m*P.cellsOf e==P.cellsOf t
 |_=>false
def M0:im:=fun _ _=>False
theorem PList.cat{w:World}{M:im}: ∀{ts us:List T} {C xs:List Value},PList w M ts C→PList w M us xs→PList w M (ts++us) (C++xs)
 | [],us,C,xs,D,F=>by grind [PList]
 |t::ts,us,C,xs,D,F=>by
  simp only[PList]at D
  obtain⟨u,r,rfl,J,K⟩:=D
  simp only[List.cons_append,PList]
  exact⟨u,_,rfl,J,PList.cat K F⟩
variable{H:Type}{enc:TypeId×Value→H}{P:Program}{w:World}{base:Nat}{held:Bool}
theorem GK(b o i:Nat):(Addr.mk b o none).add i=⟨b,o+i,none⟩:=by
 grind [Addr.add]
theorem GL{w:World}{r:Nat}: ∀(ts:List T) (cs:List Value) (off:Nat),PList w M0 ts cs→ts.all single=true→(∀i v,cs[i]? =some v→w.cell? ⟨r,off+i,none⟩=some v)→iH w M0 r off ts
 | [],_,_,_,_,_=>by simp only[iH]
 |t::ts,cs,off,h,hs,C=>by
  simp only[PList]at h
  obtain⟨u,us,rfl,D,F⟩:=h
  simp only[List.all_cons,Bool.and_eq_true]at hs
  simp only[iH]
  refine⟨⟨u,C 0 u rfl,fun h=>h,D,hs.1⟩,GL ts us (off+1) F hs.2 fun i v J=> ?_⟩
  have:=C (i+1) v (by simpa using J)
  grind
theorem Ec{w:World}{r:Nat}: ∀{ts us:List T} {off:Nat},iH w M0 r off ts→iH w M0 r (off+ts.length) us→iH w M0 r off (ts++us)
 | [],_,_,_,D=>D
 |t::ts,us,off,C,D=>by
  simp only[iH]at C
  simp only[List.cons_append,iH]
  refine⟨C.1,Ec C.2 ?_⟩
  grind
theorem Xz{b o n:Nat}{cs:List Value}(h:w.cells? base ⟨b,o,none⟩ n=some cs):cs.length=n∧ ∀i v,cs[i]? =some v→w.cell? ⟨b,o+i,none⟩=some v:=by
 unfold World.cells? at h
 split at h
 ·have r:=mapM_some_length h
  rw[List.length_range]at r
  refine⟨r,fun i v C=> ?_⟩
  have hi:i<n:=by rw[←r];exact(List.getElem?_eq_some_iff.1 C).1
  have:=mapM_some_get h i i (by rw[List.getElem?_range hi])
  grind [GK]
 ·cases h
theorem GM{a:Addr}{n:Nat}{cs:List Value}(h:w.cells? base a n=some cs)(r:0<n):a.spot=none:=by
 unfold World.cells? at h
 split at h
 ·have C:=mapM_some_length h
  rw[List.length_range]at C
  have:=mapM_some_get h 0 0 (by rw[List.getElem?_range r])
  grind [List.getElem?_eq_getElem,Addr.add,World.cell?_spot]
 ·cases h
def kU(P:Program)(t:TypeId):Option (List TypeId):=match P.underlying t with
 |some (.struct r)=>some (r.toList.map (·.type))
 |_=>none
def Nb(P:Program)(t:TypeId):Option TypeId:=match P.underlying t with
 |some (.slice e)=>some e
 |_=>none
theorem kS.st{n:Nat}{t:TypeId}{l:List TypeId}{ts:List T}(h:kS P (n+1) t ts)(r:kU P t=some l):acp (kS P n) l ts:=by
 grind [kU,kS]
def XA(P:Program)(t:TypeId):Option (Nat×TypeId):=match P.underlying t with
 |some (.array m e)=>some (m,e)
 |_=>none
theorem kS.arr{n m:Nat}{t e:TypeId}{ts:List T}(h:kS P (n+1) t ts)(r:XA P t=some (m,e)):yp (kS P n e) m ts:=by
 grind [XA,kS]
theorem kS.row{n:Nat}{t e:TypeId}{ts:List T}(h:kS P (n+1) t ts)(C:Nb P t=some e): ∃v len r,ts= [v]∧g8 v len r∧len*P.bytesOf e≤reachBytes∧yp (kS P n e) len r:=by
 grind [Nb,kS]
end Go.Ev
set_option autoImplicit false
namespace Go.Ev
mutual
def wt:T→Nat
 | .s l=>l.length+1
 | .sl cs _ _=>By cs+1
 |_=>1
def By:List T→Nat
 | []=>0
 |t::ts=>wt t+By ts
end
theorem xC: ∀(a b:List T),By (a++b)=By a+By b
 | [],b=>by simp[By]
 |x::a,b=>by simp only[List.cons_append,By,xC a b];omega
structure BulkOk {H:Type} (B:DataW H→Nat) (BA:List (DataW H)→Nat):Prop where
 str: ∀b,b.length+1≤B (.lit (.string b))
 lit: ∀l,1≤B (.lit l)
 nil:1≤B .nil
 sl: ∀e s,BA e+1≤B (.slice e s)
 agg: ∀p,BA p≤B (.agg p)
 bcons: ∀d r,B d+BA r≤BA (d::r)
variable{H:Type}{enc:TypeId×Value→H}{P:Program}{w:World}{base:Nat}{held:Bool}{B:DataW H→Nat}{BA:List (DataW H)→Nat}
def TreeB(P:Program)(w:World)(n:Nat)(t:TypeId)(cs:List Value)(b:Nat):Prop:= ∃ts,PList w M0 ts cs∧ts.all single=true∧kS P n t ts∧By ts≤b
theorem As(J:BulkOk B BA){n:Nat}{S:List TypeId}{sp:Nat→Bool}
  (ih: ∀t cs d ps,t∈S→DataW.trod enc P w base sp held n t cs=some (d,ps)→(∀x∈d.weights P t,x≤reachBytes)→TreeB P w n t cs (B d)):
  ∀(C:List Field) (o m:Nat) (cs:List Value) (xs:List (DataW H×List MemPlace)),KC P S C o m=true→cs.length=m→
   (C.mapM fun f=>DataW.trod enc P w base sp held n f.type ((cs.drop f.offset).take (P.cellsOf f.type)))=some xs→
   (∀x∈DataW.weightsEach P (C.map (·.type)) (xs.map (·.1)),x≤reachBytes)→
   ∃ts,PList w M0 ts (cs.drop o)∧ts.all single=true∧acp (kS P n) (C.map (·.type)) ts∧By ts≤BA (xs.map (·.1))
 | [],o,m,cs,xs,D,K,r,F=>by
   simp[KC]at D
   refine⟨[], ?_,rfl,rfl,Nat.zero_le _⟩
   grind [PList,List.drop_length]
 |f::C,o,m,cs,xs,D,K,r,F=>by
  simp only[KC,Bool.and_eq_true,beq_iff_eq,List.contains_iff_mem]at D
  obtain⟨⟨h1,O⟩,U⟩:=D
  rw[List.mapM_cons]at r
  simp only[Option.bind_eq_bind,Option.bind_eq_some_iff,Option.pure_def,Option.some.injEq]at r
  obtain⟨⟨d,ps⟩,V,N,W,rfl⟩:=r
  simp only[List.map_cons,DataW.weightsEach,List.mem_append]at F
  obtain⟨ts,X,Y,Z,t4⟩:=ih _ _ _ _ O V fun x r=>F x (.inl r)
  obtain⟨us,u1,u2,u3,u4⟩:=As J ih C _ m cs N U K W fun x r=>F x (.inr r)
  refine⟨ts++us, ?_,by rw[List.all_append,Y,u2];rfl,⟨ts,us,rfl,Z,u3⟩, ?_⟩
  ·have:=X.cat u1
   grind [List.drop_drop,List.take_append_drop]
  ·rw[xC]
   have:=J.bcons d (N.map (·.1))
   grind
theorem Ed(F:BulkOk B BA){n:Nat}{e:TypeId}{c:Nat}{sp:Nat→Bool}{b o:Nat}
  (ih: ∀cs d ps,DataW.trod enc P w base sp held n e cs=some (d,ps)→(∀x∈d.weights P e,x≤reachBytes)→TreeB P w n e cs (B d)):
  ∀(len i:Nat) (xs:List (DataW H×List MemPlace)),
   ((List.range' i len).mapM fun i=>(w.cells? base ((Addr.mk b o none).add (i*c)) c).bind (DataW.trod enc P w base sp held n e))=some xs→
   (∀x∈DataW.weightsAll P e (xs.map (·.1)),x≤reachBytes)→ ∃C,iH w M0 b (o+i*c) C∧yp (kS P n e) len C∧By C≤BA (xs.map (·.1))
 |0,i,xs,h,r=>⟨[],by simp only[iH],rfl,Nat.zero_le _⟩
 |len+1,i,xs,h,r=>by
  rw[List.range'_succ,List.mapM_cons]at h
  simp only[Option.bind_eq_bind,Option.bind_eq_some_iff,Option.pure_def,Option.some.injEq]at h
  obtain⟨⟨d,ps⟩,⟨cs,J,O⟩,K,U,rfl⟩:=h
  simp only[List.map_cons,DataW.weightsAll,List.mem_append]at r
  obtain⟨ts,N,V,W,t4⟩:=ih _ _ _ O fun x D=>r x (.inl D)
  obtain⟨us,u1,X,u4⟩:=Ed F ih len (i+1) K U fun x D=>r x (.inr D)
  rw[GK]at J
  obtain⟨Y,Z⟩:=Xz J
  have hl:ts.length=c:=by rw[←Y];exact PList.length _ _ N
  refine⟨ts++us,Ec (GL ts cs _ N V Z) ?_,⟨ts,us,rfl,W,X⟩, ?_⟩
  ·grind
  ·rw[xC]
   have:=F.bcons d (K.map (·.1))
   grind
theorem GN(F:BulkOk B BA){n:Nat}{e:TypeId}{c:Nat}{sp:Nat→Bool}
  (ih: ∀cs d ps,DataW.trod enc P w base sp held n e cs=some (d,ps)→(∀x∈d.weights P e,x≤reachBytes)→TreeB P w n e cs (B d)):
  ∀(len i:Nat) (cs:List Value) (xs:List (DataW H×List MemPlace)),cs.length=(i+len)*c→
   ((List.range' i len).mapM fun i=>DataW.trod enc P w base sp held n e ((cs.drop (i*c)).take c))=some xs→
   (∀x∈DataW.weightsAll P e (xs.map (·.1)),x≤reachBytes)→ ∃ts,PList w M0 ts (cs.drop (i*c))∧ts.all single=true∧yp (kS P n e) len ts∧By ts≤BA (xs.map (·.1))
 |0,i,cs,xs,r,h,C=>⟨[],by simp only[PList];rw[Nat.add_zero]at r;rw[←r,List.drop_length],rfl,rfl,Nat.zero_le _⟩
 |len+1,i,cs,xs,r,h,C=>by
  rw[List.range'_succ,List.mapM_cons]at h
  simp only[Option.bind_eq_bind,Option.bind_eq_some_iff,Option.pure_def,Option.some.injEq]at h
  obtain⟨⟨d,ps⟩,K,J,N,rfl⟩:=h
  simp only[List.map_cons,DataW.weightsAll,List.mem_append]at C
  obtain⟨ts,O,U,V,Z⟩:=ih _ _ _ K fun x D=>C x (.inl D)
  obtain⟨us,W,X,Y,u4⟩:=GN F ih len (i+1) cs J (by rw[r];congr 1;omega) N fun x D=>C x (.inr D)
  refine⟨ts++us, ?_,by rw[List.all_append,U,X];rfl,⟨ts,us,rfl,V,Y⟩, ?_⟩
  ·have:=O.cat W
   grind [Nat.succ_mul,List.drop_drop,List.take_append_drop]
  ·rw[xC]
   have:=F.bcons d (J.map (·.1))
   grind
theorem trees_ofB(D:BulkOk B BA){S:List TypeId}(hS: ∀t∈S,aiX P S t=true): ∀(n:Nat) (t:TypeId) (cs:List Value) (d:DataW H) (ps:List MemPlace),t∈S→
  DataW.trod enc P w base (fun _=>true) held n t cs=some (d,ps)→(∀x∈d.weights P t,x≤reachBytes)→TreeB P w n t cs (B d)
 |0,t,cs,d,ps,_,h,_=>by simp[DataW.trod]at h
 |n+1,t,cs,d,ps,ht,h,N=>by
  have K:=hS t ht
  have ih:=fun t cs d ps=>trees_ofB D hS n t cs d ps
  unfold aiX at K
  unfold TreeB kS
  cases J:P.underlying t with
  |none=>grind
  |some u=>
  rw[J]at K
  cases u with
  |int k=>
   obtain⟨x,rfl,e,_⟩:=DataW.trod_int J h
   injection e with e1 e2
   subst e1
   exact⟨[.i k x],by simp only[PList,PRel];exact⟨_,_,rfl,rfl,rfl⟩,rfl,⟨x,rfl⟩,by simpa[By,wt]using D.lit _⟩
  |bool=>
   obtain⟨b,rfl,e⟩:=DataW.trod_bool J h
   injection e with e1 e2
   subst e1
   exact⟨[.b b],by simp only[PList,PRel];exact⟨_,_,rfl,rfl,rfl⟩,rfl,⟨b,rfl⟩,by simpa[By,wt]using D.lit _⟩
  |array m e=>
   simp only[Bool.and_eq_true,List.contains_iff_mem,beq_iff_eq]at K
   obtain⟨xs,n',F,r,C,O,Y⟩:=DataW.trod_array J h
   injection F with F
   subst F
   injection r with r _
   subst r
   simp only[DataW.weights,J]at N
   obtain⟨ts,Z,t2,t3,t4⟩:=GN D (enc:=enc) (base:=base) (held:=held) (c:=P.cellsOf e) (fun cs d ps=>ih e cs d ps K.1) m 0 cs xs (by rw[Nat.zero_add,C,K.2]) (mapM_some_of_get _ _ (by rw[O,List.length_range']) fun i x r=>by
    obtain⟨U,X⟩:=List.getElem?_eq_some_iff.1 r
    rw[List.length_range']at U
    rw[List.getElem_range',Nat.zero_add,Nat.one_mul]at X
    subst X
    exact Y i U) N
   exact⟨ts,by simpa using Z,t2,t3,Nat.le_trans t4 (D.agg _)⟩
  |string=>
   obtain⟨s,rfl,e,_⟩:=DataW.trod_string J h
   injection e with e1 e2
   subst e1
   refine⟨[.s (jT s)],by simp only[PList,PRel];exact⟨_,_,rfl,⟨s,rfl,rfl⟩,rfl⟩,rfl,⟨_,rfl, ?_⟩, ?_⟩
   ·simp_all[jT,DataW.weights,List.length_map]
   ·have:=D.str s.data.toList
    grind [By,wt,jT,List.length_map]
  |slice e=>
   simp only[Bool.and_eq_true,List.contains_iff_mem,decide_eq_true_eq]at K
   obtain⟨he,hc⟩:=K
   rcases DataW.trod_slice J h with⟨rfl,e0⟩|⟨⟨b,o,sp⟩,len,cap,elems,rest,n',F,rfl,r,_,hl,_,C,hel,hre,_⟩
   ·injection e0 with e1 e2
    subst e1
    exact⟨[.nilsl],by simp only[PList,PRel];exact⟨_,_,rfl,rfl,rfl⟩,rfl,⟨.nilsl,0,[],rfl,.inl ⟨rfl,rfl,rfl⟩,by simp,rfl⟩,by simpa[By,wt]using D.nil⟩
   ·injection F with F
    subst F
    injection r with r _
    subst r
    simp only[DataW.weights,J,List.mem_cons,List.mem_append,List.length_map]at N
    obtain⟨Rh,L2⟩:=hre rfl
    have CV:sp=none∨cap=0:=by
     by_cases h0:cap=0
     ·exact .inr h0
     ·left
      by_cases U:len=0
      ·have:=L2 0 (by omega)
       rw[U,List.getElem?_eq_getElem (by omega)]at this
       simp only[Nat.add_zero,Nat.zero_mul,Option.bind_eq_some_iff]at this
       obtain⟨c,V,_⟩:=this
       exact GM (a:=⟨b,o,sp⟩) (by simpa[Addr.add]using V) hc
      ·have:=hel 0 (by omega)
       rw[List.getElem?_eq_getElem (by omega)]at this
       simp only[Nat.zero_mul,Option.bind_eq_some_iff]at this
       obtain⟨c,V,_⟩:=this
       exact GM (a:=⟨b,o,sp⟩) (by simpa[Addr.add]using V) hc
    have aw6: ∃W,iH w M0 b o W∧yp (kS P n e) len W∧By W≤BA (elems.map (·.1)):=by
     rcases CV with rfl|h0
     ·have:=Ed D (base:=base) (enc:=enc) (held:=held) (c:=P.cellsOf e) (b:=b) (o:=o) (fun cs d ps=>ih e cs d ps he) len 0 elems
       (mapM_some_of_get _ _ (by rw[C,List.length_range']) fun i x r=>by
         obtain⟨U,X⟩:=List.getElem?_eq_some_iff.1 r
         rw[List.length_range']at U
         rw[List.getElem_range',Nat.zero_add,Nat.one_mul]at X
         subst X
         exact hel i U) fun x r=>N x (.inr (.inl r))
      simpa using this
     ·have:len=0:=by omega
      subst this
      exact⟨[],by simp only[iH],rfl,Nat.zero_le _⟩
    obtain⟨W,k1,k2,k3⟩:=aw6
    refine⟨[.sl W len false], ?_,rfl,⟨_,len,W,rfl,.inr ⟨false,rfl⟩, ?_,k2⟩, ?_⟩
    ·simp only[PList,PRel]
     exact⟨_,_,rfl,⟨b,o,cap,sp,rfl,hl,(fun h=>by cases h),CV,k1⟩,rfl⟩
    ·refine Nat.le_trans (Nat.mul_le_mul_right _ ?_) (N _ (.inl rfl))
     omega
    ·have:=D.sl (elems.map (·.1)) (rest.map (·.1))
     simp only[By,wt]
     omega
  |struct fs=>
   obtain⟨xs,n',F,r,C,O,Y⟩:=DataW.trod_struct J h
   injection F with F
   subst F
   injection r with r _
   subst r
   simp only[DataW.weights,J]at N
   obtain⟨ts,Z,t2,t3,t4⟩:=As D (enc:=enc) (base:=base) (held:=held) ih fs.toList 0 _ cs xs K C (mapM_some_of_get _ _ (by rw[O,Array.length_toList]) fun i x r=>Y i x (by simpa using r)) N
   exact⟨ts,by simpa using Z,t2,t3,Nat.le_trans t4 (D.agg _)⟩
  |_=>cases K
end Go.Ev
namespace Go.Ev
open Go
theorem acq{E:Env}{n:Nat}{os Fh:List be}{b:gT}{st W X J K:St}{o:Out}(N:gV E (gS E) n os st=some W)(O:gV E (gS E) n Fh st=some X)(U:DC E n b W=some (o,J))(V:DC E n b X=some (o,K))(hs:Dy (Be os++kJ b) J K):DC E n (.fork os Fh b) st=some (o,tD (Be os++kJ b) J K):=by
 rw[ko]
 obtain⟨r,N⟩:=xA os N
 obtain⟨C,O⟩:=xA Fh O
 obtain⟨D,U⟩:=ko.1 U
 obtain⟨F,V⟩:=ko.1 V
 have l1:r≤r+C+D+F:=by omega
 have l2:C≤r+C+D+F:=by omega
 have Y:D≤r+C+D+F:=by omega
 have Z:F≤r+C+D+F:=by omega
 refine⟨r+C+D+F, ?_⟩
 simp only[mT,mW (jw l1) os N,mW (jw l2) Fh O,kf (jw Y) Y b U,kf (jw Z) Z b V,OK]
 grind
theorem XB{E:Env}{n:Nat}{os Fh:List be}{b:gT}{fr f1 f2:Fr}{lh D J:hJ gR}{sh F:List gR}{N O:St}(K:Be Fh=Be os)(U:gV E (gS E) n os ⟨fr,lh,sh⟩=some N)(V:gV E (gS E) n Fh ⟨fr,lh,sh⟩=some O)(W:DC E n b N=some (.nrm,⟨f1,D,F⟩))(X:DC E n b O=some (.nrm,⟨f2,J,F⟩))(hO: ∀k,k∉Be os++kJ b→a6 D k=a6 J k):
  ∃(Y:Fr) (Z:hJ gR),DC E n (.fork os Fh b) ⟨fr,lh,sh⟩=some (.nrm,⟨Y,Z,F⟩)∧(∀k,k∉Be os++kJ b→an Y k=an fr k)∧ ∀k,k∉Be os++kJ b→a6 Z k=a6 D k:=by
 have p: ∀{r:List be} {s:St} {f:Fr} {l:hJ gR},Be r=Be os→gV E (gS E) n r ⟨fr,lh,sh⟩=some s→DC E n b s=some (.nrm,⟨f,l,F⟩)→ ∀k,k∉Be os++kJ b→an f k=an fr k:=by
  intro r s f l K h g k C
  simp only[List.mem_append,not_or]at C
  have a:=lW g k (by simpa using C.2)
  have c:=vb r h k (by rw[K];exact C.1)
  exact a.trans c
 have Ee:=p rfl U W
 have XC:=p K V X
 refine⟨_,_,acq U V W X ⟨rfl,fun k C=>(Ee k C).trans (XC k C).symm,hO⟩,fun k C=> ?_,fun k C=> ?_⟩
 ·grind [tL]
 ·show hJ.get lA (Dx _ D J) k=_
  rw[GB,if_neg C];rfl
def sJ:gT→gT
 | .fork os _ b=> .seq (.region os) b
 |c=>c
def sL:gT→gT
 | .fork _ Fh b=> .seq (.region Fh) b
 |c=>c
def acr:gT→Bool
 | .fork os Fh _=>decide (Be Fh=Be os)
 |_=>false
theorem Ef{E:Env}{n:Nat}{os:List be}{b:gT}{st t:St}{o:Out}(h:DC E n (.seq (.region os) b) st=some (o,t)): ∃s,gV E (gS E) n os st=some s∧DC E n b s=some (o,t):=by
 rw[Wm,GD]at h
 cases hs:gV E (gS E) n os st with
 |none=>rw[hs]at h;cases h
 |some s=>rw[hs]at h;exact⟨s,rfl,h⟩
theorem acs{E:Env}{n:Nat}{c:gT}{fr V W:Fr}{lh r O:hJ gR}{sh C:List gR}(U:acr c=true)(D:DC E n (sJ c) ⟨fr,lh,sh⟩=some (.nrm,⟨V,r,C⟩))(F:DC E n (sL c) ⟨fr,lh,sh⟩=some (.nrm,⟨W,O,C⟩))(X: ∀k,(kJ c).contains k=false→a6 r k=a6 O k):
  ∃(J:Fr) (K:hJ gR),DC E n c ⟨fr,lh,sh⟩=some (.nrm,⟨J,K,C⟩)∧(∀k,(kJ c).contains k=false→an J k=an fr k)∧ ∀k,(kJ c).contains k=false→a6 K k=a6 r k:=by
 cases c with
 |fork os Fh b=>
  obtain⟨s1,Y,D⟩:=Ef D
  obtain⟨s2,Z,F⟩:=Ef F
  have N: ∀k,(kJ (.fork os Fh b)).contains k=false↔k∉Be os++kJ b:=by
   intro k
   show(Be os++kJ b).contains k=false↔_
   simp
  obtain⟨J,K,q1,q2,q3⟩:=XB (of_decide_eq_true U) Y Z D F (fun k hk=>X k ((N k).2 hk))
  grind
 |_=>cases U
section
variable{k:IntKind}{a b:Int}{s t:List Nat}
theorem bnd{p:Prop}[Decidable p]:(some (T.b (decide p)):Option T)=if p then some (.b true)else some (.b false):=by grind
theorem aw7{p:Prop}[Decidable p]:(some (T.b (!decide p)):Option T)=if p then some (.b false)else some (.b true):=by grind
theorem XD:Ev.bin .eql (.i k a) (.i k b)=if a=b then some (.b true)else some (.b false):=Pn.trans bnd
theorem XE:Ev.bin .neq (.i k a) (.i k b)=if a=b then some (.b false)else some (.b true):=Po.trans aw7
theorem XF:Ev.bin .lss (.i k a) (.i k b)=if a<b then some (.b true)else some (.b false):=Pp.trans bnd
theorem XG:Ev.bin .leq (.i k a) (.i k b)=if a≤b then some (.b true)else some (.b false):=Pq.trans bnd
theorem XH:Ev.bin .gtr (.i k a) (.i k b)=if b<a then some (.b true)else some (.b false):=Pr.trans bnd
theorem XI:Ev.bin .geq (.i k a) (.i k b)=if b≤a then some (.b true)else some (.b false):=Ps.trans bnd
theorem Sb:Ev.bin .eql (.s s) (.s t)=if s=t then some (.b true)else some (.b false):=Kr.trans bnd
end
def Gd(I:St→Prop)(R:Out→St→Prop)(x:Option (Out×St)):Prop:= ∃o st,x=some (o,st)∧((o= .nrm∧I st)∨(o≠ .nrm∧R o st))
section
variable{I:St→Prop}{R:Out→St→Prop}{p:Prop}[Decidable p]{x y:Option (Out×St)}{st:St}{i:Nat}
theorem vh(r:p→Gd I R x)(C: ¬p→Gd I R y):Gd I R (if p then x else y):=by grind
theorem iN(h:I st):Gd I R (some (.nrm,st)):=⟨_,_,rfl,.inl ⟨rfl,h⟩⟩
theorem jD(h:R (.ext i) st):Gd I R (some (.ext i,st)):=⟨_,_,rfl,.inr ⟨by simp,h⟩⟩
theorem vi(h:R .ret st):Gd I R (some (.ret,st)):=⟨_,_,rfl,.inr ⟨by simp,h⟩⟩
end
theorem jo{E:Env}{n:Nat}{a:gT}(I:Nat→St→Prop)(P:Fr→hJ gR→List gR→Prop)(o:Out)(N:Nat)
  (step: ∀k st,k<N→I k st→Gd (I (k+1)) (fun o' r=>o'=o∧P r.fr r.lh r.sh) (DC E n a st))
  (C: ∀st,I N st→Gd (fun _=>False) (fun o' r=>o'=o∧P r.fr r.lh r.sh) (DC E n a st)) (fr:Fr) (lh:hJ gR) (sh:List gR) (D:I 0 ⟨fr,lh,sh⟩):
  DC E n (.loop a) ⟨fr,lh,sh⟩=some (o,⟨kh E n a fr lh sh,kH E n a fr lh sh,kb E n a fr lh sh⟩)∧P (kh E n a fr lh sh) (kH E n a fr lh sh) (kb E n a fr lh sh):=by
 refine ib (ij I _ N (fun k st F hi=> ?_) (fun st hi=> ?_) 0 _ (Nat.zero_le _) D)
 ·obtain⟨o',r,e,h|h⟩:=step k st F hi
  ·grind
  ·grind
 ·obtain⟨o',r,e,h|h⟩:=C st hi
  ·exact h.2.elim
  ·grind
end Go.Ev
namespace Go.Ev
open Go
theorem hJ.put_self{α:Type}{d v:α}(C:v≠d): ∀{f:Nat} {t:hJ α} {n:Nat},n<f→hJ.get d t n=v→hJ.put d f t n v=t
 |0,t,n,h,_=>by omega
 |f+1,.nil,n,_,e=>absurd e.symm (by rw[hJ.get_nil];exact C)
 |f+1,.nd w l r,0,_,e=>by unfold hJ.get at e;simp only at e;rw[e];unfold hJ.put;rfl
 |f+1,.nd w l r,k+1,h,e=>by
  unfold hJ.get at e;simp only at e
  unfold hJ.put;simp only
  have D:k/2<f:=by omega
  cases F:Nat.beq (k%2) 0 <;> rw[F]at e <;> simp only[cond_true,cond_false]at e ⊢ <;> rw[hJ.put_self C D e]
theorem Sc{fr:Fr}{k:Nat}{v:T}(h:an fr k=v)(r:v≠iY):kj fr k v=fr:=hJ.put_self r (Nat.lt_succ_self k) h
theorem qM{E:Env}{f:Nat}{a:List T}{sh r:List gR}{b:Bool}(h:gS E f a sh=some (.b b,r)):gS E f a sh=if b=true then some (.b true,r)else some (.b false,r):=by cases b <;> simpa using h
section
variable{I:St→Prop}{R:Out→St→Prop}{p:Prop}[Decidable p]{x y:Option (Out×St)}{st:St}{i:Nat}
theorem gdI:Gd I R (if p then x else y)=((p→Gd I R x)∧(¬p→Gd I R y)):=propext (by by_cases h:p <;> simp[h])
theorem gdN:Gd I R (some (.nrm,st))=I st:=propext ⟨fun⟨_,_,e,h⟩=>by cases e;exact h.elim (·.2) (fun h=>absurd rfl h.1),iN⟩
theorem gdX:Gd I R (some (.ext i,st))=R (.ext i) st:=propext ⟨fun⟨_,_,e,h⟩=>by cases e;exact h.elim (fun h=>by cases h.1) (·.2),jD⟩
theorem gdR:Gd I R (some (.ret,st))=R .ret st:=propext ⟨fun⟨_,_,e,h⟩=>by cases e;exact h.elim (fun h=>by cases h.1) (·.2),vi⟩
end
section
variable{E:Env}{n:Nat}{a:gT}{m:Nat}{fr:Fr}{lh:hJ gR}{sh:List gR}
abbrev Lp(E:Env)(n:Nat)(a:gT)(fr:Fr)(lh:hJ gR)(sh:List gR)(o:Out)(P:Fr→hJ gR→List gR→Prop):Prop:=DC E n (.loop a) ⟨fr,lh,sh⟩=some (o,⟨kh E n a fr lh sh,kH E n a fr lh sh,kb E n a fr lh sh⟩)∧P (kh E n a fr lh sh) (kH E n a fr lh sh) (kb E n a fr lh sh)
theorem XJ{b:gT}{st r:St}{o:Out}(D:pB (kJ (.loop b))=m)(h:DC E n b st=some (o,r)){s:Nat}(hs:(m >>> s)%2=0):an r.fr s=an st.fr s:=by
 refine lW h s ?_
 show(kJ (.loop b)).contains s=false
 cases F:(kJ (.loop b)).contains s with
 |false=>rfl
 |true=>
  have C:=Ib s _ (List.contains_iff_mem.1 F)
  rw[D,Nat.testBit,Nat.and_comm,Nat.and_one_is_mod,hs]at C
  simp at C
theorem aiZ(D:pB (kJ (.loop a))=m)(I:Nat→Fr→hJ gR→List gR→Prop){P:Fr→hJ gR→List gR→Prop}{o:Out}(N:Nat)(F:I 0 fr lh sh)
  (step: ∀k f l s,k<N→(∀j,(m >>> j)%2=0→an f j=an fr j)→I k f l s→Gd (fun t=>I (k+1) t.fr t.lh t.sh) (fun o' t=>o'=o∧P t.fr t.lh t.sh) (DC E n a ⟨f,l,s⟩))
  (r: ∀f l s,(∀j,(m >>> j)%2=0→an f j=an fr j)→I N f l s→Gd (fun _=>False) (fun o' t=>o'=o∧P t.fr t.lh t.sh) (DC E n a ⟨f,l,s⟩)):
  Lp E n a fr lh sh o P:=by
 refine jo (fun k st=>(∀j,(m >>> j)%2=0→an st.fr j=an fr j)∧I k st.fr st.lh st.sh) P o N (fun k st J hi=> ?_) (fun st hi=>r _ _ _ hi.1 hi.2) fr lh sh ⟨fun _ _=>rfl,F⟩
 obtain⟨o',K,e,h⟩:=step k _ _ _ J hi.1 hi.2
 exact⟨o',K,e,h.imp (fun h=>⟨h.1,fun j C=>(XJ D e C).trans (hi.1 j C),h.2⟩) id⟩
abbrev Px(E:Env)(n:Nat)(a:gT)(fr:Fr)(lh:hJ gR)(sh:List gR)(e s:Nat)(r:Int)(Q:hJ gR→List gR→Prop):Prop:=DC E n (.loop a) ⟨fr,lh,sh⟩=(if r=0 then some (.ext e,⟨kh E n a fr lh sh,kH E n a fr lh sh,kb E n a fr lh sh⟩)else some (.ret,⟨kj (kh E n a fr lh sh) s (.i .i64 r),kH E n a fr lh sh,kb E n a fr lh sh⟩))∧Q (kH E n a fr lh sh) (kb E n a fr lh sh)
theorem pq(D:pB (kJ (.loop a))=m){e s:Nat}{r:Int}(I:Nat→Fr→hJ gR→List gR→Prop){Q:hJ gR→List gR→Prop}(N:Nat)(F:I 0 fr lh sh)
  (step: ∀k f l h,k<N→(∀j,(m >>> j)%2=0→an f j=an fr j)→I k f l h→Gd (fun t=>I (k+1) t.fr t.lh t.sh) (fun o' t=>o'= .ret∧r≠0∧an t.fr s= .i .i64 r∧Q t.lh t.sh) (DC E n a ⟨f,l,h⟩))
  (C: ∀f l h,(∀j,(m >>> j)%2=0→an f j=an fr j)→I N f l h→Gd (fun _=>False) (fun o' t=>o'= .ext e∧r=0∧Q t.lh t.sh) (DC E n a ⟨f,l,h⟩)):
  Px E n a fr lh sh e s r Q:=by
 obtain⟨J,K,O⟩:=aiZ D I (P:=fun f l h=>(r≠0→an f s= .i .i64 r)∧Q l h) (o:=if r=0 then .ext e else .ret) N F
  (fun k f l h U p i=>by
    obtain⟨o',t,x,y⟩:=step k f l h U p i
    exact⟨o',t,x,y.imp id fun⟨a,b,c,d,g⟩=>⟨a,by rw[if_neg c];exact b,fun _=>d,g⟩⟩)
  (fun f l h p i=>by
    obtain⟨o',t,x,y⟩:=C f l h p i
    exact⟨o',t,x,y.imp id fun⟨a,b,c,d⟩=>⟨a,by rw[if_pos c];exact b,fun z=>absurd c z,d⟩⟩)
 refine⟨?_,O⟩
 rw[J]
 split
 ·rfl
 ·rename_i V;rw[Sc (K V) (by unfold iY;simp)]
end
end Go.Ev
