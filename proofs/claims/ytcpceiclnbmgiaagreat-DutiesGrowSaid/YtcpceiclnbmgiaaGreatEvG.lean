/- A tree evaluator over the model, proved against it (part G): where it answers, the call returns that answer. Conditions: none beyond its theorems' own. -/
import Derived.Test.YtcpceiclnbmgiaaGreatEvF
set_option linter.unusedSimpArgs false
set_option linter.unusedVariables false
namespace Go.Ev
open Go
def kept1:T→Bool
 | .isl .S .. | .ptr .S .. | .mp .S .. =>true
 |t=>froz1 t
def kept:T→Bool
 | .agg cs=>cs.all kept1
 | .tup cs=>cs.all kept1
 | .fn _ a c=>a.all kept1&&c.all kept1
 |t=>kept1 t
theorem JZ{n:Nat}{t:T}(h:kept1 t=true):fz true (n+1) t= .ret (t,[]):=by
 cases t with
 |isl sp k g off len sz=>cases sp with|S=>rfl|L=>simp[kept1,froz1]at h
 |ptr sp k g off=>cases sp with|S=>rfl|L=>simp[kept1,froz1]at h
 |mp sp k g=>cases sp with|S=>rfl|L=>simp[kept1,froz1]at h
 |_=>exact ph h
theorem qv{n:Nat}: ∀(ts:List T),ts.all kept1=true→iL (fz true (n+1)) ts= .ret (ts,[])
 | [],_=>rfl
 |t::ts,h=>by
  simp_all[List.all_cons,Bool.and_eq_true,iL,JZ,qv,Q.bind,List.append_nil]
theorem BS{n:Nat}{t:T}(h:kept t=true):fz true (n+2) t= .ret (t,[]):=by
 cases t with
 |agg cs=>simp only[kept]at h;rw[G3,qv cs h];rfl
 |tup cs=>simp only[kept]at h;rw[L9,qv cs h];rfl
 |fn f a c=>simp only[kept,Bool.and_eq_true]at h;rw[UW,qv a h.1,qv c h.2];rfl
 |_=>exact JZ h
theorem Aj{n:Nat}: ∀(ts:List T),ts.all kept=true→iL (fz true (n+2)) ts= .ret (ts,[])
 | [],_=>rfl
 |t::ts,h=>by
  simp_all[List.all_cons,Bool.and_eq_true,iL,BS,Aj,Q.bind,List.append_nil]
theorem ahR{k:IntKind}{n:Int}:kept (.i k n)=true:=nr rfl
theorem ahS{l:List Nat}:kept (.s l)=true:=nr rfl
theorem abt{cs:List T}:kept (.vp cs)=true:=nr rfl
theorem VU{k g off:Nat}:kept (.ptr .S k g off)=true:=nr rfl
theorem yo{k g:Nat}:kept (.mp .S k g)=true:=nr rfl
theorem VV{cs:List T}:kept (.agg cs)=cs.all kept1:=nr rfl
theorem abu{k:IntKind}{n:Int}:kept1 (.i k n)=true:=nr rfl
theorem abv{l:List Nat}:kept1 (.s l)=true:=nr rfl
theorem J0:kept1 .nilmp=true:=nr rfl
theorem VW{k g:Nat}:kept1 (.mp .S k g)=true:=nr rfl
theorem J1{t:T}(h:froz1 t=true):kept1 t=true:=by cases t <;> first|rfl|(simp[froz1]at h)
section
variable{E:Env}{call:pw}{n:Nat}{fr:Fr}{lh:gW b8}{sh:List b8}{os:List dy}{d:Nat}
theorem VY{v:T}(h:kept v=true):fzV lh sh true v=some (v,[]):=by
 unfold fzV iq;rw[BS h];rfl
theorem Qq{D:Nat}{af:gP}{f:Nat}{args:List T}(F:E.fn f=some af)(H:af.eff=true)(J:args.all kept=true):iR E call D ⟨fr,lh,sh⟩ f args=
  (call f args sh).bind fun r=>some (r.1,⟨fr,lh,r.2⟩):=by
 unfold iR
 simp only[F,H,if_true]
 unfold iq
 rw[Aj args J]
 simp only[Q.run,BO]
 cases call f args sh <;> rfl
theorem ahT{x:im}(D:d<n)(r:noTup (rd fr x)=true)(hk:kept (rd fr x)=true):dE E call n (⟨some d,.box x true,none⟩::os) ⟨fr,lh,sh⟩=dE E call n os ⟨jV fr d (.ptr .S sh.length 1 0),lh,iu sh sh.length ⟨1,.cells (cellsOf (rd fr x)) 0 true⟩⟩:=by
 rw[pg (by rfl) (show Eu n (some d)from D)]
 unfold one
 simp only[iX,r,Bool.not_true,Bool.false_eq_true,if_false,if_true]
 unfold iq
 rw[BS hk]
 simp only[Q.bind,List.isEmpty_nil,r,Bool.and_self,if_true]
 rfl
theorem VZ{k g off m:Nat}{v:T}(e:b8)(r: ∀cs wm bx,e.ob= .cells cs wm bx→bx=true)(H:(cellsOf v).length=m)(J:noTup v=true)(K:kept v=true):mY lh sh (Q.run (St.mk .nil lh sh).get sh.length (JX k g off m v e))=Dw lh sh k e g off v m:=by
 obtain⟨N,ob⟩:=e
 unfold Dw JX
 by_cases O:N=g
 ·subst O
  cases ob with
  |none=>simp[Q.run,mY]
  |map ks V z=>simp[Q.run,mY]
  |cells cs wm bx=>
   have LN:=r cs wm bx rfl
   subst LN
   by_cases r:wm≤off∧off+m≤cs.length
   ·have D:(decide (wm≤off)&&decide (off+m≤cs.length))=true:=by simp[r.1,r.2]
    have LN:(true&&Sp.S==Sp.L)=false:=rfl
    have F:(true&&Sp.S==Sp.S)=true:=rfl
    unfold iq
    simp only[if_true,D,LN,F,Bool.false_eq_true,if_false]
    rw[BS K]
    have U:(oB [] Sp.S k|| !noTup v||decide ((cellsOf v).length≠m))=false:=by simp[oB,H,J]
    simp only[Q.bind,U,Bool.false_eq_true,if_false,Q.run,mY]
    rw[if_pos ⟨trivial,H,J,r⟩]
    rfl
   grind [Bool.false_eq_true,Q.run,mY]
 grind [Q.run,mY]
theorem nl{k g r off m wm:Nat}{cs:List T}{v:T}(H:kept v=true)(J:gY sh k=⟨r,.cells cs wm true⟩):stV lh sh (.ptr .S k g off) v m=Dw lh sh k ⟨r,.cells cs wm true⟩ g off v m:=by
 by_cases D:(cellsOf v).length=m
 ·cases F:noTup v with
  |false=>
   grind [stV,ry,Dw,Q.run]
  |true=>
   unfold stV ry
   have:(decide ((cellsOf v).length≠m)|| !noTup v)=false:=by simp[D,F]
   simp only[this,Bool.false_eq_true,if_false]
   have:=VZ (lh:=lh) (sh:=sh) (k:=k) (g:=g) (off:=off) ⟨r,.cells cs wm true⟩ (by intro a b c h;cases h;rfl) D F H
   rw[←this,←J]
   rfl
 grind [stV,ry,Dw,Q.run]
def Mm(sh:List b8)(kk:Nat)(e:b8)(g:Nat)(ek:EK)(k v:T):Option (List b8):=
 match e with
 |⟨r,.map ks D false⟩=>if r=g∧isKey ek k=true then(qj ek k v ks D).map fun q=>iu sh kk ⟨g,.map q.1 q.2 false⟩else none
 |_=>none
theorem V0{kk g r:Nat}{ek:EK}{k v:T}{ks D:List T}:Mm sh kk ⟨r,.map ks D false⟩ g ek k v=if r=g∧isKey ek k=true then(qj ek k v ks D).map fun q=>iu sh kk ⟨g,.map q.1 q.2 false⟩else none:=rfl
def abw(kk g:Nat)(ek:EK)(k v:T)(e:b8):Q CN:=if e.g=g&&isKey ek k then match e.ob with
      | .map ks r false=>(fz false iq v).bind fun p=>match qj ek k p.1 ks r with
        |some q=>if oB p.2 .S kk then .fail else .ret (.val iG (p.2++ [(.S,kk,⟨g,.map q.1 q.2 false⟩)]))
        |none=> .fail
      |_=> .fail
     else .fail
theorem abx{kk g:Nat}{ek:EK}{k v:T}(e:b8)(H:froz v=true):((pQ (Q.run (St.mk fr lh sh).get sh.length (abw kk g ek k v e))).bind fun r=>dE E call n os {(St.mk fr lh sh).ups r.2 with fr:=fr})=
  (Mm sh kk e g ek k v).bind fun J=>dE E call n os ⟨fr,lh,J⟩:=by
 obtain⟨F,ob⟩:=e
 unfold abw Mm
 by_cases D:F=g∧isKey ek k=true
 ·have:(decide (F=g)&&isKey ek k)=true:=by simp[D.1,D.2]
  simp only[this,if_true]
  cases ob with
  |none=>rfl
  |cells cs wm bx=>rfl
  |map ks K z=>
   cases z with
   |true=>rfl
   |false=>
    simp only[if_pos D]
    unfold iq
    rw[oX H]
    simp only[Q.bind]
    cases qj ek k v ks K with
    |none=>rfl
    |some q=>simp only[oB,List.any_nil,Bool.false_eq_true,if_false,Q.run,List.nil_append];rfl
 grind [Bool.false_eq_true,Q.run,pQ]
theorem arS{ek:EK}{m k v:im}{kk g:Nat}(r:rd fr m= .mp .S kk g)(D:froz (rd fr v)=true):dE E call n (⟨none,.mu ek m k v,none⟩::os) ⟨fr,lh,sh⟩=(Mm sh kk (gY sh kk) g ek (rd fr k) (rd fr v)).bind fun F=>dE E call n os ⟨fr,lh,F⟩:=by
 rw[pg (by rfl) (show Eu n none from trivial)]
 unfold one
 simp only[iX,r]
 exact abx (gY sh kk) D
end
section
variable{E:Env}{call:pw}{n:Nat}{fr:Fr}{lh:gW b8}{sh:List b8}{ds:List (List Nat×dy)}{jl:List FP}{u:List Nat}{d:Option Nat}
def Mn:T→Bool
 | .mp .S .. =>true
 |_=>false
theorem aby{k g:Nat}:Mn (.mp .S k g)=true:=nr rfl
theorem arT{ek:EK}{m k v:im}(hx:Mn (rd fr m)=true)(D:froz (rd fr v)=true):iw E call n ((u,⟨none,.mu ek m k v,none⟩)::ds) jl ⟨fr,lh,sh⟩=
  if meets u jl ⟨false,su (rd fr m),su (rd fr m)⟩=true then ke E call n ds (jl++ [⟨false,su (rd fr m),su (rd fr m)⟩]) (dE E call n [⟨none,.mu ek m k v,none⟩] ⟨fr,lh,sh⟩)else none:=by
 refine sk fun F=> ?_
 cases Ew:rd fr m with
 |mp sp kk g=>
  cases sp with
  |L=>grind [Mn]
  |S=>
   obtain⟨w,H,hr,r⟩:=tU (q:= .rd .S kk (abw kk g ek (rd fr k) (rd fr v))) (by rfl) (by rw[ko];simp only[iX,Ew];rfl) F
   simp only[Q.run,Q.log,Q.asks]at hr r
   have Ot:(St.mk fr lh sh).get .S kk=gY sh kk:=rfl
   rw[Ot]at hr r
   generalize J:gY sh kk=e at hr r
   obtain⟨K,ob⟩:=e
   unfold abw at hr r
   by_cases N:(decide (K=g)&&isKey ek (rd fr k))=true
   ·simp only[N,if_true]at hr r
    cases ob with
    |none=>simp[Q.run]at hr
    |cells cs wm bx=>simp[Q.run]at hr
    |map ks V O=>
     cases O with
     |true=>simp[Q.run]at hr
     |false=>
      simp only[]at hr r
      unfold iq at hr r
      rw[oX D]at hr r
      simp only[Q.bind]at hr r
      split at hr
      ·rename_i q U
       simp only[oB,List.any_nil,Bool.false_eq_true,if_false,Q.run,Option.some.injEq,CN.val.injEq]at hr
       obtain⟨rfl,rfl⟩:=hr
       rw[U]at r
       simp only[oB,List.any_nil,Bool.false_eq_true,if_false]at r
       refine r ?_
       simp only[Q.asks,Bool.false_or,inB,List.nil_append,List.all_cons,List.all_nil,Bool.and_true]
       rw[Ot,J]
       rfl
      ·simp[Q.run]at hr
   grind [Bool.false_eq_true,Q.run]
 |_=>grind [Mn]
def Fu:FP:=⟨true,[],[]⟩
theorem Zx{f:Nat}{af:gP}{as:List im}(r:E.fn f=some af)(D:af.eff=true)(F:(as.map (rd fr)).all kept=true):
  iw E call n ((u,⟨d,.callf f as,none⟩)::ds) jl ⟨fr,lh,sh⟩=if meets u jl Fu=true then ke E call n ds (jl++ [Fu]) (dE E call n [⟨d,.callf f as,none⟩] ⟨fr,lh,sh⟩)else none:=by
 refine sk fun J=> ?_
 unfold jy
 have H:jd (St.mk fr lh sh).rho (.callf f as)=some (some (f,as.map (rd fr))):=by rw[ko];rfl
 simp only[H]
 unfold lD
 simp only[r,D]
 unfold iq
 rw[Aj _ F]
 simp only[Q.run,Q.log,inB,List.all_nil,Bool.not_true,Bool.false_eq_true,if_false,if_true,jX,List.map_nil]
 rfl
theorem J2{rs r:List (Sp×Nat)}:apart ⟨false,rs,r⟩ Fu=(Lk rs&&Lk r):=by
 grind [apart,Fu,lW]
theorem abz:Lk []=true:=nr rfl
theorem arU{k:Nat}{xs:List (Sp×Nat)}:Lk ((.L,k)::xs)=Lk xs:=nr rfl
end
end Go.Ev
namespace Go.Ev
open Go
section
variable{E:Env}{n:Nat}{a:fx}
theorem jR(I:Nat→St→Prop)(R:Out→St→Prop)(N:Nat)
  (step: ∀k st,k<N→I k st→(∃iQ,DC E n a st=some (.nrm,iQ)∧I (k+1) iQ)∨(∃o iQ,o≠ .nrm∧DC E n a st=some (o,iQ)∧R o iQ))
  (D: ∀st,I N st→ ∃o iQ,o≠ .nrm∧DC E n a st=some (o,iQ)∧R o iQ):
  ∀(k:Nat) (st:St),k≤N→I k st→ ∃o iQ,DC E n (.loop a) st=some (o,iQ)∧R o iQ:=by
 have r: ∀{st o iQ},o≠ .nrm→DC E n a st=some (o,iQ)→DC E n (.loop a) st=some (o,iQ):=by
  intro st o iQ H h
  rw[BM,h]
  cases o with
  |nrm=>grind
  |ext id=>rfl
  |ret=>rfl
 have F: ∀(m k:Nat) (st:St),N-k=m→k≤N→I k st→ ∃o iQ,DC E n (.loop a) st=some (o,iQ)∧R o iQ:=by
  intro m
  induction m with
  |zero=>
   intro k st J hk h
   have:k=N:=by omega
   grind
  |succ m ih=>
   grind [BM,nw]
 grind
theorem jv{fr:Fr}{lh:gW b8}{sh:List b8}{o:Out}{P:Fr→gW b8→List b8→Prop}
  (h: ∃o' r,DC E n (.loop a) ⟨fr,lh,sh⟩=some (o',r)∧o'=o∧P r.fr r.lh r.sh):
  DC E n (.loop a) ⟨fr,lh,sh⟩=some (o,⟨tT E n a fr lh sh,nE E n a fr lh sh,oi E n a fr lh sh⟩)∧P (tT E n a fr lh sh) (nE E n a fr lh sh) (oi E n a fr lh sh):=by
 obtain⟨o',r,D,rfl,F⟩:=h
 exact QY ⟨r.fr,r.lh,r.sh,D,F⟩
end
theorem IsSl.kept1{v:T}{n:Nat}{cs:List T}(h:IsSl v n cs):kept1 v=true:=J1 h.froz1
end Go.Ev
namespace Go.Ev
open Go
theorem BT{st:St}{a b:List Up}:inB st (a++b)=(inB st a&&inB st b):=by grind [inB]
theorem BU{st:St}{sp:Sp}{k:Nat}{e:b8}(h:AP (st.get sp k)=true):inB st [(sp,k,e)]=true:=by
 cases sp with
 |L=>rfl
 |S=>simp only[inB,List.all_cons,List.all_nil,Bool.and_true,h,Bool.or_true]
section
variable{st:St}{nx:Nat}
theorem Dx{f:T→Q (T×List Up)}(r: ∀t p,(f t).run st.get nx=some p→inB st p.2=true): ∀(ts:List T) (p:List T×List Up),(iL f ts).run st.get nx=some p→inB st p.2=true
 | [],p,h=>by simp[iL,Q.run]at h;subst h;rfl
 |t::ts,p,h=>by
  simp only[iL,iS]at h
  cases D:(f t).run st.get nx with
  |none=>grind
  |some H=>
   rw[D]at h
   simp only[Option.bind_some]at h
   cases F:(iL f ts).run st.get nx with
   |none=>grind
   |some J=>
    rw[F]at h
    simp only[Option.bind_some,Q.run,Option.some.injEq]at h
    subst h
    simp only[BT,r _ _ D,Dx r ts _ F,Bool.and_self]
theorem V1: ∀(n:Nat) (keep:Bool) (t:T) (p:T×List Up),(fz keep n t).run st.get nx=some p→inB st p.2=true
 |0,keep,t,p,h=>by simp[fz,Q.run]at h
 |n+1,keep,t,p,h=>by
  have ih:=V1 n
  have J:=fun(k:Bool) (ts:List T) (q:List T×List Up)=>Dx (ih k) ts q
  cases t with
  |isl sp k g off len sz=>
   simp only[fz]at h
   split at h
   ·simp[Q.run]at h;subst h;rfl
   ·simp only[Q.run]at h
    cases r:st.get sp k with
    |mk F ob=>
     have N: ∀{o},ob=o→AP (st.get sp k)=AP ⟨F,o⟩:=fun e=>by rw[r,e]
     rw[r]at h
     simp only at h
     split at h
     ·split at h
      ·split at h
       ·simp only[Q.run,Option.some.injEq]at h;subst h;exact BU (by rw[r];rfl)
       ·simp[Q.run]at h
      ·split at h
       ·simp only[iS]at h
        cases D:(iL (fz false n) (List.take (len*sz) (List.drop off ‹List T›))).run st.get nx with
        |none=>grind
        |some q=>
         rw[D]at h
         simp only[Option.bind_some,Q.run,Option.some.injEq]at h
         subst h
         simp only[BT,J _ _ _ D,Bool.true_and]
         exact BU (by rw[r];rfl)
       ·simp[Q.run]at h
      ·simp[Q.run]at h
     ·simp[Q.run]at h
  |mp sp k g=>
   simp only[fz]at h
   split at h
   ·simp[Q.run]at h;subst h;rfl
   ·simp only[Q.run]at h
    cases r:st.get sp k with
    |mk F ob=>
     rw[r]at h
     simp only at h
     split at h
     ·split at h
      ·simp only[Q.run,Option.some.injEq]at h;subst h;exact BU (by rw[r];rfl)
      ·simp[Q.run]at h
     ·simp[Q.run]at h
  |ptr sp k g off=>
   simp only[fz]at h
   split at h
   ·simp[Q.run]at h;subst h;rfl
   ·simp only[Q.run]at h
    cases r:st.get sp k with
    |mk F ob=>
     rw[r]at h
     simp only at h
     split at h
     ·split at h
      ·simp only[iS]at h
       cases D:(iL (fz false n) (List.drop off ‹List T›)).run st.get nx with
       |none=>grind
       |some q=>
        rw[D]at h
        simp only[Option.bind_some,Q.run,Option.some.injEq]at h
        subst h
        simp only[BT,J _ _ _ D,Bool.true_and]
        exact BU (by rw[r];rfl)
      ·simp[Q.run]at h
     ·simp[Q.run]at h
  |fn f a c=>
   simp only[fz,iS]at h
   cases H:(iL (fz keep n) a).run st.get nx with
   |none=>grind
   |some K=>
    rw[H]at h
    simp only[Option.bind_some]at h
    cases D:(iL (fz keep n) c).run st.get nx with
    |none=>grind
    |some O=>
     grind [Q.run,Option.some.injEq,BT,Bool.and_self]
  |agg cs=>
   simp only[fz,iS]at h
   cases H:(iL (fz keep n) cs).run st.get nx with
   |none=>grind
   |some K=>
    grind [Q.run,Option.some.injEq]
  |tup cs=>
   simp only[fz,iS]at h
   cases H:(iL (fz keep n) cs).run st.get nx with
   |none=>grind
   |some K=>
    grind [Q.run,Option.some.injEq]
  |_=>simp[fz,Q.run]at h;subst h;rfl
end
section
variable{E:Env}{call:pw}{n:Nat}{fr:Fr}{lh:gW b8}{sh:List b8}{ds:List (List Nat×dy)}{jl:List FP}{u:List Nat}{d:Option Nat}
def isNe:T→Bool
 | .sl _ (_+1) _=>true
 |_=>false
def Ak(r:Nat):T→List (Sp×Nat)
 | .isl .L k _ _ _ _=> [(.L,k)]
 |_=> [(.L,r)]
theorem Mo{r:Nat}:Ak r .nilsl= [(.L,r)]:=nr rfl
theorem V2{r sz bytes:Nat}{s x:im}(hs:notS (rd fr s)=true)(hx:isNe (rd fr x)=true):iw E call n ((u,⟨some r,.app sz bytes s x false false,none⟩)::ds) jl ⟨fr,lh,sh⟩=
  if meets u jl ⟨false,Ak r (rd fr s),Ak r (rd fr s)⟩=true then ke E call n ds (jl++ [⟨false,Ak r (rd fr s),Ak r (rd fr s)⟩]) (dE E call n [⟨some r,.app sz bytes s x false false,none⟩] ⟨fr,lh,sh⟩)else none:=by
 refine sk fun K=> ?_
 cases Ew:rd fr x with
 |sl cs m ex=>
  cases m with
  |zero=>simp_all[isNe]
  |succ m=>
   by_cases hc:cs.length=(m+1)*sz
   ·have N:jm sz (rd fr x)= .ret (m+1,cs):=by rw[Ew];simp only[jm,hc,if_true]
    obtain⟨v,H,hr,F⟩:=tU (q:=oh r sz bytes (rd fr s) (rd fr x) false false) (by rfl) (by rw[ko];rfl) K
    have O:=He hs hr
    have F:=F (by rw[O];simp)
    rw[F]
    unfold oh at hr ⊢
    rw[N]at hr ⊢
    simp only[Q.bind,Nat.add_one_ne_zero,if_false]at hr ⊢
    cases D:rd fr s with
    |nilsl=>
     rw[D]at hr
     simp only at hr ⊢
     split at hr
     ·rename_i J
      rw[if_pos J]
      simp[nH,Q.run]at hr
      obtain⟨rfl,rfl⟩:=hr
      rfl
     ·simp[Q.run]at hr
    |sl V W U=>
     rw[D]at hr
     cases U with
     |false=>simp[Q.run]at hr
     |true=>
      simp only at hr ⊢
      split at hr
      ·rename_i J
       rw[if_pos J]
       simp[nH,Q.run]at hr
       obtain⟨rfl,rfl⟩:=hr
       rfl
      ·simp[Q.run]at hr
    |isl sp k g off len X=>
     cases sp with
     |S=>grind [notS]
     |L=>
      grind [Q.run,Option.some.injEq,CN.val.injEq,Q.asks,Q.log,jX,Ak]
    |_=>grind [Q.run]
   ·obtain⟨v,H,hr,F⟩:=tU (q:=oh r sz bytes (rd fr s) (rd fr x) false false) (by rfl) (by rw[ko];rfl) K
    simp_all[oh,jm,Q.bind,Q.run]
 |_=>grind [isNe]
def ti:b8→Bool
 |⟨_,.cells _ _ bx⟩=>bx
 |_=>false
def J3(lh:gW b8):T→Bool
 | .ptr .L k _ _=>ti (b7 lh k)
 |_=>false
theorem Rb{k g off:Nat}:J3 lh (.ptr .L k g off)=ti (b7 lh k):=nr rfl
theorem ki{g wm:Nat}{cs:List T}{bx:Bool}:ti ⟨g,.cells cs wm bx⟩=bx:=nr rfl
theorem arV{x v:im}{m:Nat}(hx:J3 lh (rd fr x)=true):iw E call n ((u,⟨none,.st x v m,none⟩)::ds) jl ⟨fr,lh,sh⟩=
  if meets u jl ⟨false,q9 (rd fr x),q9 (rd fr x)⟩=true then ke E call n ds (jl++ [⟨false,q9 (rd fr x),q9 (rd fr x)⟩]) (dE E call n [⟨none,.st x v m,none⟩] ⟨fr,lh,sh⟩)else none:=by
 refine sk fun F=> ?_
 cases Ew:rd fr x with
 |ptr sp k g off=>
  cases sp with
  |S=>grind [J3]
  |L=>
   obtain⟨w,H,hr,r⟩:=tU (q:=ry (rd fr x) (rd fr v) m) (by rfl) (by rw[ko];rfl) F
   rw[Ew]at hx hr r
   simp only[J3]at hx
   unfold ry at hr r
   split at hr
   ·simp[Q.run]at hr
   ·rename_i J
    rw[if_neg J]at r
    simp only[Q.run,Q.asks,Q.log]at hr r
    have Ot:(St.mk fr lh sh).get .L k=b7 lh k:=rfl
    rw[Ot]at hr r
    generalize b7 lh k=e at hx hr r
    obtain⟨N,ob⟩:=e
    cases ob with
    |none=>simp[ti]at hx
    |map a b c=>simp[ti]at hx
    |cells cs wm bx=>
     simp only[ti]at hx
     subst hx
     simp only at hr r
     split at hr
     ·rename_i K
      rw[if_pos K]at r
      split at hr
      ·rename_i hc
       rw[if_pos hc]at r
       have D:(true&&Sp.L==Sp.L)=true:=rfl
       simp only[D,if_true,Q.run,Option.some.injEq,CN.val.injEq]at hr r
       obtain⟨rfl,rfl⟩:=hr
       exact r rfl
      ·simp[Q.run]at hr
     ·simp[Q.run]at hr
 |_=>grind [J3]
end
section
variable{α β:Type}[DecidableEq α]
def iy:List (α×β)→α→Option β
 | [],_=>none
 |p::m,a=>if a=p.1 then some p.2 else iy m a
def oF:List (α×β)→α→Option Nat
 | [],_=>none
 |p::m,a=>if a=p.1 then some 0 else(oF m a).map (· +1)
variable{ek:EK}{kT:α→T}{vT:β→T}
theorem Hf(r: ∀a b,vD ek (kT a) (kT b)=some (decide (a=b)))(a:α): ∀m:List (α×β),mK ek (kT a) (m.map fun p=>kT p.1)=some (oF m a)
 | []=>rfl
 |p::m=>by
  rw[List.map_cons,Q7,r,Hf r a m,oF]
  by_cases h:a=p.1
  ·rw[decide_eq_true h,if_pos h];rfl
  ·rw[decide_eq_false h,if_neg h];rfl
theorem tj(a:α): ∀m:List (α×β),iy m a=(oF m a).bind fun i=>(m[i]?).map (·.2)
 | []=>rfl
 |p::m=>by
  rw[iy,oF]
  by_cases h:a=p.1
  ·grind
  ·rw[if_neg h,if_neg h,tj a m]
   cases oF m a <;> rfl
theorem yp(a:α): ∀(m:List (α×β)) (i:Nat),oF m a=some i→i<m.length
 | [],i,h=>by simp[oF]at h
 |p::m,i,h=>by
  rw[oF]at h
  split at h
  ·grind
  ·cases r:oF m a with
   |none=>grind
   |some j=>
    rw[r]at h
    simp at h
    have:=yp a m j r
    grind
theorem ahU(r: ∀a b,vD ek (kT a) (kT b)=some (decide (a=b)))(hk: ∀a,isKey ek (kT a)=true)(m:List (α×β))(a:α)(z:T):
  na ek (m.map fun p=>kT p.1) (m.map fun p=>vT p.2) (kT a) z true=some (match iy m a with|some v=> .tup [vT v,.b true]|none=> .tup [z,.b false]):=by
 rw[Oq (hk a),Hf r,tj]
 cases D:oF m a with
 |none=>rfl
 |some i=>
  grind [JW,List.getElem?_eq_getElem,yp]
theorem Ou(r: ∀a b,vD ek (kT a) (kT b)=some (decide (a=b)))(hk: ∀a,isKey ek (kT a)=true)(m:List (α×β))(a:α)(z:T):
  na ek (m.map fun p=>kT p.1) (m.map fun p=>vT p.2) (kT a) z false=some (match iy m a with|some v=>vT v|none=>z):=by
 rw[Oq (hk a),Hf r,tj]
 cases D:oF m a with
 |none=>rfl
 |some i=>
  grind [JW,List.getElem?_eq_getElem,yp]
theorem yq(r: ∀a b,vD ek (kT a) (kT b)=some (decide (a=b)))(m:List (α×β))(a:α)(v:β)(h:iy m a=none):
  qj ek (kT a) (vT v) (m.map fun p=>kT p.1) (m.map fun p=>vT p.2)=some ((m++ [(a,v)]).map (fun p=>kT p.1),(m++ [(a,v)]).map (fun p=>vT p.2)):=by
 rw[abm,Hf r]
 rw[tj]at h
 cases D:oF m a with
 |none=>simp[Q8]
 |some i=>
  grind [List.getElem?_eq_getElem,yp]
theorem qf(a b:α)(v:β): ∀m:List (α×β),iy (m++ [(b,v)]) a=match iy m a with|some u=>some u|none=>if a=b then some v else none
 | []=>by simp[iy]
 |p::m=>by
  rw[List.cons_append,iy,iy,qf a b v m]
  grind
end
end Go.Ev
namespace Go.Ev
open Go
def J4(sh:List b8):List Up→List b8
 | []=>sh
 |(.L,_,_)::us=>J4 sh us
 |(.S,k,e)::us=>J4 (iu sh k e) us
theorem V3{sh:List b8}:J4 sh []=sh:=nr rfl
theorem ahV{sh:List b8}{k:Nat}{e:b8}{us:List Up}:J4 sh ((.L,k,e)::us)=J4 sh us:=nr rfl
theorem Hg: ∀(us:List Up) (fr:Fr) (lh:gW b8) (sh:List b8),((St.mk fr lh sh).ups us).sh=J4 sh us
 | [],_,_,_=>rfl
 |(.L,k,e)::us,fr,lh,sh=>Hg us fr (nj lh k e) sh
 |(.S,k,e)::us,fr,lh,sh=>Hg us fr lh (iu sh k e)
def jG(lh:gW b8)(v:T)(k sz n:Nat)(cs:List T):Prop:=
 (n=0∧v= .nilsl∧cs= [])∨(∃g wm,v= .isl .L k g 0 n sz∧b7 lh k=⟨g,.cells cs wm false⟩∧cs.length=n*sz∧0<n)
def mQ(n:Nat)(cs:List T):T:=if n=0 then .nilsl else .sl cs n false
theorem nS{n:Nat}{cs:List T}(h:n=0→cs= []):IsSl (mQ n cs) n cs:=by
 unfold mQ
 split
 ·rename_i r;exact Or.inl ⟨rfl,r,h r⟩
 ·exact Or.inr ⟨false,rfl⟩
section
variable{lh:gW b8}{sh:List b8}{v:T}{k sz n:Nat}{cs:List T}
theorem jG.nil:jG lh .nilsl k sz 0 []:=Or.inl ⟨rfl,rfl,rfl⟩
theorem jG.len(h:jG lh v k sz n cs):cs.length=n*sz:=by
 rcases h with⟨rfl,_,rfl⟩|⟨g,wm,_,_,h,_⟩
 ·simp
 ·exact h
theorem jG.isl(h:jG lh v k sz n cs):IsSl (mQ n cs) n cs:=nS fun r=>by
 have:=h.len;rw[r,Nat.zero_mul]at this;exact List.length_eq_zero_iff.1 this
theorem jG.congr{r:gW b8}(h:jG lh v k sz n cs)(e:b7 r k=b7 lh k):jG r v k sz n cs:=by
 rcases h with h|⟨g,wm,D,F,H,J⟩
 ·exact Or.inl h
 ·exact Or.inr ⟨g,wm,D,by rw[e,F],H,J⟩
theorem jG.notS(h:jG lh v k sz n cs):Ev.notS v=true:=by
 rcases h with⟨_,rfl,_⟩|⟨g,wm,rfl,_⟩ <;> rfl
theorem jG.lenI(h:jG lh v k sz n cs):Ev.lenI v=some (.i .i64 (n:Int)):=by
 rcases h with⟨rfl,rfl,_⟩|⟨g,wm,rfl,_⟩ <;> rfl
theorem jG.noTup(h:jG lh v k sz n cs):Ev.noTup v=true:=by
 rcases h with⟨_,rfl,_⟩|⟨g,wm,rfl,_⟩ <;> rfl
theorem jG.cells(h:jG lh v k sz n cs):cellsOf v= [v]:=by
 rcases h with⟨_,rfl,_⟩|⟨g,wm,rfl,_⟩ <;> rfl
def nxV(lh:gW b8)(sh:List b8)(d sz bytes:Nat)(s x:T):T:=match Ev.appW lh sh d sz bytes s x with|some p=>p.1|none=>iG
def Ov(lh:gW b8)(sh:List b8)(d sz bytes:Nat)(s x:T):gW b8:=match Ev.appW lh sh d sz bytes s x with|some p=>p.2|none=>lh
theorem jG.appW{m bytes:Nat}{ps:List T}{x:T}(h:jG lh v k sz n cs)(hx:Ev.slC lh sh sz x=some (m+1,ps))(F:ps.length=(m+1)*sz)(hr:(n+(m+1))*bytes≤roomy):
  Ev.appW lh sh k sz bytes v x=some (nxV lh sh k sz bytes v x,Ov lh sh k sz bytes v x)∧jG (Ov lh sh k sz bytes v x) (nxV lh sh k sz bytes v x) k sz (n+(m+1)) (cs++ps)∧ ∀j,j≠k→b7 (Ov lh sh k sz bytes v x) j=b7 lh j:=by
 have J: ∃H r,Ev.appW lh sh k sz bytes v x=some (H,r)∧jG r H k sz (n+(m+1)) (cs++ps)∧ ∀j,j≠k→b7 r j=b7 lh j:=by
  unfold Ev.appW
  rw[hx,Option.bind_some]
  rcases h with⟨rfl,rfl,rfl⟩|⟨g,wm,rfl,h2,h3,h4⟩
  ·rw[yn,if_pos (by simpa using hr)]
   refine⟨_,_,rfl,Or.inr ⟨_,_,by rw[Nat.zero_add],sg _ _ _,by simpa using F,by omega⟩,fun j D=>jh _ _ D⟩
  ·rw[Dt,h2,wF,if_pos ⟨rfl,rfl,hr,rfl,h3.symm⟩]
   refine⟨_,_,rfl,Or.inr ⟨_,_,rfl,sg _ _ _,by rw[List.length_append,h3,F,Nat.add_mul n (m+1)],by omega⟩,fun j D=>jh _ _ D⟩
 grind [nxV,Ov]
def Y8(lh:gW b8):T→List Up
 | .isl .L k g _ _ _=>match b7 lh k with|⟨_,.cells cs _ _⟩=> [(.L,k,⟨g,.cells cs cs.length false⟩)]|_=> []
 |_=> []
theorem V4{sh:List b8}{lh:gW b8}{v:T}:J4 sh (Y8 lh v)=sh:=by
 unfold Y8
 split
 ·split <;> rfl
 ·rfl
theorem jG.fzW{m:Nat}{keep:Bool}(h:jG lh v k sz n cs):Ev.fzW m lh sh keep v=some (mQ n cs,Y8 lh v):=by
 rcases h with⟨rfl,rfl,rfl⟩|⟨g,wm,rfl,h2,h3,h4⟩
 ·rfl
 grind [mQ,Y8,Hd,tg,List.take_length]
theorem jG.fzV{keep:Bool}(h:jG lh v k sz n cs):Ev.fzV lh sh keep v=some (mQ n cs,Y8 lh v):=by
 rcases h with⟨rfl,rfl,rfl⟩|⟨g,wm,rfl,h2,h3,h4⟩
 ·rfl
 grind [mQ,Y8,G5,tg,List.take_length]
end
def arW(sh:List b8)(ek:EK)(m k v:T):Option (List b8):=match m with| .mp .S kk g=>Mm sh kk (gY sh kk) g ek k v|_=>none
theorem Ow{sh:List b8}{ek:EK}{kk g:Nat}{k v:T}:arW sh ek (.mp .S kk g) k v=Mm sh kk (gY sh kk) g ek k v:=nr rfl
theorem arX{E:Env}{call:pw}{n:Nat}{fr:Fr}{lh:gW b8}{sh:List b8}{os:List dy}{ek:EK}{m k v:im}(F:Mn (rd fr m)=true)(r:froz (rd fr v)=true):dE E call n (⟨none,.mu ek m k v,none⟩::os) ⟨fr,lh,sh⟩=ks (dE E call n os) fr ((arW sh ek (rd fr m) (rd fr k) (rd fr v)).map fun D=>(lh,D)):=by
 cases h:rd fr m with
 |mp sp kk g=>
  cases sp with
  |L=>grind [Mn]
  |S=>
   rw[arS h r,Ow]
   cases Mm sh kk (gY sh kk) g ek (rd fr k) (rd fr v) <;> rfl
 |_=>grind [Mn]
theorem IsSl.kept{v:T}{n:Nat}{cs:List T}(h:IsSl v n cs):kept v=true:=by
 rcases h with⟨rfl,_,_⟩|⟨ex,rfl⟩ <;> rfl
end Go.Ev
namespace Go.Ev
open Go
theorem Rc(m:Nat)(F:m≤62)(a:Int):Ev.bin .and (.i .u64 a) (.i .u64 (2 ^ m-1))=some (.i .u64 (a%2 ^ m)):=by
 have r:(2:Int) ^ m=((2 ^ m:Nat):Int):=by norm_cast
 have O:0<2 ^ m:=Nat.two_pow_pos m
 have H:2 ^ m≤2 ^ 62:=Nat.pow_le_pow_right (by omega) F
 have Vu:(BitVec.ofInt 64 ((2:Int) ^ m-1)).toNat=2 ^ m-1:=by
  grind
 have D:(BitVec.ofInt 64 a &&& BitVec.ofInt 64 ((2:Int) ^ m-1)).toNat=(a%2 ^ m).toNat:=by
  rw[BitVec.toNat_and,Vu,Nat.and_two_pow_sub_one_eq_mod,BitVec.toNat_ofInt]
  have J:0≤a%((2 ^ 64:Nat):Int):=Int.emod_nonneg _ (by omega)
  have U:(a%((2 ^ 64:Nat):Int))%((2 ^ m:Nat):Int)=a%((2 ^ m:Nat):Int):=Int.emod_emod_of_dvd a (by
   have:(2 ^ m:Nat)∣2 ^ 64:=Nat.pow_dvd_pow 2 (by omega)
   exact Int.natCast_dvd_natCast.2 this)
  have V:(((a%((2 ^ 64:Nat):Int)).toNat%2 ^ m:Nat):Int)=a%((2 ^ m:Nat):Int):=by
   grind
  grind
 have W:(IntKind.u64).bits=64:=rfl
 simp only[Ev.bin,if_true,rT]
 have K:0≤a%2 ^ m:=by rw[r];exact Int.emod_nonneg _ (by omega)
 have N:a%2 ^ m<2 ^ m:=by rw[r];exact Int.emod_lt_of_pos _ (by omega)
 grind [IntKind.wrap]
theorem abA{a:Int}:Ev.bin .and (.i .u64 a) (.i .u64 4294967295)=some (.i .u64 (a%4294967296)):=Rc 32 (by omega) a
theorem V5{k':IntKind}{a:Int}{b:Nat}(h:b≤64):Ev.bin .shr (.i .u64 a) (.i k' (b:Int))=some (.i .u64 (a/2 ^ b)):=by
 rw[Om,if_neg (by omega),Int.toNat_natCast]
 have:min b (IntKind.u64).bits=b:=Nat.min_eq_left h
 grind
theorem abB{k':IntKind}{a:Int}:Ev.bin .shr (.i .u64 a) (.i k' 32)=some (.i .u64 (a/4294967296)):=V5 (b:=32) (by omega)
theorem abC{a b:Int}(r:a=0∨a=1)(D:b=0∨b=1):Ev.bin .and (.i .i64 a) (.i .i64 b)=some (.i .i64 (min a b)):=by
 rcases r with rfl|rfl <;> rcases D with rfl|rfl <;> rfl
theorem V6{a b:Int}(r:a=0∨a=1)(D:b=0∨b=1):Ev.bin .or (.i .i64 a) (.i .i64 b)=some (.i .i64 (max a b)):=by
 rcases r with rfl|rfl <;> rcases D with rfl|rfl <;> rfl
def V7(lh:gW b8)(k:Nat):List T:=match b7 lh k with|⟨_,.cells cs _ _⟩=>cs|_=> []
theorem abD{lh:gW b8}{k g wm:Nat}{cs:List T}{bx:Bool}(h:b7 lh k=⟨g,.cells cs wm bx⟩):V7 lh k=cs:=by unfold V7;rw[h]
theorem V8{lh:gW b8}{k g wm:Nat}{bx:Bool}{P:List T→Prop}(h: ∃cs,b7 lh k=⟨g,.cells cs wm bx⟩∧P cs):b7 lh k=⟨g,.cells (V7 lh k) wm bx⟩∧P (V7 lh k):=by
 grind [abD]
end Go.Ev
namespace Go.Ev
open Go
theorem abE{E:Env}{n:Nat}{os Es:List dy}{b:fx}{st W X J K:St}{o:Out}(N:dE E (be E) n os st=some W)(O:dE E (be E) n Es st=some X)(U:DC E n b W=some (o,J))(V:DC E n b X=some (o,K))(hs:CT (zR os++jU b) J K):DC E n (.fork os Es b) st=some (o,rU (zR os++jU b) J K):=by
 rw[kb]
 obtain⟨r,N⟩:=vh os N
 obtain⟨D,O⟩:=vh Es O
 obtain⟨F,U⟩:=kb.1 U
 obtain⟨H,V⟩:=kb.1 V
 have l1:r≤r+D+F+H:=by omega
 have l2:D≤r+D+F+H:=by omega
 have Y:F≤r+D+F+H:=by omega
 have Z:H≤r+D+F+H:=by omega
 refine⟨r+D+F+H, ?_⟩
 simp only[mq,mA (js l1) os N,mA (js l2) Es O,j5 (js Y) Y b U,j5 (js Z) Z b V,NF]
 grind
theorem V9{E:Env}{n:Nat}{os Es:List dy}{b:fx}{fr f1 f2:Fr}{lh D H:gW b8}{sh F:List b8}{N O:St}(J:zR Es=zR os)(U:dE E (be E) n os ⟨fr,lh,sh⟩=some N)(V:dE E (be E) n Es ⟨fr,lh,sh⟩=some O)(W:DC E n b N=some (.nrm,⟨f1,D,F⟩))(X:DC E n b O=some (.nrm,⟨f2,H,F⟩))(hO: ∀k,k∉zR os++jU b→b7 D k=b7 H k):
  ∃(Y:Fr) (Z:gW b8),DC E n (.fork os Es b) ⟨fr,lh,sh⟩=some (.nrm,⟨Y,Z,F⟩)∧(∀k,k∉zR os++jU b→an Y k=an fr k)∧ ∀k,k∉zR os++jU b→b7 Z k=b7 D k:=by
 have p: ∀{r:List dy} {s:St} {f:Fr} {l:gW b8},zR r=zR os→dE E (be E) n r ⟨fr,lh,sh⟩=some s→DC E n b s=some (.nrm,⟨f,l,F⟩)→ ∀k,k∉zR os++jU b→an f k=an fr k:=by
  intro r s f l J h g k hk
  simp only[List.mem_append,not_or]at hk
  have a:=lB g k (by simpa using hk.2)
  have c:=tf r h k (by rw[J];exact hk.1)
  exact a.trans c
 have Bx:=p rfl U W
 have K:=p J V X
 refine⟨_,_,abE U V W X ⟨rfl,fun k hk=>(Bx k hk).trans (K k hk).symm,hO⟩,fun k hk=> ?_,fun k hk=> ?_⟩
 ·grind [sd]
 ·show gW.get lG (CQ _ D H) k=_
  rw[FJ,if_neg hk];rfl
def re:fx→fx
 | .fork os _ b=> .seq (.region os) b
 |c=>c
def rf:fx→fx
 | .fork _ Es b=> .seq (.region Es) b
 |c=>c
def abF:fx→Bool
 | .fork os Es _=>decide (zR Es=zR os)
 |_=>false
theorem Dy{E:Env}{n:Nat}{os:List dy}{b:fx}{st t:St}{o:Out}(h:DC E n (.seq (.region os) b) st=some (o,t)): ∃s,dE E (be E) n os st=some s∧DC E n b s=some (o,t):=by
 rw[Ac,FM]at h
 cases hs:dE E (be E) n os st with
 |none=>rw[hs]at h;cases h
 |some s=>rw[hs]at h;exact⟨s,rfl,h⟩
theorem abG{E:Env}{n:Nat}{c:fx}{fr U V:Fr}{lh r O:gW b8}{sh D:List b8}(hc:abF c=true)(F:DC E n (re c) ⟨fr,lh,sh⟩=some (.nrm,⟨U,r,D⟩))(H:DC E n (rf c) ⟨fr,lh,sh⟩=some (.nrm,⟨V,O,D⟩))(W: ∀k,(jU c).contains k=false→b7 r k=b7 O k):
  ∃(J:Fr) (K:gW b8),DC E n c ⟨fr,lh,sh⟩=some (.nrm,⟨J,K,D⟩)∧(∀k,(jU c).contains k=false→an J k=an fr k)∧ ∀k,(jU c).contains k=false→b7 K k=b7 r k:=by
 cases c with
 |fork os Es b=>
  obtain⟨Z,X,F⟩:=Dy F
  obtain⟨s2,Y,H⟩:=Dy H
  have N: ∀k,(jU (.fork os Es b)).contains k=false↔k∉zR os++jU b:=by
   intro k
   show(zR os++jU b).contains k=false↔_
   simp
  obtain⟨J,K,q1,q2,q3⟩:=V9 (of_decide_eq_true hc) X Y F H (fun k hk=>W k ((N k).2 hk))
  grind
 |_=>cases hc
section
variable{k:IntKind}{a b:Int}{s t:List Nat}
theorem bnd{p:Prop}[Decidable p]:(some (T.b (decide p)):Option T)=if p then some (.b true)else some (.b false):=by grind
theorem arY{p:Prop}[Decidable p]:(some (T.b (!decide p)):Option T)=if p then some (.b false)else some (.b true):=by grind
theorem Wa:Ev.bin .eql (.i k a) (.i k b)=if a=b then some (.b true)else some (.b false):=Og.trans bnd
theorem Wb:Ev.bin .neq (.i k a) (.i k b)=if a=b then some (.b false)else some (.b true):=Oh.trans arY
theorem Wc:Ev.bin .lss (.i k a) (.i k b)=if a<b then some (.b true)else some (.b false):=Oi.trans bnd
theorem Wd:Ev.bin .leq (.i k a) (.i k b)=if a≤b then some (.b true)else some (.b false):=Oj.trans bnd
theorem We:Ev.bin .gtr (.i k a) (.i k b)=if b<a then some (.b true)else some (.b false):=Ok.trans bnd
theorem Wf:Ev.bin .geq (.i k a) (.i k b)=if b≤a then some (.b true)else some (.b false):=Ol.trans bnd
theorem Rd:Ev.bin .eql (.s s) (.s t)=if s=t then some (.b true)else some (.b false):=JP.trans bnd
theorem Re:Ev.bin .neq (.s s) (.s t)=if s=t then some (.b false)else some (.b true):=JQ.trans arY
end
theorem ifl{α:Type}{p:Prop}[Decidable p]{a b c:α}(r:p→a=c)(D: ¬p→b=c):(if p then a else b)=c:=by grind
def Gd(I:St→Prop)(R:Out→St→Prop)(x:Option (Out×St)):Prop:= ∃o st,x=some (o,st)∧((o= .nrm∧I st)∨(o≠ .nrm∧R o st))
section
variable{I:St→Prop}{R:Out→St→Prop}{p:Prop}[Decidable p]{x y:Option (Out×St)}{st:St}{i:Nat}
theorem Dz(r:p→Gd I R x)(D: ¬p→Gd I R y):Gd I R (if p then x else y):=by grind
theorem mR(h:I st):Gd I R (some (.nrm,st)):=⟨_,_,rfl,.inl ⟨rfl,h⟩⟩
theorem pI(h:R (.ext i) st):Gd I R (some (.ext i,st)):=⟨_,_,rfl,.inr ⟨by simp,h⟩⟩
theorem Hh(h:R .ret st):Gd I R (some (.ret,st)):=⟨_,_,rfl,.inr ⟨by simp,h⟩⟩
end
theorem nU{E:Env}{n:Nat}{a:fx}(I:Nat→St→Prop)(P:Fr→gW b8→List b8→Prop)(o:Out)(N:Nat)
  (step: ∀k st,k<N→I k st→Gd (I (k+1)) (fun o' r=>o'=o∧P r.fr r.lh r.sh) (DC E n a st))
  (D: ∀st,I N st→Gd (fun _=>False) (fun o' r=>o'=o∧P r.fr r.lh r.sh) (DC E n a st)) (fr:Fr) (lh:gW b8) (sh:List b8) (F:I 0 ⟨fr,lh,sh⟩):
  DC E n (.loop a) ⟨fr,lh,sh⟩=some (o,⟨tT E n a fr lh sh,nE E n a fr lh sh,oi E n a fr lh sh⟩)∧P (tT E n a fr lh sh) (nE E n a fr lh sh) (oi E n a fr lh sh):=by
 refine jv (jR I _ N (fun k st hk hi=> ?_) (fun st hi=> ?_) 0 _ (Nat.zero_le _) F)
 ·obtain⟨o',r,e,h|h⟩:=step k st hk hi
  ·grind
  ·grind
 ·obtain⟨o',r,e,h|h⟩:=D st hi
  ·exact h.2.elim
  ·grind
end Go.Ev
namespace Go.Ev
open Go
theorem gW.put_self{α:Type}{d v:α}(D:v≠d): ∀{f:Nat} {t:gW α} {n:Nat},n<f→gW.get d t n=v→gW.put d f t n v=t
 |0,t,n,h,_=>by omega
 |f+1,.nil,n,_,e=>absurd e.symm (by rw[gW.get_nil];exact D)
 |f+1,.nd w l r,0,_,e=>by unfold gW.get at e;simp only at e;rw[e];unfold gW.put;rfl
 |f+1,.nd w l r,k+1,h,e=>by
  unfold gW.get at e;simp only at e
  unfold gW.put;simp only
  have hk:k/2<f:=by omega
  cases F:Nat.beq (k%2) 0 <;> rw[F]at e <;> simp only[cond_true,cond_false]at e ⊢ <;> rw[gW.put_self D hk e]
theorem Rf{fr:Fr}{k:Nat}{v:T}(h:an fr k=v)(r:v≠iG):jV fr k v=fr:=gW.put_self r (Nat.lt_succ_self k) h
theorem j2{E:Env}{f:Nat}{a:List T}{sh r:List b8}{b:Bool}(h:be E f a sh=some (.b b,r)):be E f a sh=if b=true then some (.b true,r)else some (.b false,r):=by cases b <;> simpa using h
section
variable{I:St→Prop}{R:Out→St→Prop}{p:Prop}[Decidable p]{x y:Option (Out×St)}{st:St}{i:Nat}
theorem gdI:Gd I R (if p then x else y)=((p→Gd I R x)∧(¬p→Gd I R y)):=propext (by by_cases h:p <;> simp[h])
theorem gdN:Gd I R (some (.nrm,st))=I st:=propext ⟨fun⟨_,_,e,h⟩=>by cases e;exact h.elim (·.2) (fun h=>absurd rfl h.1),mR⟩
theorem gdX:Gd I R (some (.ext i,st))=R (.ext i) st:=propext ⟨fun⟨_,_,e,h⟩=>by cases e;exact h.elim (fun h=>by cases h.1) (·.2),pI⟩
theorem gdR:Gd I R (some (.ret,st))=R .ret st:=propext ⟨fun⟨_,_,e,h⟩=>by cases e;exact h.elim (fun h=>by cases h.1) (·.2),Hh⟩
end
theorem ax3{α β:Type}{p:Prop}[Decidable p]{x y:Option (α×β)}{v:α}:(∃s,(if p then x else y)=some (v,s))=((p→ ∃s,x=some (v,s))∧(¬p→ ∃s,y=some (v,s))):=propext (by by_cases h:p <;> simp[h])
theorem ahX{α β:Type}{u v:α}{t:β}:(∃s,some (u,t)=some (v,s))=(u=v):=propext (by simp)
theorem mg{lh:gW b8}{j:Nat}{e:b8}{v:T}{k sz n:Nat}{cs:List T}(h:k≠j):jG (nj lh j e) v k sz n cs=jG lh v k sz n cs:=by unfold jG;rw[jh lh e h]
section
variable{E:Env}{n:Nat}{a:fx}{m:Nat}{fr:Fr}{lh:gW b8}{sh:List b8}
abbrev Lp(E:Env)(n:Nat)(a:fx)(fr:Fr)(lh:gW b8)(sh:List b8)(o:Out)(P:Fr→gW b8→List b8→Prop):Prop:=DC E n (.loop a) ⟨fr,lh,sh⟩=some (o,⟨tT E n a fr lh sh,nE E n a fr lh sh,oi E n a fr lh sh⟩)∧P (tT E n a fr lh sh) (nE E n a fr lh sh) (oi E n a fr lh sh)
theorem Wg{b:fx}{st r:St}{o:Out}(F:mh (jU (.loop b))=m)(h:DC E n b st=some (o,r)){s:Nat}(hs:(m >>> s)%2=0):an r.fr s=an st.fr s:=by
 refine lB h s ?_
 show(jU (.loop b)).contains s=false
 cases hc:(jU (.loop b)).contains s with
 |false=>rfl
 |true=>
  have D:=Hc s _ (List.contains_iff_mem.1 hc)
  rw[F,Nat.testBit,Nat.and_comm,Nat.and_one_is_mod,hs]at D
  simp at D
theorem kK(F:mh (jU (.loop a))=m)(I:Nat→Fr→gW b8→List b8→Prop){P:Fr→gW b8→List b8→Prop}{o:Out}(N:Nat)(H:I 0 fr lh sh)
  (step: ∀k f l s,k<N→(∀j,(m >>> j)%2=0→an f j=an fr j)→I k f l s→Gd (fun t=>I (k+1) t.fr t.lh t.sh) (fun o' t=>o'=o∧P t.fr t.lh t.sh) (DC E n a ⟨f,l,s⟩))
  (r: ∀f l s,(∀j,(m >>> j)%2=0→an f j=an fr j)→I N f l s→Gd (fun _=>False) (fun o' t=>o'=o∧P t.fr t.lh t.sh) (DC E n a ⟨f,l,s⟩)):
  Lp E n a fr lh sh o P:=by
 refine nU (fun k st=>(∀j,(m >>> j)%2=0→an st.fr j=an fr j)∧I k st.fr st.lh st.sh) P o N (fun k st hk hi=> ?_) (fun st hi=>r _ _ _ hi.1 hi.2) fr lh sh ⟨fun _ _=>rfl,H⟩
 obtain⟨o',J,e,h⟩:=step k _ _ _ hk hi.1 hi.2
 exact⟨o',J,e,h.imp (fun h=>⟨h.1,fun j D=>(Wg F e D).trans (hi.1 j D),h.2⟩) id⟩
abbrev wH(E:Env)(n:Nat)(a:fx)(fr:Fr)(lh:gW b8)(sh:List b8)(e s:Nat)(r:Int)(Q:gW b8→List b8→Prop):Prop:=DC E n (.loop a) ⟨fr,lh,sh⟩=(if r=0 then some (.ext e,⟨tT E n a fr lh sh,nE E n a fr lh sh,oi E n a fr lh sh⟩)else some (.ret,⟨jV (tT E n a fr lh sh) s (.i .i64 r),nE E n a fr lh sh,oi E n a fr lh sh⟩))∧Q (nE E n a fr lh sh) (oi E n a fr lh sh)
abbrev LpC(E:Env)(n:Nat)(a:fx)(fr:Fr)(lh:gW b8)(sh:List b8)(e s:Nat)(p:Prop)[Decidable p](v:T)(Q:gW b8→List b8→Prop):Prop:=DC E n (.loop a) ⟨fr,lh,sh⟩=(if p then some (.ext e,⟨tT E n a fr lh sh,nE E n a fr lh sh,oi E n a fr lh sh⟩)else some (.ret,⟨jV (tT E n a fr lh sh) s v,nE E n a fr lh sh,oi E n a fr lh sh⟩))∧Q (nE E n a fr lh sh) (oi E n a fr lh sh)
theorem wI(D:mh (jU (.loop a))=m){e s:Nat}{p:Prop}[Decidable p]{v:T}(F:v≠iG)(I:Nat→Fr→gW b8→List b8→Prop){Q:gW b8→List b8→Prop}(N:Nat)(H:I 0 fr lh sh)
  (step: ∀k f l h,k<N→(∀j,(m >>> j)%2=0→an f j=an fr j)→I k f l h→Gd (fun t=>I (k+1) t.fr t.lh t.sh) (fun o' t=>o'= .ret∧ ¬p∧an t.fr s=v∧Q t.lh t.sh) (DC E n a ⟨f,l,h⟩))
  (r: ∀f l h,(∀j,(m >>> j)%2=0→an f j=an fr j)→I N f l h→Gd (fun _=>False) (fun o' t=>o'= .ext e∧p∧Q t.lh t.sh) (DC E n a ⟨f,l,h⟩)):
  LpC E n a fr lh sh e s p v Q:=by
 obtain⟨J,K,O⟩:=kK D I (P:=fun f l h=>(¬p→an f s=v)∧Q l h) (o:=if p then .ext e else .ret) N H
  (fun k f l h hk p i=>by
    obtain⟨o',t,x,y⟩:=step k f l h hk p i
    exact⟨o',t,x,y.imp id fun⟨a,b,c,d,g⟩=>⟨a,by rw[if_neg c];exact b,fun _=>d,g⟩⟩)
  (fun f l h p i=>by
    obtain⟨o',t,x,y⟩:=r f l h p i
    exact⟨o',t,x,y.imp id fun⟨a,b,c,d⟩=>⟨a,by rw[if_pos c];exact b,fun z=>absurd c z,d⟩⟩)
 refine⟨?_,O⟩
 rw[J]
 split
 ·rfl
 ·rename_i hr;rw[Rf (K hr) F]
theorem jY(F:mh (jU (.loop a))=m){e s:Nat}{r:Int}(I:Nat→Fr→gW b8→List b8→Prop){Q:gW b8→List b8→Prop}(N:Nat)(H:I 0 fr lh sh)
  (step: ∀k f l h,k<N→(∀j,(m >>> j)%2=0→an f j=an fr j)→I k f l h→Gd (fun t=>I (k+1) t.fr t.lh t.sh) (fun o' t=>o'= .ret∧r≠0∧an t.fr s= .i .i64 r∧Q t.lh t.sh) (DC E n a ⟨f,l,h⟩))
  (D: ∀f l h,(∀j,(m >>> j)%2=0→an f j=an fr j)→I N f l h→Gd (fun _=>False) (fun o' t=>o'= .ext e∧r=0∧Q t.lh t.sh) (DC E n a ⟨f,l,h⟩)):
  wH E n a fr lh sh e s r Q:=wI F (by simp[iG]) I N H step D
theorem Rg{lh:gW b8}{k:Nat}{v:b8}(h:b7 lh k=v)(r:v≠lG):nj lh k v=lh:=gW.put_self r (Nat.lt_succ_self k) h
theorem lpO{e s k:Nat}{r:Int}{x:b8}{Q:gW b8→List b8→Prop}(h:wH E n a fr lh sh e s r fun l h=>(r=0→b7 l k=x)∧Q l h)(hx:x.ob≠ .none):
  DC E n (.loop a) ⟨fr,lh,sh⟩=(if r=0 then some (.ext e,⟨tT E n a fr lh sh,nj (nE E n a fr lh sh) k x,oi E n a fr lh sh⟩)else some (.ret,⟨jV (tT E n a fr lh sh) s (.i .i64 r),nE E n a fr lh sh,oi E n a fr lh sh⟩))∧Q (nE E n a fr lh sh) (oi E n a fr lh sh):=by
 obtain⟨D,F,H⟩:=h
 refine⟨?_,H⟩
 rw[D]
 split
 ·rename_i hr;rw[Rg (F hr) (fun h=>hx (by rw[h];rfl))]
 ·rfl
end
end Go.Ev
