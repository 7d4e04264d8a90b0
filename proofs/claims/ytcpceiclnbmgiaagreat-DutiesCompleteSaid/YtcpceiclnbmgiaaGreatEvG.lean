/- A tree evaluator over the model, proved against it (part G): where it answers, the call returns that answer. Conditions: none beyond its theorems' own. -/
import Derived.Test.YtcpceiclnbmgiaaGreatEvF
set_option linter.unusedSimpArgs false
set_option linter.unusedVariables false
namespace Go.Ev
open Go
def kept1:T→Bool
 | .isl .S .. | .ptr .S .. | .mp .S .. =>true
 |t=>froz1 t
def kept:T→Bool
 | .agg cs=>cs.all kept1
 | .tup cs=>cs.all kept1
 | .fn _ a c=>a.all kept1&&c.all kept1
 |t=>kept1 t
theorem KH{n:Nat}{t:T}(h:kept1 t=true):fz true (n+1) t= .ret (t,[]):=by
 cases t with
 |isl sp k g off len sz=>cases sp with|S=>rfl|L=>simp[kept1,froz1]at h
 |ptr sp k g off=>cases sp with|S=>rfl|L=>simp[kept1,froz1]at h
 |mp sp k g=>cases sp with|S=>rfl|L=>simp[kept1,froz1]at h
 |_=>exact pM h
theorem qX{n:Nat}: ∀(ts:List T),ts.all kept1=true→ja (fz true (n+1)) ts= .ret (ts,[])
 | [],_=>rfl
 |t::ts,h=>by
  simp_all[List.all_cons,Bool.and_eq_true,ja,KH,qX,Q.bind,List.append_nil]
theorem Cz{n:Nat}{t:T}(h:kept t=true):fz true (n+2) t= .ret (t,[]):=by
 cases t with
 |agg cs=>simp only[kept]at h;rw[HI,qX cs h];rfl
 |tup cs=>simp only[kept]at h;rw[MZ,qX cs h];rfl
 |fn f a c=>simp only[kept,Bool.and_eq_true]at h;rw[VN,qX a h.1,qX c h.2];rfl
 |_=>exact KH h
theorem AW{n:Nat}: ∀(ts:List T),ts.all kept=true→ja (fz true (n+2)) ts= .ret (ts,[])
 | [],_=>rfl
 |t::ts,h=>by
  simp_all[List.all_cons,Bool.and_eq_true,ja,Cz,AW,Q.bind,List.append_nil]
theorem aiR{k:IntKind}{n:Int}:kept (.i k n)=true:=nr rfl
theorem aiS{l:List Nat}:kept (.s l)=true:=nr rfl
theorem ach{cs:List T}:kept (.vp cs)=true:=nr rfl
theorem WJ{k g off:Nat}:kept (.ptr .S k g off)=true:=nr rfl
theorem zl{k g:Nat}:kept (.mp .S k g)=true:=nr rfl
theorem WK{cs:List T}:kept (.agg cs)=cs.all kept1:=nr rfl
theorem aci{k:IntKind}{n:Int}:kept1 (.i k n)=true:=nr rfl
theorem acj{l:List Nat}:kept1 (.s l)=true:=nr rfl
theorem KI:kept1 .nilmp=true:=nr rfl
theorem WL{k g:Nat}:kept1 (.mp .S k g)=true:=nr rfl
theorem KJ{t:T}(h:froz1 t=true):kept1 t=true:=by cases t <;> first|rfl|(simp[froz1]at h)
section
variable{E:Env}{call:qa}{n:Nat}{fr:Fr}{lh:iq b8}{sh:List b8}{os:List dy}{d:Nat}
theorem WM{v:T}(h:kept v=true):fzV lh sh true v=some (v,[]):=by
 unfold fzV iG;rw[Cz h];rfl
theorem Rd{D:Nat}{af:ib}{f:Nat}{args:List T}(F:E.fn f=some af)(H:af.eff=true)(J:args.all kept=true):je E call D ⟨fr,lh,sh⟩ f args=
  (call f args sh).bind fun r=>some (r.1,⟨fr,lh,r.2⟩):=by
 unfold je
 simp only[F,H,if_true]
 unfold iG
 rw[AW args J]
 simp only[Q.run,Cx]
 cases call f args sh <;> rfl
theorem aiT{x:iF}(D:d<n)(r:noTup (rd fr x)=true)(hk:kept (rd fr x)=true):eb E call n (⟨some d,.box x true,none⟩::os) ⟨fr,lh,sh⟩=eb E call n os ⟨kg fr d (.ptr .S sh.length 1 0),lh,iH sh sh.length ⟨1,.cells (cellsOf (rd fr x)) 0 true⟩⟩:=by
 rw[pL (by rfl) (show Fe n (some d)from D)]
 unfold one
 simp only[jk,r,Bool.not_true,Bool.false_eq_true,if_false,if_true]
 unfold iG
 rw[Cz hk]
 simp only[Q.bind,List.isEmpty_nil,r,Bool.and_self,if_true]
 rfl
theorem WN{k g off m:Nat}{v:T}(e:b8)(r: ∀cs wm bx,e.ob= .cells cs wm bx→bx=true)(H:(cellsOf v).length=m)(J:noTup v=true)(K:kept v=true):ny lh sh (Q.run (St.mk .nil lh sh).get sh.length (KG k g off m v e))=Ea lh sh k e g off v m:=by
 obtain⟨N,ob⟩:=e
 unfold Ea KG
 by_cases O:N=g
 ·subst O
  cases ob with
  |none=>simp[Q.run,ny]
  |map ks V z=>simp[Q.run,ny]
  |cells cs wm bx=>
   have MG:=r cs wm bx rfl
   subst MG
   by_cases r:wm≤off∧off+m≤cs.length
   ·have D:(decide (wm≤off)&&decide (off+m≤cs.length))=true:=by simp[r.1,r.2]
    have MG:(true&&Sp.S==Sp.L)=false:=rfl
    have F:(true&&Sp.S==Sp.S)=true:=rfl
    unfold iG
    simp only[if_true,D,MG,F,Bool.false_eq_true,if_false]
    rw[Cz K]
    have U:(oS [] Sp.S k|| !noTup v||decide ((cellsOf v).length≠m))=false:=by simp[oS,H,J]
    simp only[Q.bind,U,Bool.false_eq_true,if_false,Q.run,ny]
    rw[if_pos ⟨trivial,H,J,r⟩]
    rfl
   grind [Bool.false_eq_true,Q.run,ny]
 grind [Q.run,ny]
theorem nP{k g r off m wm:Nat}{cs:List T}{v:T}(H:kept v=true)(J:iz sh k=⟨r,.cells cs wm true⟩):stV lh sh (.ptr .S k g off) v m=Ea lh sh k ⟨r,.cells cs wm true⟩ g off v m:=by
 by_cases D:(cellsOf v).length=m
 ·cases F:noTup v with
  |false=>
   grind [stV,sd,Ea,Q.run]
  |true=>
   unfold stV sd
   have:(decide ((cellsOf v).length≠m)|| !noTup v)=false:=by simp[D,F]
   simp only[this,Bool.false_eq_true,if_false]
   have:=WN (lh:=lh) (sh:=sh) (k:=k) (g:=g) (off:=off) ⟨r,.cells cs wm true⟩ (by intro a b c h;cases h;rfl) D F H
   rw[←this,←J]
   rfl
 grind [stV,sd,Ea,Q.run]
def Nh(sh:List b8)(kk:Nat)(e:b8)(g:Nat)(ek:EK)(k v:T):Option (List b8):=
 match e with
 |⟨r,.map ks D false⟩=>if r=g∧isKey ek k=true then(qN ek k v ks D).map fun q=>iH sh kk ⟨g,.map q.1 q.2 false⟩else none
 |_=>none
theorem WO{kk g r:Nat}{ek:EK}{k v:T}{ks D:List T}:Nh sh kk ⟨r,.map ks D false⟩ g ek k v=if r=g∧isKey ek k=true then(qN ek k v ks D).map fun q=>iH sh kk ⟨g,.map q.1 q.2 false⟩else none:=rfl
def ack(kk g:Nat)(ek:EK)(k v:T)(e:b8):Q Dq:=if e.g=g&&isKey ek k then match e.ob with
      | .map ks r false=>(fz false iG v).bind fun p=>match qN ek k p.1 ks r with
        |some q=>if oS p.2 .S kk then .fail else .ret (.val iW (p.2++ [(.S,kk,⟨g,.map q.1 q.2 false⟩)]))
        |none=> .fail
      |_=> .fail
     else .fail
theorem acm{kk g:Nat}{ek:EK}{k v:T}(e:b8)(H:froz v=true):((ql (Q.run (St.mk fr lh sh).get sh.length (ack kk g ek k v e))).bind fun r=>eb E call n os {(St.mk fr lh sh).ups r.2 with fr:=fr})=
  (Nh sh kk e g ek k v).bind fun J=>eb E call n os ⟨fr,lh,J⟩:=by
 obtain⟨F,ob⟩:=e
 unfold ack Nh
 by_cases D:F=g∧isKey ek k=true
 ·have:(decide (F=g)&&isKey ek k)=true:=by simp[D.1,D.2]
  simp only[this,if_true]
  cases ob with
  |none=>rfl
  |cells cs wm bx=>rfl
  |map ks K z=>
   cases z with
   |true=>rfl
   |false=>
    simp only[if_pos D]
    unfold iG
    rw[px H]
    simp only[Q.bind]
    cases qN ek k v ks K with
    |none=>rfl
    |some q=>simp only[oS,List.any_nil,Bool.false_eq_true,if_false,Q.run,List.nil_append];rfl
 grind [Bool.false_eq_true,Q.run,ql]
theorem asM{ek:EK}{m k v:iF}{kk g:Nat}(r:rd fr m= .mp .S kk g)(D:froz (rd fr v)=true):eb E call n (⟨none,.mu ek m k v,none⟩::os) ⟨fr,lh,sh⟩=(Nh sh kk (iz sh kk) g ek (rd fr k) (rd fr v)).bind fun F=>eb E call n os ⟨fr,lh,F⟩:=by
 rw[pL (by rfl) (show Fe n none from trivial)]
 unfold one
 simp only[jk,r]
 exact acm (iz sh kk) D
end
section
variable{E:Env}{call:qa}{n:Nat}{fr:Fr}{lh:iq b8}{sh:List b8}{ds:List (List Nat×dy)}{jN:List FP}{u:List Nat}{d:Option Nat}
def Ni:T→Bool
 | .mp .S .. =>true
 |_=>false
theorem acn{k g:Nat}:Ni (.mp .S k g)=true:=nr rfl
theorem asN{ek:EK}{m k v:iF}(hx:Ni (rd fr m)=true)(D:froz (rd fr v)=true):iP E call n ((u,⟨none,.mu ek m k v,none⟩)::ds) jN ⟨fr,lh,sh⟩=
  if meets u jN ⟨false,sV (rd fr m),sV (rd fr m)⟩=true then ke E call n ds (jN++ [⟨false,sV (rd fr m),sV (rd fr m)⟩]) (eb E call n [⟨none,.mu ek m k v,none⟩] ⟨fr,lh,sh⟩)else none:=by
 refine uC fun F=> ?_
 cases AU:rd fr m with
 |mp sp kk g=>
  cases sp with
  |L=>grind [Ni]
  |S=>
   obtain⟨w,H,hr,r⟩:=wx (q:= .rd .S kk (ack kk g ek (rd fr k) (rd fr v))) (by rfl) (by rw[lp];simp only[jk,AU];rfl) F
   simp only[Q.run,Q.log,Q.asks]at hr r
   have Pk:(St.mk fr lh sh).get .S kk=iz sh kk:=rfl
   rw[Pk]at hr r
   generalize J:iz sh kk=e at hr r
   obtain⟨K,ob⟩:=e
   unfold ack at hr r
   by_cases N:(decide (K=g)&&isKey ek (rd fr k))=true
   ·simp only[N,if_true]at hr r
    cases ob with
    |none=>simp[Q.run]at hr
    |cells cs wm bx=>simp[Q.run]at hr
    |map ks V O=>
     cases O with
     |true=>simp[Q.run]at hr
     |false=>
      simp only[]at hr r
      unfold iG at hr r
      rw[px D]at hr r
      simp only[Q.bind]at hr r
      split at hr
      ·rename_i q U
       simp only[oS,List.any_nil,Bool.false_eq_true,if_false,Q.run,Option.some.injEq,Dq.val.injEq]at hr
       obtain⟨rfl,rfl⟩:=hr
       rw[U]at r
       simp only[oS,List.any_nil,Bool.false_eq_true,if_false]at r
       refine r ?_
       simp only[Q.asks,Bool.false_or,inB,List.nil_append,List.all_cons,List.all_nil,Bool.and_true]
       rw[Pk,J]
       rfl
      ·simp[Q.run]at hr
   grind [Bool.false_eq_true,Q.run]
 |_=>grind [Ni]
def Gg:FP:=⟨true,[],[]⟩
theorem aai{f:Nat}{af:ib}{as:List iF}(r:E.fn f=some af)(D:af.eff=true)(F:(as.map (rd fr)).all kept=true):
  iP E call n ((u,⟨d,.callf f as,none⟩)::ds) jN ⟨fr,lh,sh⟩=if meets u jN Gg=true then ke E call n ds (jN++ [Gg]) (eb E call n [⟨d,.callf f as,none⟩] ⟨fr,lh,sh⟩)else none:=by
 refine uC fun J=> ?_
 unfold jT
 have H:jr (St.mk fr lh sh).rho (.callf f as)=some (some (f,as.map (rd fr))):=by rw[lp];rfl
 simp only[H]
 unfold lV
 simp only[r,D]
 unfold iG
 rw[AW _ F]
 simp only[Q.run,Q.log,inB,List.all_nil,Bool.not_true,Bool.false_eq_true,if_false,if_true,ki,List.map_nil]
 rfl
theorem KK{rs r:List (Sp×Nat)}:apart ⟨false,rs,r⟩ Gg=(Mg rs&&Mg r):=by
 grind [apart,Gg,ml]
theorem aco:Mg []=true:=nr rfl
theorem asO{k:Nat}{xs:List (Sp×Nat)}:Mg ((.L,k)::xs)=Mg xs:=nr rfl
end
end Go.Ev
namespace Go.Ev
open Go
section
variable{E:Env}{n:Nat}{a:dE}
theorem j6(I:Nat→St→Prop)(R:Out→St→Prop)(N:Nat)
  (step: ∀k st,k<N→I k st→(∃jf,DC E n a st=some (.nrm,jf)∧I (k+1) jf)∨(∃o jf,o≠ .nrm∧DC E n a st=some (o,jf)∧R o jf))
  (D: ∀st,I N st→ ∃o jf,o≠ .nrm∧DC E n a st=some (o,jf)∧R o jf):
  ∀(k:Nat) (st:St),k≤N→I k st→ ∃o jf,DC E n (.loop a) st=some (o,jf)∧R o jf:=by
 have r: ∀{st o jf},o≠ .nrm→DC E n a st=some (o,jf)→DC E n (.loop a) st=some (o,jf):=by
  intro st o jf H h
  rw[Cw,h]
  cases o with
  |nrm=>grind
  |ext id=>rfl
  |ret=>rfl
 have F: ∀(m k:Nat) (st:St),N-k=m→k≤N→I k st→ ∃o jf,DC E n (.loop a) st=some (o,jf)∧R o jf:=by
  intro m
  induction m with
  |zero=>
   intro k st J hk h
   have:k=N:=by omega
   grind
  |succ m ih=>
   grind [Cw,nX]
 grind
theorem jJ{fr:Fr}{lh:iq b8}{sh:List b8}{o:Out}{P:Fr→iq b8→List b8→Prop}
  (h: ∃o' r,DC E n (.loop a) ⟨fr,lh,sh⟩=some (o',r)∧o'=o∧P r.fr r.lh r.sh):
  DC E n (.loop a) ⟨fr,lh,sh⟩=some (o,⟨tO E n a fr lh sh,n5 E n a fr lh sh,oH E n a fr lh sh⟩)∧P (tO E n a fr lh sh) (n5 E n a fr lh sh) (oH E n a fr lh sh):=by
 obtain⟨o',r,D,rfl,F⟩:=h
 exact RO ⟨r.fr,r.lh,r.sh,D,F⟩
end
theorem IsSl.kept1{v:T}{n:Nat}{cs:List T}(h:IsSl v n cs):kept1 v=true:=KJ h.froz1
end Go.Ev
namespace Go.Ev
open Go
theorem CA{st:St}{a b:List Up}:inB st (a++b)=(inB st a&&inB st b):=by grind [inB]
theorem CB{st:St}{sp:Sp}{k:Nat}{e:b8}(h:Bu (st.get sp k)=true):inB st [(sp,k,e)]=true:=by
 cases sp with
 |L=>rfl
 |S=>simp only[inB,List.all_cons,List.all_nil,Bool.and_true,h,Bool.or_true]
section
variable{st:St}{nx:Nat}
theorem Eb{f:T→Q (T×List Up)}(r: ∀t p,(f t).run st.get nx=some p→inB st p.2=true): ∀(ts:List T) (p:List T×List Up),(ja f ts).run st.get nx=some p→inB st p.2=true
 | [],p,h=>by simp[ja,Q.run]at h;subst h;rfl
 |t::ts,p,h=>by
  simp only[ja,jh]at h
  cases D:(f t).run st.get nx with
  |none=>grind
  |some H=>
   rw[D]at h
   simp only[Option.bind_some]at h
   cases F:(ja f ts).run st.get nx with
   |none=>grind
   |some J=>
    rw[F]at h
    simp only[Option.bind_some,Q.run,Option.some.injEq]at h
    subst h
    simp only[CA,r _ _ D,Eb r ts _ F,Bool.and_self]
theorem WQ: ∀(n:Nat) (keep:Bool) (t:T) (p:T×List Up),(fz keep n t).run st.get nx=some p→inB st p.2=true
 |0,keep,t,p,h=>by simp[fz,Q.run]at h
 |n+1,keep,t,p,h=>by
  have ih:=WQ n
  have J:=fun(k:Bool) (ts:List T) (q:List T×List Up)=>Eb (ih k) ts q
  cases t with
  |isl sp k g off len sz=>
   simp only[fz]at h
   split at h
   ·simp[Q.run]at h;subst h;rfl
   ·simp only[Q.run]at h
    cases r:st.get sp k with
    |mk F ob=>
     have N: ∀{o},ob=o→Bu (st.get sp k)=Bu ⟨F,o⟩:=fun e=>by rw[r,e]
     rw[r]at h
     simp only at h
     split at h
     ·split at h
      ·split at h
       ·simp only[Q.run,Option.some.injEq]at h;subst h;exact CB (by rw[r];rfl)
       ·simp[Q.run]at h
      ·split at h
       ·simp only[jh]at h
        cases D:(ja (fz false n) (List.take (len*sz) (List.drop off ‹List T›))).run st.get nx with
        |none=>grind
        |some q=>
         rw[D]at h
         simp only[Option.bind_some,Q.run,Option.some.injEq]at h
         subst h
         simp only[CA,J _ _ _ D,Bool.true_and]
         exact CB (by rw[r];rfl)
       ·simp[Q.run]at h
      ·simp[Q.run]at h
     ·simp[Q.run]at h
  |mp sp k g=>
   simp only[fz]at h
   split at h
   ·simp[Q.run]at h;subst h;rfl
   ·simp only[Q.run]at h
    cases r:st.get sp k with
    |mk F ob=>
     rw[r]at h
     simp only at h
     split at h
     ·split at h
      ·simp only[Q.run,Option.some.injEq]at h;subst h;exact CB (by rw[r];rfl)
      ·simp[Q.run]at h
     ·simp[Q.run]at h
  |ptr sp k g off=>
   simp only[fz]at h
   split at h
   ·simp[Q.run]at h;subst h;rfl
   ·simp only[Q.run]at h
    cases r:st.get sp k with
    |mk F ob=>
     rw[r]at h
     simp only at h
     split at h
     ·split at h
      ·simp only[jh]at h
       cases D:(ja (fz false n) (List.drop off ‹List T›)).run st.get nx with
       |none=>grind
       |some q=>
        rw[D]at h
        simp only[Option.bind_some,Q.run,Option.some.injEq]at h
        subst h
        simp only[CA,J _ _ _ D,Bool.true_and]
        exact CB (by rw[r];rfl)
      ·simp[Q.run]at h
     ·simp[Q.run]at h
  |fn f a c=>
   simp only[fz,jh]at h
   cases H:(ja (fz keep n) a).run st.get nx with
   |none=>grind
   |some K=>
    rw[H]at h
    simp only[Option.bind_some]at h
    cases D:(ja (fz keep n) c).run st.get nx with
    |none=>grind
    |some O=>
     grind [Q.run,Option.some.injEq,CA,Bool.and_self]
  |agg cs=>
   simp only[fz,jh]at h
   cases H:(ja (fz keep n) cs).run st.get nx with
   |none=>grind
   |some K=>
    grind [Q.run,Option.some.injEq]
  |tup cs=>
   simp only[fz,jh]at h
   cases H:(ja (fz keep n) cs).run st.get nx with
   |none=>grind
   |some K=>
    grind [Q.run,Option.some.injEq]
  |_=>simp[fz,Q.run]at h;subst h;rfl
end
section
variable{E:Env}{call:qa}{n:Nat}{fr:Fr}{lh:iq b8}{sh:List b8}{ds:List (List Nat×dy)}{jN:List FP}{u:List Nat}{d:Option Nat}
def isNe:T→Bool
 | .sl _ (_+1) _=>true
 |_=>false
def AX(r:Nat):T→List (Sp×Nat)
 | .isl .L k _ _ _ _=> [(.L,k)]
 |_=> [(.L,r)]
theorem Nj{r:Nat}:AX r .nilsl= [(.L,r)]:=nr rfl
theorem aiU{r sz bytes:Nat}{s x:iF}(hs:notS (rd fr s)=true)(hx:isNe (rd fr x)=true):iP E call n ((u,⟨some r,.app sz bytes s x false false,none⟩)::ds) jN ⟨fr,lh,sh⟩=
  if meets u jN ⟨false,AX r (rd fr s),AX r (rd fr s)⟩=true then ke E call n ds (jN++ [⟨false,AX r (rd fr s),AX r (rd fr s)⟩]) (eb E call n [⟨some r,.app sz bytes s x false false,none⟩] ⟨fr,lh,sh⟩)else none:=by
 refine uC fun K=> ?_
 cases AU:rd fr x with
 |sl cs m ex=>
  cases m with
  |zero=>simp_all[isNe]
  |succ m=>
   by_cases hc:cs.length=(m+1)*sz
   ·have N:jL sz (rd fr x)= .ret (m+1,cs):=by rw[AU];simp only[jL,hc,if_true]
    obtain⟨v,H,hr,F⟩:=wx (q:=qM r sz bytes (rd fr s) (rd fr x) false false) (by rfl) (by rw[lp];rfl) K
    have O:=acg hs hr
    have F:=F (by rw[O];simp)
    rw[F]
    unfold qM at hr ⊢
    rw[N]at hr ⊢
    simp only[Q.bind,Nat.add_one_ne_zero,if_false]at hr ⊢
    cases D:rd fr s with
    |nilsl=>
     rw[D]at hr
     simp only at hr ⊢
     split at hr
     ·rename_i J
      rw[if_pos J]
      simp[oc,Q.run]at hr
      obtain⟨rfl,rfl⟩:=hr
      rfl
     ·simp[Q.run]at hr
    |sl V W U=>
     rw[D]at hr
     cases U with
     |false=>simp[Q.run]at hr
     |true=>
      simp only at hr ⊢
      split at hr
      ·rename_i J
       rw[if_pos J]
       simp[oc,Q.run]at hr
       obtain⟨rfl,rfl⟩:=hr
       rfl
      ·simp[Q.run]at hr
    |isl sp k g off len X=>
     cases sp with
     |S=>grind [notS]
     |L=>
      grind [Q.run,Option.some.injEq,Dq.val.injEq,Q.asks,Q.log,ki,AX]
    |_=>grind [Q.run]
   ·obtain⟨v,H,hr,F⟩:=wx (q:=qM r sz bytes (rd fr s) (rd fr x) false false) (by rfl) (by rw[lp];rfl) K
    simp_all[qM,jL,Q.bind,Q.run]
 |_=>grind [isNe]
def tQ:b8→Bool
 |⟨_,.cells _ _ bx⟩=>bx
 |_=>false
def KL(lh:iq b8):T→Bool
 | .ptr .L k _ _=>tQ (b7 lh k)
 |_=>false
theorem R6{k g off:Nat}:KL lh (.ptr .L k g off)=tQ (b7 lh k):=nr rfl
theorem kJ{g wm:Nat}{cs:List T}{bx:Bool}:tQ ⟨g,.cells cs wm bx⟩=bx:=nr rfl
theorem asP{x v:iF}{m:Nat}(hx:KL lh (rd fr x)=true):iP E call n ((u,⟨none,.st x v m,none⟩)::ds) jN ⟨fr,lh,sh⟩=
  if meets u jN ⟨false,rO (rd fr x),rO (rd fr x)⟩=true then ke E call n ds (jN++ [⟨false,rO (rd fr x),rO (rd fr x)⟩]) (eb E call n [⟨none,.st x v m,none⟩] ⟨fr,lh,sh⟩)else none:=by
 refine uC fun F=> ?_
 cases AU:rd fr x with
 |ptr sp k g off=>
  cases sp with
  |S=>grind [KL]
  |L=>
   obtain⟨w,H,hr,r⟩:=wx (q:=sd (rd fr x) (rd fr v) m) (by rfl) (by rw[lp];rfl) F
   rw[AU]at hx hr r
   simp only[KL]at hx
   unfold sd at hr r
   split at hr
   ·simp[Q.run]at hr
   ·rename_i J
    rw[if_neg J]at r
    simp only[Q.run,Q.asks,Q.log]at hr r
    have Pk:(St.mk fr lh sh).get .L k=b7 lh k:=rfl
    rw[Pk]at hr r
    generalize b7 lh k=e at hx hr r
    obtain⟨N,ob⟩:=e
    cases ob with
    |none=>simp[tQ]at hx
    |map a b c=>simp[tQ]at hx
    |cells cs wm bx=>
     simp only[tQ]at hx
     subst hx
     simp only at hr r
     split at hr
     ·rename_i K
      rw[if_pos K]at r
      split at hr
      ·rename_i hc
       rw[if_pos hc]at r
       have D:(true&&Sp.L==Sp.L)=true:=rfl
       simp only[D,if_true,Q.run,Option.some.injEq,Dq.val.injEq]at hr r
       obtain⟨rfl,rfl⟩:=hr
       exact r rfl
      ·simp[Q.run]at hr
     ·simp[Q.run]at hr
 |_=>grind [KL]
end
section
variable{α β:Type}[DecidableEq α]
def iJ:List (α×β)→α→Option β
 | [],_=>none
 |p::m,a=>if a=p.1 then some p.2 else iJ m a
def oY:List (α×β)→α→Option Nat
 | [],_=>none
 |p::m,a=>if a=p.1 then some 0 else(oY m a).map (· +1)
variable{ek:EK}{kT:α→T}{vT:β→T}
theorem HS(r: ∀a b,uP ek (kT a) (kT b)=some (decide (a=b)))(a:α): ∀m:List (α×β),ni ek (kT a) (m.map fun p=>kT p.1)=some (oY m a)
 | []=>rfl
 |p::m=>by
  rw[List.map_cons,RX,r,HS r a m,oY]
  by_cases h:a=p.1
  ·rw[decide_eq_true h,if_pos h];rfl
  ·rw[decide_eq_false h,if_neg h];rfl
theorem tR(a:α): ∀m:List (α×β),iJ m a=(oY m a).bind fun i=>(m[i]?).map (·.2)
 | []=>rfl
 |p::m=>by
  rw[iJ,oY]
  by_cases h:a=p.1
  ·grind
  ·rw[if_neg h,if_neg h,tR a m]
   cases oY m a <;> rfl
theorem zp(a:α): ∀(m:List (α×β)) (i:Nat),oY m a=some i→i<m.length
 | [],i,h=>by simp[oY]at h
 |p::m,i,h=>by
  rw[oY]at h
  split at h
  ·grind
  ·cases r:oY m a with
   |none=>grind
   |some j=>
    rw[r]at h
    simp at h
    have:=zp a m j r
    grind
theorem aiV(r: ∀a b,uP ek (kT a) (kT b)=some (decide (a=b)))(hk: ∀a,isKey ek (kT a)=true)(m:List (α×β))(a:α)(z:T):
  nI ek (m.map fun p=>kT p.1) (m.map fun p=>vT p.2) (kT a) z true=some (match iJ m a with|some v=> .tup [vT v,.b true]|none=> .tup [z,.b false]):=by
 rw[Pj (hk a),HS r,tR]
 cases D:oY m a with
 |none=>rfl
 |some i=>
  grind [KF,List.getElem?_eq_getElem,zp]
theorem Pl(r: ∀a b,uP ek (kT a) (kT b)=some (decide (a=b)))(hk: ∀a,isKey ek (kT a)=true)(m:List (α×β))(a:α)(z:T):
  nI ek (m.map fun p=>kT p.1) (m.map fun p=>vT p.2) (kT a) z false=some (match iJ m a with|some v=>vT v|none=>z):=by
 rw[Pj (hk a),HS r,tR]
 cases D:oY m a with
 |none=>rfl
 |some i=>
  grind [KF,List.getElem?_eq_getElem,zp]
theorem zq(r: ∀a b,uP ek (kT a) (kT b)=some (decide (a=b)))(m:List (α×β))(a:α)(v:β)(h:iJ m a=none):
  qN ek (kT a) (vT v) (m.map fun p=>kT p.1) (m.map fun p=>vT p.2)=some ((m++ [(a,v)]).map (fun p=>kT p.1),(m++ [(a,v)]).map (fun p=>vT p.2)):=by
 rw[aca,HS r]
 rw[tR]at h
 cases D:oY m a with
 |none=>simp[RY]
 |some i=>
  grind [List.getElem?_eq_getElem,zp]
theorem qI(a b:α)(v:β): ∀m:List (α×β),iJ (m++ [(b,v)]) a=match iJ m a with|some u=>some u|none=>if a=b then some v else none
 | []=>by simp[iJ]
 |p::m=>by
  rw[List.cons_append,iJ,iJ,qI a b v m]
  grind
end
end Go.Ev
namespace Go.Ev
open Go
theorem Nk{r:List T}:scalar (.tup r)=r.all pH:=by
 unfold scalar
 congr 1
theorem acp{k:IntKind}{n:Int}:pH (.i k n)=true:=nr rfl
def KM(sh:List b8):List Up→List b8
 | []=>sh
 |(.L,_,_)::us=>KM sh us
 |(.S,k,e)::us=>KM (iH sh k e) us
theorem WR{sh:List b8}:KM sh []=sh:=nr rfl
theorem aiW{sh:List b8}{k:Nat}{e:b8}{us:List Up}:KM sh ((.L,k,e)::us)=KM sh us:=nr rfl
theorem HT: ∀(us:List Up) (fr:Fr) (lh:iq b8) (sh:List b8),((St.mk fr lh sh).ups us).sh=KM sh us
 | [],_,_,_=>rfl
 |(.L,k,e)::us,fr,lh,sh=>HT us fr (nN lh k e) sh
 |(.S,k,e)::us,fr,lh,sh=>HT us fr lh (iH sh k e)
def jG(lh:iq b8)(v:T)(k sz n:Nat)(cs:List T):Prop:=
 (n=0∧v= .nilsl∧cs= [])∨(∃g wm,v= .isl .L k g 0 n sz∧b7 lh k=⟨g,.cells cs wm false⟩∧cs.length=n*sz∧0<n)
def lu(n:Nat)(cs:List T):T:=if n=0 then .nilsl else .sl cs n false
theorem mV{n:Nat}{cs:List T}(h:n=0→cs= []):IsSl (lu n cs) n cs:=by
 unfold lu
 split
 ·rename_i r;exact Or.inl ⟨rfl,r,h r⟩
 ·exact Or.inr ⟨false,rfl⟩
section
variable{lh:iq b8}{sh:List b8}{v:T}{k sz n:Nat}{cs:List T}
theorem jG.nil:jG lh .nilsl k sz 0 []:=Or.inl ⟨rfl,rfl,rfl⟩
theorem jG.len(h:jG lh v k sz n cs):cs.length=n*sz:=by
 rcases h with⟨rfl,_,rfl⟩|⟨g,wm,_,_,h,_⟩
 ·simp
 ·exact h
theorem jG.isl(h:jG lh v k sz n cs):IsSl (lu n cs) n cs:=mV fun r=>by
 have:=h.len;rw[r,Nat.zero_mul]at this;exact List.length_eq_zero_iff.1 this
theorem jG.congr{r:iq b8}(h:jG lh v k sz n cs)(e:b7 r k=b7 lh k):jG r v k sz n cs:=by
 rcases h with h|⟨g,wm,D,F,H,J⟩
 ·exact Or.inl h
 ·exact Or.inr ⟨g,wm,D,by rw[e,F],H,J⟩
theorem jG.notS(h:jG lh v k sz n cs):Ev.notS v=true:=by
 rcases h with⟨_,rfl,_⟩|⟨g,wm,rfl,_⟩ <;> rfl
theorem jG.lenI(h:jG lh v k sz n cs):Ev.lenI v=some (.i .i64 (n:Int)):=by
 rcases h with⟨rfl,rfl,_⟩|⟨g,wm,rfl,_⟩ <;> rfl
theorem jG.noTup(h:jG lh v k sz n cs):Ev.noTup v=true:=by
 rcases h with⟨_,rfl,_⟩|⟨g,wm,rfl,_⟩ <;> rfl
theorem jG.cells(h:jG lh v k sz n cs):cellsOf v= [v]:=by
 rcases h with⟨_,rfl,_⟩|⟨g,wm,rfl,_⟩ <;> rfl
def nxV(lh:iq b8)(sh:List b8)(d sz bytes:Nat)(s x:T):T:=match Ev.appW lh sh d sz bytes s x with|some p=>p.1|none=>iW
def WS(lh:iq b8)(sh:List b8)(d sz bytes:Nat)(s x:T):iq b8:=match Ev.appW lh sh d sz bytes s x with|some p=>p.2|none=>lh
theorem jG.appW{m bytes:Nat}{r:List T}{x:T}(h:jG lh v k sz n cs)(hx:Ev.slC lh sh sz x=some (m+1,r))(H:r.length=(m+1)*sz)(hr:(n+(m+1))*bytes≤roomy):
  Ev.appW lh sh k sz bytes v x=some (nxV lh sh k sz bytes v x,WS lh sh k sz bytes v x)∧jG (WS lh sh k sz bytes v x) (nxV lh sh k sz bytes v x) k sz (n+(m+1)) (cs++r)∧ ∀j,j≠k→b7 (WS lh sh k sz bytes v x) j=b7 lh j:=by
 have K: ∃J D,Ev.appW lh sh k sz bytes v x=some (J,D)∧jG D J k sz (n+(m+1)) (cs++r)∧ ∀j,j≠k→b7 D j=b7 lh j:=by
  unfold Ev.appW
  rw[hx,Option.bind_some]
  rcases h with⟨rfl,rfl,rfl⟩|⟨g,wm,rfl,h2,h3,h4⟩
  ·rw[D7,if_pos (by simpa using hr)]
   refine⟨_,_,rfl,Or.inr ⟨_,_,by rw[Nat.zero_add],vZ _ _ _,by simpa using H,by omega⟩,fun j F=>jz _ _ F⟩
  ·rw[KC,h2,D6,if_pos ⟨rfl,rfl,hr,rfl,h3.symm⟩]
   refine⟨_,_,rfl,Or.inr ⟨_,_,rfl,vZ _ _ _,by rw[List.length_append,h3,H,Nat.add_mul n (m+1)],by omega⟩,fun j F=>jz _ _ F⟩
 grind [nxV,WS]
def Tl(lh:iq b8):T→List Up
 | .isl .L k g _ _ _=>match b7 lh k with|⟨_,.cells cs _ _⟩=> [(.L,k,⟨g,.cells cs cs.length false⟩)]|_=> []
 |_=> []
theorem WT{sh:List b8}{lh:iq b8}{v:T}:KM sh (Tl lh v)=sh:=by
 unfold Tl
 split
 ·split <;> rfl
 ·rfl
theorem jG.fzW{m:Nat}{keep:Bool}(h:jG lh v k sz n cs):Ev.fzW m lh sh keep v=some (lu n cs,Tl lh v):=by
 rcases h with⟨rfl,rfl,rfl⟩|⟨g,wm,rfl,h2,h3,h4⟩
 ·rfl
 grind [lu,Tl,HR,tN,List.take_length]
theorem jG.fzV{keep:Bool}(h:jG lh v k sz n cs):Ev.fzV lh sh keep v=some (lu n cs,Tl lh v):=by
 rcases h with⟨rfl,rfl,rfl⟩|⟨g,wm,rfl,h2,h3,h4⟩
 ·rfl
 grind [lu,Tl,HJ,tN,List.take_length]
end
def asQ(sh:List b8)(ek:EK)(m k v:T):Option (List b8):=match m with| .mp .S kk g=>Nh sh kk (iz sh kk) g ek k v|_=>none
theorem Pm{sh:List b8}{ek:EK}{kk g:Nat}{k v:T}:asQ sh ek (.mp .S kk g) k v=Nh sh kk (iz sh kk) g ek k v:=nr rfl
theorem asR{E:Env}{call:qa}{n:Nat}{fr:Fr}{lh:iq b8}{sh:List b8}{os:List dy}{ek:EK}{m k v:iF}(F:Ni (rd fr m)=true)(r:froz (rd fr v)=true):eb E call n (⟨none,.mu ek m k v,none⟩::os) ⟨fr,lh,sh⟩=ks (eb E call n os) fr ((asQ sh ek (rd fr m) (rd fr k) (rd fr v)).map fun D=>(lh,D)):=by
 cases h:rd fr m with
 |mp sp kk g=>
  cases sp with
  |L=>grind [Ni]
  |S=>
   rw[asM h r,Pm]
   cases Nh sh kk (iz sh kk) g ek (rd fr k) (rd fr v) <;> rfl
 |_=>grind [Ni]
theorem IsSl.kept{v:T}{n:Nat}{cs:List T}(h:IsSl v n cs):kept v=true:=by
 rcases h with⟨rfl,_,_⟩|⟨ex,rfl⟩ <;> rfl
end Go.Ev
namespace Go.Ev
open Go
theorem R7(m:Nat)(F:m≤62)(a:Int):Ev.bin .and (.i .u64 a) (.i .u64 (2 ^ m-1))=some (.i .u64 (a%2 ^ m)):=by
 have r:(2:Int) ^ m=((2 ^ m:Nat):Int):=by norm_cast
 have O:0<2 ^ m:=Nat.two_pow_pos m
 have H:2 ^ m≤2 ^ 62:=Nat.pow_le_pow_right (by omega) F
 have Wl:(BitVec.ofInt 64 ((2:Int) ^ m-1)).toNat=2 ^ m-1:=by
  grind
 have D:(BitVec.ofInt 64 a &&& BitVec.ofInt 64 ((2:Int) ^ m-1)).toNat=(a%2 ^ m).toNat:=by
  rw[BitVec.toNat_and,Wl,Nat.and_two_pow_sub_one_eq_mod,BitVec.toNat_ofInt]
  have J:0≤a%((2 ^ 64:Nat):Int):=Int.emod_nonneg _ (by omega)
  have U:(a%((2 ^ 64:Nat):Int))%((2 ^ m:Nat):Int)=a%((2 ^ m:Nat):Int):=Int.emod_emod_of_dvd a (by
   have:(2 ^ m:Nat)∣2 ^ 64:=Nat.pow_dvd_pow 2 (by omega)
   exact Int.natCast_dvd_natCast.2 this)
  have V:(((a%((2 ^ 64:Nat):Int)).toNat%2 ^ m:Nat):Int)=a%((2 ^ m:Nat):Int):=by
   grind
  grind
 have W:(IntKind.u64).bits=64:=rfl
 simp only[Ev.bin,if_true,sE]
 have K:0≤a%2 ^ m:=by rw[r];exact Int.emod_nonneg _ (by omega)
 have N:a%2 ^ m<2 ^ m:=by rw[r];exact Int.emod_lt_of_pos _ (by omega)
 grind [IntKind.wrap]
theorem acq{a:Int}:Ev.bin .and (.i .u64 a) (.i .u64 4294967295)=some (.i .u64 (a%4294967296)):=R7 32 (by omega) a
theorem WU{k':IntKind}{a:Int}{b:Nat}(h:b≤64):Ev.bin .shr (.i .u64 a) (.i k' (b:Int))=some (.i .u64 (a/2 ^ b)):=by
 rw[Ph,if_neg (by omega),Int.toNat_natCast]
 have:min b (IntKind.u64).bits=b:=Nat.min_eq_left h
 grind
theorem acr{k':IntKind}{a:Int}:Ev.bin .shr (.i .u64 a) (.i k' 32)=some (.i .u64 (a/4294967296)):=WU (b:=32) (by omega)
theorem acs{a b:Int}(r:a=0∨a=1)(D:b=0∨b=1):Ev.bin .and (.i .i64 a) (.i .i64 b)=some (.i .i64 (min a b)):=by
 rcases r with rfl|rfl <;> rcases D with rfl|rfl <;> rfl
theorem WV{a b:Int}(r:a=0∨a=1)(D:b=0∨b=1):Ev.bin .or (.i .i64 a) (.i .i64 b)=some (.i .i64 (max a b)):=by
 rcases r with rfl|rfl <;> rcases D with rfl|rfl <;> rfl
def WW(lh:iq b8)(k:Nat):List T:=match b7 lh k with|⟨_,.cells cs _ _⟩=>cs|_=> []
theorem acu{lh:iq b8}{k g wm:Nat}{cs:List T}{bx:Bool}(h:b7 lh k=⟨g,.cells cs wm bx⟩):WW lh k=cs:=by unfold WW;rw[h]
theorem WX{lh:iq b8}{k g wm:Nat}{bx:Bool}{P:List T→Prop}(h: ∃cs,b7 lh k=⟨g,.cells cs wm bx⟩∧P cs):b7 lh k=⟨g,.cells (WW lh k) wm bx⟩∧P (WW lh k):=by
 grind [acu]
end Go.Ev
namespace Go.Ev
open Go
theorem acv{E:Env}{n:Nat}{os Fb:List dy}{b:dE}{st W X J K:St}{o:Out}(N:eb E (be E) n os st=some W)(O:eb E (be E) n Fb st=some X)(U:DC E n b W=some (o,J))(V:DC E n b X=some (o,K))(hs:Du (AF os++j2 b) J K):DC E n (.fork os Fb b) st=some (o,sG (AF os++j2 b) J K):=by
 rw[kF]
 obtain⟨r,N⟩:=vY os N
 obtain⟨D,O⟩:=vY Fb O
 obtain⟨F,U⟩:=kF.1 U
 obtain⟨H,V⟩:=kF.1 V
 have l1:r≤r+D+F+H:=by omega
 have l2:D≤r+D+F+H:=by omega
 have Y:F≤r+D+F+H:=by omega
 have Z:H≤r+D+F+H:=by omega
 refine⟨r+D+F+H, ?_⟩
 simp only[mO,mU (jC l1) os N,mU (jC l2) Fb O,kz (jC Y) Y b U,kz (jC Z) Z b V,OG]
 grind
theorem WY{E:Env}{n:Nat}{os Fb:List dy}{b:dE}{fr f1 f2:Fr}{lh D H:iq b8}{sh F:List b8}{N O:St}(J:AF Fb=AF os)(U:eb E (be E) n os ⟨fr,lh,sh⟩=some N)(V:eb E (be E) n Fb ⟨fr,lh,sh⟩=some O)(W:DC E n b N=some (.nrm,⟨f1,D,F⟩))(X:DC E n b O=some (.nrm,⟨f2,H,F⟩))(hO: ∀k,k∉AF os++j2 b→b7 D k=b7 H k):
  ∃(Y:Fr) (Z:iq b8),DC E n (.fork os Fb b) ⟨fr,lh,sh⟩=some (.nrm,⟨Y,Z,F⟩)∧(∀k,k∉AF os++j2 b→an Y k=an fr k)∧ ∀k,k∉AF os++j2 b→b7 Z k=b7 D k:=by
 have p: ∀{r:List dy} {s:St} {f:Fr} {l:iq b8},AF r=AF os→eb E (be E) n r ⟨fr,lh,sh⟩=some s→DC E n b s=some (.nrm,⟨f,l,F⟩)→ ∀k,k∉AF os++j2 b→an f k=an fr k:=by
  intro r s f l J h g k hk
  simp only[List.mem_append,not_or]at hk
  have a:=lS g k (by simpa using hk.2)
  have c:=tM r h k (by rw[J];exact hk.1)
  exact a.trans c
 have B7:=p rfl U W
 have K:=p J V X
 refine⟨_,_,acv U V W X ⟨rfl,fun k hk=>(B7 k hk).trans (K k hk).symm,hO⟩,fun k hk=> ?_,fun k hk=> ?_⟩
 ·grind [sO]
 ·show iq.get l0 (Dt _ D H) k=_
  rw[Gv,if_neg hk];rfl
def rP:dE→dE
 | .fork os _ b=> .seq (.region os) b
 |c=>c
def rQ:dE→dE
 | .fork _ Fb b=> .seq (.region Fb) b
 |c=>c
def acw:dE→Bool
 | .fork os Fb _=>decide (AF Fb=AF os)
 |_=>false
theorem Ec{E:Env}{n:Nat}{os:List dy}{b:dE}{st t:St}{o:Out}(h:DC E n (.seq (.region os) b) st=some (o,t)): ∃s,eb E (be E) n os st=some s∧DC E n b s=some (o,t):=by
 rw[AO,Gx]at h
 cases hs:eb E (be E) n os st with
 |none=>rw[hs]at h;cases h
 |some s=>rw[hs]at h;exact⟨s,rfl,h⟩
theorem acx{E:Env}{n:Nat}{c:dE}{fr U V:Fr}{lh r O:iq b8}{sh D:List b8}(hc:acw c=true)(F:DC E n (rP c) ⟨fr,lh,sh⟩=some (.nrm,⟨U,r,D⟩))(H:DC E n (rQ c) ⟨fr,lh,sh⟩=some (.nrm,⟨V,O,D⟩))(W: ∀k,(j2 c).contains k=false→b7 r k=b7 O k):
  ∃(J:Fr) (K:iq b8),DC E n c ⟨fr,lh,sh⟩=some (.nrm,⟨J,K,D⟩)∧(∀k,(j2 c).contains k=false→an J k=an fr k)∧ ∀k,(j2 c).contains k=false→b7 K k=b7 r k:=by
 cases c with
 |fork os Fb b=>
  obtain⟨Z,X,F⟩:=Ec F
  obtain⟨s2,Y,H⟩:=Ec H
  have N: ∀k,(j2 (.fork os Fb b)).contains k=false↔k∉AF os++j2 b:=by
   intro k
   show(AF os++j2 b).contains k=false↔_
   simp
  obtain⟨J,K,q1,q2,q3⟩:=WY (of_decide_eq_true hc) X Y F H (fun k hk=>W k ((N k).2 hk))
  grind
 |_=>cases hc
section
variable{k:IntKind}{a b:Int}{s t:List Nat}
theorem bnd{p:Prop}[Decidable p]:(some (T.b (decide p)):Option T)=if p then some (.b true)else some (.b false):=by grind
theorem asS{p:Prop}[Decidable p]:(some (T.b (!decide p)):Option T)=if p then some (.b false)else some (.b true):=by grind
theorem WZ:Ev.bin .eql (.i k a) (.i k b)=if a=b then some (.b true)else some (.b false):=Pb.trans bnd
theorem W0:Ev.bin .neq (.i k a) (.i k b)=if a=b then some (.b false)else some (.b true):=Pc.trans asS
theorem W1:Ev.bin .lss (.i k a) (.i k b)=if a<b then some (.b true)else some (.b false):=Pd.trans bnd
theorem W2:Ev.bin .leq (.i k a) (.i k b)=if a≤b then some (.b true)else some (.b false):=Pe.trans bnd
theorem W3:Ev.bin .gtr (.i k a) (.i k b)=if b<a then some (.b true)else some (.b false):=Pf.trans bnd
theorem W4:Ev.bin .geq (.i k a) (.i k b)=if b≤a then some (.b true)else some (.b false):=Pg.trans bnd
theorem R8:Ev.bin .eql (.s s) (.s t)=if s=t then some (.b true)else some (.b false):=Ky.trans bnd
theorem R9:Ev.bin .neq (.s s) (.s t)=if s=t then some (.b false)else some (.b true):=Kz.trans asS
end
theorem ifl{α:Type}{p:Prop}[Decidable p]{a b c:α}(r:p→a=c)(D: ¬p→b=c):(if p then a else b)=c:=by grind
def Gd(I:St→Prop)(R:Out→St→Prop)(x:Option (Out×St)):Prop:= ∃o st,x=some (o,st)∧((o= .nrm∧I st)∨(o≠ .nrm∧R o st))
section
variable{I:St→Prop}{R:Out→St→Prop}{p:Prop}[Decidable p]{x y:Option (Out×St)}{st:St}{i:Nat}
theorem Ed(r:p→Gd I R x)(D: ¬p→Gd I R y):Gd I R (if p then x else y):=by grind
theorem mW(h:I st):Gd I R (some (.nrm,st)):=⟨_,_,rfl,.inl ⟨rfl,h⟩⟩
theorem oZ(h:R (.ext i) st):Gd I R (some (.ext i,st)):=⟨_,_,rfl,.inr ⟨by simp,h⟩⟩
theorem AY(h:R .ret st):Gd I R (some (.ret,st)):=⟨_,_,rfl,.inr ⟨by simp,h⟩⟩
end
theorem nH{E:Env}{n:Nat}{a:dE}(I:Nat→St→Prop)(P:Fr→iq b8→List b8→Prop)(o:Out)(N:Nat)
  (step: ∀k st,k<N→I k st→Gd (I (k+1)) (fun o' r=>o'=o∧P r.fr r.lh r.sh) (DC E n a st))
  (D: ∀st,I N st→Gd (fun _=>False) (fun o' r=>o'=o∧P r.fr r.lh r.sh) (DC E n a st)) (fr:Fr) (lh:iq b8) (sh:List b8) (F:I 0 ⟨fr,lh,sh⟩):
  DC E n (.loop a) ⟨fr,lh,sh⟩=some (o,⟨tO E n a fr lh sh,n5 E n a fr lh sh,oH E n a fr lh sh⟩)∧P (tO E n a fr lh sh) (n5 E n a fr lh sh) (oH E n a fr lh sh):=by
 refine jJ (j6 I _ N (fun k st hk hi=> ?_) (fun st hi=> ?_) 0 _ (Nat.zero_le _) F)
 ·obtain⟨o',r,e,h|h⟩:=step k st hk hi
  ·grind
  ·grind
 ·obtain⟨o',r,e,h|h⟩:=D st hi
  ·exact h.2.elim
  ·grind
end Go.Ev
namespace Go.Ev
open Go
theorem iq.put_self{α:Type}{d v:α}(D:v≠d): ∀{f:Nat} {t:iq α} {n:Nat},n<f→iq.get d t n=v→iq.put d f t n v=t
 |0,t,n,h,_=>by omega
 |f+1,.nil,n,_,e=>absurd e.symm (by rw[iq.get_nil];exact D)
 |f+1,.nd w l r,0,_,e=>by unfold iq.get at e;simp only at e;rw[e];unfold iq.put;rfl
 |f+1,.nd w l r,k+1,h,e=>by
  unfold iq.get at e;simp only at e
  unfold iq.put;simp only
  have hk:k/2<f:=by omega
  cases F:Nat.beq (k%2) 0 <;> rw[F]at e <;> simp only[cond_true,cond_false]at e ⊢ <;> rw[iq.put_self D hk e]
theorem Sa{fr:Fr}{k:Nat}{v:T}(h:an fr k=v)(r:v≠iW):kg fr k v=fr:=iq.put_self r (Nat.lt_succ_self k) h
theorem kq{E:Env}{f:Nat}{a:List T}{sh r:List b8}{b:Bool}(h:be E f a sh=some (.b b,r)):be E f a sh=if b=true then some (.b true,r)else some (.b false,r):=by cases b <;> simpa using h
section
variable{I:St→Prop}{R:Out→St→Prop}{p:Prop}[Decidable p]{x y:Option (Out×St)}{st:St}{i:Nat}
theorem gdI:Gd I R (if p then x else y)=((p→Gd I R x)∧(¬p→Gd I R y)):=propext (by by_cases h:p <;> simp[h])
theorem gdN:Gd I R (some (.nrm,st))=I st:=propext ⟨fun⟨_,_,e,h⟩=>by cases e;exact h.elim (·.2) (fun h=>absurd rfl h.1),mW⟩
theorem gdX:Gd I R (some (.ext i,st))=R (.ext i) st:=propext ⟨fun⟨_,_,e,h⟩=>by cases e;exact h.elim (fun h=>by cases h.1) (·.2),oZ⟩
theorem gdR:Gd I R (some (.ret,st))=R .ret st:=propext ⟨fun⟨_,_,e,h⟩=>by cases e;exact h.elim (fun h=>by cases h.1) (·.2),AY⟩
end
theorem azq{α β:Type}{p:Prop}[Decidable p]{x y:Option (α×β)}{v:α}:(∃s,(if p then x else y)=some (v,s))=((p→ ∃s,x=some (v,s))∧(¬p→ ∃s,y=some (v,s))):=propext (by by_cases h:p <;> simp[h])
theorem asT{α β:Type}{u v:α}{t:β}:(∃s,some (u,t)=some (v,s))=(u=v):=propext (by simp)
theorem mG{lh:iq b8}{j:Nat}{e:b8}{v:T}{k sz n:Nat}{cs:List T}(h:k≠j):jG (nN lh j e) v k sz n cs=jG lh v k sz n cs:=by unfold jG;rw[jz lh e h]
section
variable{E:Env}{n:Nat}{a:dE}{m:Nat}{fr:Fr}{lh:iq b8}{sh:List b8}
abbrev Lp(E:Env)(n:Nat)(a:dE)(fr:Fr)(lh:iq b8)(sh:List b8)(o:Out)(P:Fr→iq b8→List b8→Prop):Prop:=DC E n (.loop a) ⟨fr,lh,sh⟩=some (o,⟨tO E n a fr lh sh,n5 E n a fr lh sh,oH E n a fr lh sh⟩)∧P (tO E n a fr lh sh) (n5 E n a fr lh sh) (oH E n a fr lh sh)
theorem W5{b:dE}{st r:St}{o:Out}(F:mj (j2 (.loop b))=m)(h:DC E n b st=some (o,r)){s:Nat}(hs:(m >>> s)%2=0):an r.fr s=an st.fr s:=by
 refine lS h s ?_
 show(j2 (.loop b)).contains s=false
 cases hc:(j2 (.loop b)).contains s with
 |false=>rfl
 |true=>
  have D:=HQ s _ (List.contains_iff_mem.1 hc)
  rw[F,Nat.testBit,Nat.and_comm,Nat.and_one_is_mod,hs]at D
  simp at D
theorem ky(F:mj (j2 (.loop a))=m)(I:Nat→Fr→iq b8→List b8→Prop){P:Fr→iq b8→List b8→Prop}{o:Out}(N:Nat)(H:I 0 fr lh sh)
  (step: ∀k f l s,k<N→(∀j,(m >>> j)%2=0→an f j=an fr j)→I k f l s→Gd (fun t=>I (k+1) t.fr t.lh t.sh) (fun o' t=>o'=o∧P t.fr t.lh t.sh) (DC E n a ⟨f,l,s⟩))
  (r: ∀f l s,(∀j,(m >>> j)%2=0→an f j=an fr j)→I N f l s→Gd (fun _=>False) (fun o' t=>o'=o∧P t.fr t.lh t.sh) (DC E n a ⟨f,l,s⟩)):
  Lp E n a fr lh sh o P:=by
 refine nH (fun k st=>(∀j,(m >>> j)%2=0→an st.fr j=an fr j)∧I k st.fr st.lh st.sh) P o N (fun k st hk hi=> ?_) (fun st hi=>r _ _ _ hi.1 hi.2) fr lh sh ⟨fun _ _=>rfl,H⟩
 obtain⟨o',J,e,h⟩:=step k _ _ _ hk hi.1 hi.2
 exact⟨o',J,e,h.imp (fun h=>⟨h.1,fun j D=>(W5 F e D).trans (hi.1 j D),h.2⟩) id⟩
abbrev xy(E:Env)(n:Nat)(a:dE)(fr:Fr)(lh:iq b8)(sh:List b8)(e s:Nat)(r:Int)(Q:iq b8→List b8→Prop):Prop:=DC E n (.loop a) ⟨fr,lh,sh⟩=(if r=0 then some (.ext e,⟨tO E n a fr lh sh,n5 E n a fr lh sh,oH E n a fr lh sh⟩)else some (.ret,⟨kg (tO E n a fr lh sh) s (.i .i64 r),n5 E n a fr lh sh,oH E n a fr lh sh⟩))∧Q (n5 E n a fr lh sh) (oH E n a fr lh sh)
abbrev LpC(E:Env)(n:Nat)(a:dE)(fr:Fr)(lh:iq b8)(sh:List b8)(e s:Nat)(p:Prop)[Decidable p](v:T)(Q:iq b8→List b8→Prop):Prop:=DC E n (.loop a) ⟨fr,lh,sh⟩=(if p then some (.ext e,⟨tO E n a fr lh sh,n5 E n a fr lh sh,oH E n a fr lh sh⟩)else some (.ret,⟨kg (tO E n a fr lh sh) s v,n5 E n a fr lh sh,oH E n a fr lh sh⟩))∧Q (n5 E n a fr lh sh) (oH E n a fr lh sh)
theorem xz(D:mj (j2 (.loop a))=m){e s:Nat}{p:Prop}[Decidable p]{v:T}(F:v≠iW)(I:Nat→Fr→iq b8→List b8→Prop){Q:iq b8→List b8→Prop}(N:Nat)(H:I 0 fr lh sh)
  (step: ∀k f l h,k<N→(∀j,(m >>> j)%2=0→an f j=an fr j)→I k f l h→Gd (fun t=>I (k+1) t.fr t.lh t.sh) (fun o' t=>o'= .ret∧ ¬p∧an t.fr s=v∧Q t.lh t.sh) (DC E n a ⟨f,l,h⟩))
  (r: ∀f l h,(∀j,(m >>> j)%2=0→an f j=an fr j)→I N f l h→Gd (fun _=>False) (fun o' t=>o'= .ext e∧p∧Q t.lh t.sh) (DC E n a ⟨f,l,h⟩)):
  LpC E n a fr lh sh e s p v Q:=by
 obtain⟨J,K,O⟩:=ky D I (P:=fun f l h=>(¬p→an f s=v)∧Q l h) (o:=if p then .ext e else .ret) N H
  (fun k f l h hk p i=>by
    obtain⟨o',t,x,y⟩:=step k f l h hk p i
    exact⟨o',t,x,y.imp id fun⟨a,b,c,d,g⟩=>⟨a,by rw[if_neg c];exact b,fun _=>d,g⟩⟩)
  (fun f l h p i=>by
    obtain⟨o',t,x,y⟩:=r f l h p i
    exact⟨o',t,x,y.imp id fun⟨a,b,c,d⟩=>⟨a,by rw[if_pos c];exact b,fun z=>absurd c z,d⟩⟩)
 refine⟨?_,O⟩
 rw[J]
 split
 ·rfl
 ·rename_i hr;rw[Sa (K hr) F]
theorem kj(F:mj (j2 (.loop a))=m){e s:Nat}{r:Int}(I:Nat→Fr→iq b8→List b8→Prop){Q:iq b8→List b8→Prop}(N:Nat)(H:I 0 fr lh sh)
  (step: ∀k f l h,k<N→(∀j,(m >>> j)%2=0→an f j=an fr j)→I k f l h→Gd (fun t=>I (k+1) t.fr t.lh t.sh) (fun o' t=>o'= .ret∧r≠0∧an t.fr s= .i .i64 r∧Q t.lh t.sh) (DC E n a ⟨f,l,h⟩))
  (D: ∀f l h,(∀j,(m >>> j)%2=0→an f j=an fr j)→I N f l h→Gd (fun _=>False) (fun o' t=>o'= .ext e∧r=0∧Q t.lh t.sh) (DC E n a ⟨f,l,h⟩)):
  xy E n a fr lh sh e s r Q:=xz F (by simp[iW]) I N H step D
theorem Sb{lh:iq b8}{k:Nat}{v:b8}(h:b7 lh k=v)(r:v≠l0):nN lh k v=lh:=iq.put_self r (Nat.lt_succ_self k) h
theorem lpO{e s k:Nat}{r:Int}{x:b8}{Q:iq b8→List b8→Prop}(h:xy E n a fr lh sh e s r fun l h=>(r=0→b7 l k=x)∧Q l h)(hx:x.ob≠ .none):
  DC E n (.loop a) ⟨fr,lh,sh⟩=(if r=0 then some (.ext e,⟨tO E n a fr lh sh,nN (n5 E n a fr lh sh) k x,oH E n a fr lh sh⟩)else some (.ret,⟨kg (tO E n a fr lh sh) s (.i .i64 r),n5 E n a fr lh sh,oH E n a fr lh sh⟩))∧Q (n5 E n a fr lh sh) (oH E n a fr lh sh):=by
 obtain⟨D,F,H⟩:=h
 refine⟨?_,H⟩
 rw[D]
 split
 ·rename_i hr;rw[Sb (F hr) (fun h=>hx (by rw[h];rfl))]
 ·rfl
end
end Go.Ev
