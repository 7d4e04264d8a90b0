/- A tree evaluator over the model, proved against it (part G): where it answers, the call returns that answer. Conditions: none beyond its theorems' own. -/
import Derived.Test.YtcpceiclnbmgiaaGreatEvF
set_option linter.unusedSimpArgs false
set_option linter.unusedVariables false
namespace Go.Ev
open Go
def kept1:T→Bool
 | .isl .S .. | .ptr .S .. | .mp .S .. =>true
 |t=>froz1 t
def kept:T→Bool
 | .agg cs=>cs.all kept1
 | .tup cs=>cs.all kept1
 | .fn _ a c=>a.all kept1&&c.all kept1
 |t=>kept1 t
theorem IZ{n:Nat}{t:T}(h:kept1 t=true):fz true (n+1) t= .ret (t,[]):=by
 cases t with
 |isl sp k g off len sz=>cases sp with|S=>rfl|L=>simp[kept1,froz1]at h
 |ptr sp k g off=>cases sp with|S=>rfl|L=>simp[kept1,froz1]at h
 |mp sp k g=>cases sp with|S=>rfl|L=>simp[kept1,froz1]at h
 |_=>exact kK h
theorem l9{n:Nat}: ∀(ts:List T),ts.all kept1=true→bn (fz true (n+1)) ts= .ret (ts,[])
 | [],_=>rfl
 |t::ts,h=>by
  simp_all[List.all_cons,Bool.and_eq_true,bn,IZ,l9,Q.bind,List.append_nil]
theorem zJ{n:Nat}{t:T}(h:kept t=true):fz true (n+2) t= .ret (t,[]):=by
 cases t with
 |agg cs=>simp only[kept]at h;rw[FQ,l9 cs h];rfl
 |tup cs=>simp only[kept]at h;rw[LB,l9 cs h];rfl
 |fn f a c=>simp only[kept,Bool.and_eq_true]at h;rw[V9,l9 a h.1,l9 c h.2];rfl
 |_=>exact IZ h
theorem wX{n:Nat}: ∀(ts:List T),ts.all kept=true→bn (fz true (n+2)) ts= .ret (ts,[])
 | [],_=>rfl
 |t::ts,h=>by
  simp_all[List.all_cons,Bool.and_eq_true,bn,zJ,wX,Q.bind,List.append_nil]
theorem amb{x:Bool}:kept (.b x)=true:=nr rfl
theorem amc{k:IntKind}{n:Int}:kept (.i k n)=true:=nr rfl
theorem amd{l:List Nat}:kept (.s l)=true:=nr rfl
theorem LQ:kept .nilsl=true:=nr rfl
theorem I0:kept .nilptr=true:=nr rfl
theorem aeD{cs:List T}:kept (.vp cs)=true:=nr rfl
theorem aeE{cs:List T}{n:Nat}{e:Bool}:kept (.sl cs n e)=true:=nr rfl
theorem Xq{k g off:Nat}:kept (.ptr .S k g off)=true:=nr rfl
theorem uY{k g:Nat}:kept (.mp .S k g)=true:=nr rfl
theorem Xr{cs:List T}:kept (.agg cs)=cs.all kept1:=nr rfl
theorem Xs{cs:List T}:kept (.tup cs)=cs.all kept1:=nr rfl
theorem aeF{x:Bool}:kept1 (.b x)=true:=nr rfl
theorem aeG{k:IntKind}{n:Int}:kept1 (.i k n)=true:=nr rfl
theorem aeH{l:List Nat}:kept1 (.s l)=true:=nr rfl
theorem I1:kept1 .nilsl=true:=nr rfl
theorem F6:kept1 .nilptr=true:=nr rfl
theorem I2:kept1 .nilmp=true:=nr rfl
theorem Xt{cs:List T}:kept1 (.vp cs)=true:=nr rfl
theorem Xu{ks r:List T}:kept1 (.vm ks r)=true:=nr rfl
theorem Xv{cs:List T}{n:Nat}{e:Bool}:kept1 (.sl cs n e)=true:=nr rfl
theorem Q3{k g off:Nat}:kept1 (.ptr .S k g off)=true:=nr rfl
theorem Xw{k g:Nat}:kept1 (.mp .S k g)=true:=nr rfl
theorem hU{t:T}(h:froz1 t=true):kept1 t=true:=by cases t <;> first|rfl|(simp[froz1]at h)
section
variable{E:Env}{call:kg}{n:Nat}{fr:Fr}{lh:aB ah}{sh:List ah}{os:List aF}{d:Nat}
theorem Xx{v:T}(h:kept v=true):fzV lh sh true v=some (v,[]):=by
 unfold fzV aL;rw[zJ h];rfl
theorem P9{D:Nat}{af:ai}{f:Nat}{args:List T}(F:E.fn f=some af)(H:af.eff=true)(J:args.all kept=true):bB E call D ⟨fr,lh,sh⟩ f args=
  (call f args sh).bind fun r=>some (r.1,⟨fr,lh,r.2⟩):=by
 unfold bB
 simp only[F,H,if_true]
 unfold aL
 rw[wX args J]
 simp only[Q.run,zH]
 cases call f args sh <;> rfl
theorem ame{x:aX}(D:d<n)(r:noTup (rd fr x)=true)(hk:kept (rd fr x)=true):aj E call n (⟨some d,.box x true,none⟩::os) ⟨fr,lh,sh⟩=aj E call n os ⟨cQ fr d (.ptr .S sh.length 1 0),lh,aK sh sh.length ⟨1,.cells (cellsOf (rd fr x)) 0 true⟩⟩:=by
 rw[kJ (by rfl) (show CU n (some d)from D)]
 unfold one
 simp only[bC,r,Bool.not_true,Bool.false_eq_true,if_false,if_true]
 unfold aL
 rw[zJ hk]
 simp only[Q.bind,List.isEmpty_nil,r,Bool.and_self,if_true]
 rfl
theorem Xy{k g off m:Nat}{v:T}(e:ah)(r: ∀cs wm bx,e.ob= .cells cs wm bx→bx=true)(h1:(cellsOf v).length=m)(h2:noTup v=true)(H:kept v=true):iS lh sh (Q.run (St.mk .nil lh sh).get sh.length (IY k g off m v e))=BG lh sh k e g off v m:=by
 obtain⟨J,ob⟩:=e
 unfold BG IY
 by_cases K:J=g
 ·subst K
  cases ob with
  |none=>simp[Q.run,iS]
  |map ks O z=>simp[Q.run,iS]
  |cells cs wm bx=>
   have Lf:=r cs wm bx rfl
   subst Lf
   by_cases r:wm≤off∧off+m≤cs.length
   ·have D:(decide (wm≤off)&&decide (off+m≤cs.length))=true:=by simp[r.1,r.2]
    have Lf:(true&&Sp.S==Sp.L)=false:=rfl
    have F:(true&&Sp.S==Sp.S)=true:=rfl
    unfold aL
    simp only[if_true,D,Lf,F,Bool.false_eq_true,if_false]
    rw[zJ H]
    have N:(jU [] Sp.S k|| !noTup v||decide ((cellsOf v).length≠m))=false:=by simp[jU,h1,h2]
    simp only[Q.bind,N,Bool.false_eq_true,if_false,Q.run,iS]
    rw[if_pos ⟨trivial,h1,h2,r⟩]
    rfl
   grind [Bool.false_eq_true,Q.run,iS]
 grind [Q.run,iS]
theorem iL{k g r off m wm:Nat}{cs:List T}{v:T}(D:kept v=true)(F:aE sh k=⟨r,.cells cs wm true⟩):stV lh sh (.ptr .S k g off) v m=BG lh sh k ⟨r,.cells cs wm true⟩ g off v m:=by
 by_cases h1:(cellsOf v).length=m
 ·cases h2:noTup v with
  |false=>
   grind [stV,nI,BG,Q.run]
  |true=>
   unfold stV nI
   have:(decide ((cellsOf v).length≠m)|| !noTup v)=false:=by simp[h1,h2]
   simp only[this,Bool.false_eq_true,if_false]
   have:=Xy (lh:=lh) (sh:=sh) (k:=k) (g:=g) (off:=off) ⟨r,.cells cs wm true⟩ (by intro a b c h;cases h;rfl) h1 h2 D
   rw[←this,←F]
   rfl
 grind [stV,nI,BG,Q.run]
def LR(sh:List ah)(kk:Nat)(e:ah)(g:Nat)(ek:EK)(k v:T):Option (List ah):=
 match e with
 |⟨r,.map ks D false⟩=>if r=g∧isKey ek k=true then(lU ek k v ks D).map fun q=>aK sh kk ⟨g,.map q.1 q.2 false⟩else none
 |_=>none
theorem Xz{kk g r:Nat}{ek:EK}{k v:T}{ks D:List T}:LR sh kk ⟨r,.map ks D false⟩ g ek k v=if r=g∧isKey ek k=true then(lU ek k v ks D).map fun q=>aK sh kk ⟨g,.map q.1 q.2 false⟩else none:=rfl
def aeI(kk g:Nat)(ek:EK)(k v:T)(e:ah):Q AV:=if e.g=g&&isKey ek k then match e.ob with
      | .map ks r false=>(fz false aL v).bind fun p=>match lU ek k p.1 ks r with
        |some q=>if jU p.2 .S kk then .fail else .ret (.val ba (p.2++ [(.S,kk,⟨g,.map q.1 q.2 false⟩)]))
        |none=> .fail
      |_=> .fail
     else .fail
theorem aeJ{kk g:Nat}{ek:EK}{k v:T}(e:ah)(H:froz v=true):((lr (Q.run (St.mk fr lh sh).get sh.length (aeI kk g ek k v e))).bind fun r=>aj E call n os {(St.mk fr lh sh).ups r.2 with fr:=fr})=
  (LR sh kk e g ek k v).bind fun J=>aj E call n os ⟨fr,lh,J⟩:=by
 obtain⟨F,ob⟩:=e
 unfold aeI LR
 by_cases D:F=g∧isKey ek k=true
 ·have:(decide (F=g)&&isKey ek k)=true:=by simp[D.1,D.2]
  simp only[this,if_true]
  cases ob with
  |none=>rfl
  |cells cs wm bx=>rfl
  |map ks K z=>
   cases z with
   |true=>rfl
   |false=>
    simp only[if_pos D]
    unfold aL
    rw[ky H]
    simp only[Q.bind]
    cases lU ek k v ks K with
    |none=>rfl
    |some q=>simp only[jU,List.any_nil,Bool.false_eq_true,if_false,Q.run,List.nil_append];rfl
 grind [Bool.false_eq_true,Q.run,lr]
theorem axY{ek:EK}{m k v:aX}{kk g:Nat}(r:rd fr m= .mp .S kk g)(D:froz (rd fr v)=true):aj E call n (⟨none,.mu ek m k v,none⟩::os) ⟨fr,lh,sh⟩=(LR sh kk (aE sh kk) g ek (rd fr k) (rd fr v)).bind fun F=>aj E call n os ⟨fr,lh,F⟩:=by
 rw[kJ (by rfl) (show CU n none from trivial)]
 unfold one
 simp only[bC,r]
 exact aeJ (aE sh kk) D
end
section
variable{E:Env}{call:kg}{n:Nat}{fr:Fr}{lh:aB ah}{sh:List ah}{ds:List (List Nat×aF)}{bw:List FP}{u:List Nat}{d:Option Nat}
def LS:T→Bool
 | .mp .S .. =>true
 |_=>false
theorem aeK{k g:Nat}:LS (.mp .S k g)=true:=nr rfl
theorem axZ{ek:EK}{m k v:aX}(hx:LS (rd fr m)=true)(D:froz (rd fr v)=true):aM E call n ((u,⟨none,.mu ek m k v,none⟩)::ds) bw ⟨fr,lh,sh⟩=
  if meets u bw ⟨false,nk (rd fr m),nk (rd fr m)⟩=true then ke E call n ds (bw++ [⟨false,nk (rd fr m),nk (rd fr m)⟩]) (aj E call n [⟨none,.mu ek m k v,none⟩] ⟨fr,lh,sh⟩)else none:=by
 refine nM fun F=> ?_
 cases CV:rd fr m with
 |mp sp kk g=>
  cases sp with
  |L=>grind [LS]
  |S=>
   obtain⟨w,H,hr,r⟩:=qm (q:= .rd .S kk (aeI kk g ek (rd fr k) (rd fr v))) (by rfl) (by rw[dC];simp only[bC,CV];rfl) F
   simp only[Q.run,Q.log,Q.asks]at hr r
   have Oe:(St.mk fr lh sh).get .S kk=aE sh kk:=rfl
   rw[Oe]at hr r
   generalize J:aE sh kk=e at hr r
   obtain⟨K,ob⟩:=e
   unfold aeI at hr r
   by_cases N:(decide (K=g)&&isKey ek (rd fr k))=true
   ·simp only[N,if_true]at hr r
    cases ob with
    |none=>simp[Q.run]at hr
    |cells cs wm bx=>simp[Q.run]at hr
    |map ks V O=>
     cases O with
     |true=>simp[Q.run]at hr
     |false=>
      simp only[]at hr r
      unfold aL at hr r
      rw[ky D]at hr r
      simp only[Q.bind]at hr r
      split at hr
      ·rename_i q U
       simp only[jU,List.any_nil,Bool.false_eq_true,if_false,Q.run,Option.some.injEq,AV.val.injEq]at hr
       obtain⟨rfl,rfl⟩:=hr
       rw[U]at r
       simp only[jU,List.any_nil,Bool.false_eq_true,if_false]at r
       refine r ?_
       simp only[Q.asks,Bool.false_or,inB,List.nil_append,List.all_cons,List.all_nil,Bool.and_true]
       rw[Oe,J]
       rfl
      ·simp[Q.run]at hr
   grind [Bool.false_eq_true,Q.run]
 |_=>grind [LS]
def xK:FP:=⟨true,[],[]⟩
theorem acf{f:Nat}{af:ai}{as:List aX}(r:E.fn f=some af)(D:af.eff=true)(F:(as.map (rd fr)).all kept=true):
  aM E call n ((u,⟨d,.callf f as,none⟩)::ds) bw ⟨fr,lh,sh⟩=if meets u bw xK=true then ke E call n ds (bw++ [xK]) (aj E call n [⟨d,.callf f as,none⟩] ⟨fr,lh,sh⟩)else none:=by
 refine nM fun J=> ?_
 unfold ch
 have H:bI (St.mk fr lh sh).rho (.callf f as)=some (some (f,as.map (rd fr))):=by rw[dC];rfl
 simp only[H]
 unfold fb
 simp only[r,D]
 unfold aL
 rw[wX _ F]
 simp only[Q.run,Q.log,inB,List.all_nil,Bool.not_true,Bool.false_eq_true,if_false,if_true,dg,List.map_nil]
 rfl
theorem I3{rs r:List (Sp×Nat)}:apart ⟨false,rs,r⟩ xK=(Ht rs&&Ht r):=by
 grind [apart,xK,eZ]
theorem I4{rs r:List (Sp×Nat)}:apart xK ⟨false,rs,r⟩=(Ht rs&&Ht r):=by
 unfold apart xK eZ
 simp
theorem aeL:Ht []=true:=nr rfl
theorem ax0{k:Nat}{xs:List (Sp×Nat)}:Ht ((.L,k)::xs)=Ht xs:=nr rfl
end
end Go.Ev
namespace Go.Ev
open Go
section
variable{E:Env}{n:Nat}{a:ak}
theorem cu(I:Nat→St→Prop)(R:Out→St→Prop)(N:Nat)
  (step: ∀k st,k<N→I k st→(∃bu,DC E n a st=some (.nrm,bu)∧I (k+1) bu)∨(∃o bu,o≠ .nrm∧DC E n a st=some (o,bu)∧R o bu))
  (D: ∀st,I N st→ ∃o bu,o≠ .nrm∧DC E n a st=some (o,bu)∧R o bu):
  ∀(k:Nat) (st:St),k≤N→I k st→ ∃o bu,DC E n (.loop a) st=some (o,bu)∧R o bu:=by
 have r: ∀{st o bu},o≠ .nrm→DC E n a st=some (o,bu)→DC E n (.loop a) st=some (o,bu):=by
  intro st o bu H h
  rw[sd,h]
  cases o with
  |nrm=>grind
  |ext id=>rfl
  |ret=>rfl
 have F: ∀(m k:Nat) (st:St),N-k=m→k≤N→I k st→ ∃o bu,DC E n (.loop a) st=some (o,bu)∧R o bu:=by
  intro m
  induction m with
  |zero=>
   intro k st J hk h
   have:k=N:=zO
   grind
  |succ m ih=>
   grind [sd,fQ]
 grind
theorem bF{fr:Fr}{lh:aB ah}{sh:List ah}{o:Out}{P:Fr→aB ah→List ah→Prop}
  (h: ∃o' r,DC E n (.loop a) ⟨fr,lh,sh⟩=some (o',r)∧o'=o∧P r.fr r.lh r.sh):
  DC E n (.loop a) ⟨fr,lh,sh⟩=some (o,⟨kR E n a fr lh sh,iy E n a fr lh sh,iF E n a fr lh sh⟩)∧P (kR E n a fr lh sh) (iy E n a fr lh sh) (iF E n a fr lh sh):=by
 obtain⟨o',r,h1,rfl,h2⟩:=h
 exact QN ⟨r.fr,r.lh,r.sh,h1,h2⟩
end
theorem IsSl.kept1{v:T}{n:Nat}{cs:List T}(h:IsSl v n cs):kept1 v=true:=hU h.froz1
end Go.Ev
namespace Go.Ev
open Go
theorem zK{st:St}{a b:List Up}:inB st (a++b)=(inB st a&&inB st b):=by grind [inB]
theorem zL{st:St}{sp:Sp}{k:Nat}{e:ah}(h:xP (st.get sp k)=true):inB st [(sp,k,e)]=true:=by
 cases sp with
 |L=>rfl
 |S=>simp only[inB,List.all_cons,List.all_nil,Bool.and_true,h,Bool.or_true]
section
variable{st:St}{nx:Nat}
theorem uZ{f:T→Q (T×List Up)}(r: ∀t p,(f t).run st.get nx=some p→inB st p.2=true): ∀(ts:List T) (p:List T×List Up),(bn f ts).run st.get nx=some p→inB st p.2=true
 | [],p,h=>by simp[bn,Q.run]at h;subst h;rfl
 |t::ts,p,h=>by
  simp only[bn,bq]at h
  cases h1:(f t).run st.get nx with
  |none=>grind
  |some D=>
   rw[h1]at h
   simp only[Option.bind_some]at h
   cases h2:(bn f ts).run st.get nx with
   |none=>grind
   |some F=>
    rw[h2]at h
    simp only[Option.bind_some,Q.run,Option.some.injEq]at h
    subst h
    simp only[zK,r _ _ h1,uZ r ts _ h2,Bool.and_self]
theorem LU: ∀(n:Nat) (keep:Bool) (t:T) (p:T×List Up),(fz keep n t).run st.get nx=some p→inB st p.2=true
 |0,keep,t,p,h=>by simp[fz,Q.run]at h
 |n+1,keep,t,p,h=>by
  have ih:=LU n
  have F:=fun(k:Bool) (ts:List T) (q:List T×List Up)=>uZ (ih k) ts q
  cases t with
  |isl sp k g off len sz=>
   simp only[fz]at h
   split at h
   ·simp[Q.run]at h;subst h;rfl
   ·simp only[Q.run]at h
    cases r:st.get sp k with
    |mk D ob=>
     have J: ∀{o},ob=o→xP (st.get sp k)=xP ⟨D,o⟩:=fun e=>by rw[r,e]
     rw[r]at h
     simp only at h
     split at h
     ·split at h
      ·split at h
       ·simp only[Q.run,Option.some.injEq]at h;subst h;exact zL (by rw[r];rfl)
       ·simp[Q.run]at h
      ·split at h
       ·simp only[bq]at h
        cases h2:(bn (fz false n) (List.take (len*sz) (List.drop off ‹List T›))).run st.get nx with
        |none=>grind
        |some q=>
         rw[h2]at h
         simp only[Option.bind_some,Q.run,Option.some.injEq]at h
         subst h
         simp only[zK,F _ _ _ h2,Bool.true_and]
         exact zL (by rw[r];rfl)
       ·simp[Q.run]at h
      ·simp[Q.run]at h
     ·simp[Q.run]at h
  |mp sp k g=>
   simp only[fz]at h
   split at h
   ·simp[Q.run]at h;subst h;rfl
   ·simp only[Q.run]at h
    cases r:st.get sp k with
    |mk D ob=>
     rw[r]at h
     simp only at h
     split at h
     ·split at h
      ·simp only[Q.run,Option.some.injEq]at h;subst h;exact zL (by rw[r];rfl)
      ·simp[Q.run]at h
     ·simp[Q.run]at h
  |ptr sp k g off=>
   simp only[fz]at h
   split at h
   ·simp[Q.run]at h;subst h;rfl
   ·simp only[Q.run]at h
    cases r:st.get sp k with
    |mk D ob=>
     rw[r]at h
     simp only at h
     split at h
     ·split at h
      ·simp only[bq]at h
       cases h2:(bn (fz false n) (List.drop off ‹List T›)).run st.get nx with
       |none=>grind
       |some q=>
        rw[h2]at h
        simp only[Option.bind_some,Q.run,Option.some.injEq]at h
        subst h
        simp only[zK,F _ _ _ h2,Bool.true_and]
        exact zL (by rw[r];rfl)
      ·simp[Q.run]at h
     ·simp[Q.run]at h
  |fn f a c=>
   simp only[fz,bq]at h
   cases h1:(bn (fz keep n) a).run st.get nx with
   |none=>grind
   |some H=>
    rw[h1]at h
    simp only[Option.bind_some]at h
    cases h2:(bn (fz keep n) c).run st.get nx with
    |none=>grind
    |some K=>
     grind [Q.run,Option.some.injEq,zK,Bool.and_self]
  |agg cs=>
   simp only[fz,bq]at h
   cases h1:(bn (fz keep n) cs).run st.get nx with
   |none=>grind
   |some H=>
    grind [Q.run,Option.some.injEq]
  |tup cs=>
   simp only[fz,bq]at h
   cases h1:(bn (fz keep n) cs).run st.get nx with
   |none=>grind
   |some H=>
    grind [Q.run,Option.some.injEq]
  |_=>simp[fz,Q.run]at h;subst h;rfl
end
section
variable{E:Env}{call:kg}{n:Nat}{fr:Fr}{lh:aB ah}{sh:List ah}{ds:List (List Nat×aF)}{bw:List FP}{u:List Nat}{d:Option Nat}
def isNe:T→Bool
 | .sl _ (_+1) _=>true
 |_=>false
theorem aeM{cs:List T}{m:Nat}{ex:Bool}:isNe (.sl cs (m+1) ex)=true:=nr rfl
theorem XA{cs:List T}{ex:Bool}:isNe (.sl cs 1 ex)=true:=nr rfl
def pt(r:Nat):T→List (Sp×Nat)
 | .isl .L k _ _ _ _=> [(.L,k)]
 |_=> [(.L,r)]
theorem LV{r k g off len sz:Nat}:pt r (.isl .L k g off len sz)= [(.L,k)]:=nr rfl
theorem LW{r:Nat}:pt r .nilsl= [(.L,r)]:=nr rfl
theorem Q4{r len:Nat}{cs:List T}{ex:Bool}:pt r (.sl cs len ex)= [(.L,r)]:=nr rfl
theorem amf{r sz bytes:Nat}{s x:aX}(hs:notS (rd fr s)=true)(hx:isNe (rd fr x)=true):aM E call n ((u,⟨some r,.app sz bytes s x false false,none⟩)::ds) bw ⟨fr,lh,sh⟩=
  if meets u bw ⟨false,pt r (rd fr s),pt r (rd fr s)⟩=true then ke E call n ds (bw++ [⟨false,pt r (rd fr s),pt r (rd fr s)⟩]) (aj E call n [⟨some r,.app sz bytes s x false false,none⟩] ⟨fr,lh,sh⟩)else none:=by
 refine nM fun J=> ?_
 cases CV:rd fr x with
 |sl cs m ex=>
  cases m with
  |zero=>simp_all[isNe]
  |succ m=>
   by_cases hc:cs.length=(m+1)*sz
   ·have K:cg sz (rd fr x)= .ret (m+1,cs):=by rw[CV];simp only[cg,hc,if_true]
    obtain⟨v,F,hr,D⟩:=qm (q:=jr r sz bytes (rd fr s) (rd fr x) false false) (by rfl) (by rw[dC];rfl) J
    have N:=Od hs hr
    have D:=D (by rw[N];simp)
    rw[D]
    unfold jr at hr ⊢
    rw[K]at hr ⊢
    simp only[Q.bind,Nat.add_one_ne_zero,if_false]at hr ⊢
    cases LC:rd fr s with
    |nilsl=>
     rw[LC]at hr
     simp only at hr ⊢
     split at hr
     ·rename_i H
      rw[if_pos H]
      simp[jq,Q.run]at hr
      obtain⟨rfl,rfl⟩:=hr
      rfl
     ·simp[Q.run]at hr
    |sl O U e2=>
     rw[LC]at hr
     cases e2 with
     |false=>simp[Q.run]at hr
     |true=>
      simp only at hr ⊢
      split at hr
      ·rename_i H
       rw[if_pos H]
       simp[jq,Q.run]at hr
       obtain⟨rfl,rfl⟩:=hr
       rfl
      ·simp[Q.run]at hr
    |isl sp k g off len V=>
     cases sp with
     |S=>grind [notS]
     |L=>
      grind [Q.run,Option.some.injEq,AV.val.injEq,Q.asks,Q.log,dg,pt]
    |_=>grind [Q.run]
   ·obtain⟨v,F,hr,D⟩:=qm (q:=jr r sz bytes (rd fr s) (rd fr x) false false) (by rfl) (by rw[dC];rfl) J
    simp_all[jr,cg,Q.bind,Q.run]
 |_=>grind [isNe]
def pv:ah→Bool
 |⟨_,.cells _ _ bx⟩=>bx
 |_=>false
def I5(lh:aB ah):T→Bool
 | .ptr .L k _ _=>pv (ab lh k)
 |_=>false
theorem Q5{k g off:Nat}:I5 lh (.ptr .L k g off)=pv (ab lh k):=nr rfl
theorem F7{g wm:Nat}{cs:List T}{bx:Bool}:pv ⟨g,.cells cs wm bx⟩=bx:=nr rfl
theorem ax1{x v:aX}{m:Nat}(hx:I5 lh (rd fr x)=true):aM E call n ((u,⟨none,.st x v m,none⟩)::ds) bw ⟨fr,lh,sh⟩=
  if meets u bw ⟨false,nj (rd fr x),nj (rd fr x)⟩=true then ke E call n ds (bw++ [⟨false,nj (rd fr x),nj (rd fr x)⟩]) (aj E call n [⟨none,.st x v m,none⟩] ⟨fr,lh,sh⟩)else none:=by
 refine nM fun F=> ?_
 cases CV:rd fr x with
 |ptr sp k g off=>
  cases sp with
  |S=>grind [I5]
  |L=>
   obtain⟨w,H,hr,r⟩:=qm (q:=nI (rd fr x) (rd fr v) m) (by rfl) (by rw[dC];rfl) F
   rw[CV]at hx hr r
   simp only[I5]at hx
   unfold nI at hr r
   split at hr
   ·simp[Q.run]at hr
   ·rename_i J
    rw[if_neg J]at r
    simp only[Q.run,Q.asks,Q.log]at hr r
    have Oe:(St.mk fr lh sh).get .L k=ab lh k:=rfl
    rw[Oe]at hr r
    generalize ab lh k=e at hx hr r
    obtain⟨N,ob⟩:=e
    cases ob with
    |none=>simp[pv]at hx
    |map a b c=>simp[pv]at hx
    |cells cs wm bx=>
     simp only[pv]at hx
     subst hx
     simp only at hr r
     split at hr
     ·rename_i K
      rw[if_pos K]at r
      split at hr
      ·rename_i hc
       rw[if_pos hc]at r
       have D:(true&&Sp.L==Sp.L)=true:=rfl
       simp only[D,if_true,Q.run,Option.some.injEq,AV.val.injEq]at hr r
       obtain⟨rfl,rfl⟩:=hr
       exact r rfl
      ·simp[Q.run]at hr
     ·simp[Q.run]at hr
 |_=>grind [I5]
end
section
variable{α β:Type}[DecidableEq α]
def aU:List (α×β)→α→Option β
 | [],_=>none
 |p::m,a=>if a=p.1 then some p.2 else aU m a
def j0:List (α×β)→α→Option Nat
 | [],_=>none
 |p::m,a=>if a=p.1 then some 0 else(j0 m a).map (· +1)
variable{ek:EK}{kT:α→T}{vT:β→T}
theorem F8(r: ∀a b,sy ek (kT a) (kT b)=some (decide (a=b)))(a:α): ∀m:List (α×β),iD ek (kT a) (m.map fun p=>kT p.1)=some (j0 m a)
 | []=>rfl
 |p::m=>by
  rw[List.map_cons,QZ,r,F8 r a m,j0]
  by_cases h:a=p.1
  ·rw[decide_eq_true h,if_pos h];rfl
  ·rw[decide_eq_false h,if_neg h];rfl
theorem pw(a:α): ∀m:List (α×β),aU m a=(j0 m a).bind fun i=>(m[i]?).map (·.2)
 | []=>rfl
 |p::m=>by
  rw[aU,j0]
  by_cases h:a=p.1
  ·grind
  ·rw[if_neg h,if_neg h,pw a m]
   cases j0 m a <;> rfl
theorem u7(a:α): ∀(m:List (α×β)) (i:Nat),j0 m a=some i→i<m.length
 | [],i,h=>by simp[j0]at h
 |p::m,i,h=>by
  rw[j0]at h
  split at h
  ·grind
  ·cases r:j0 m a with
   |none=>grind
   |some j=>
    rw[r]at h
    simp at h
    have:=u7 a m j r
    grind
theorem amg(r: ∀a b,sy ek (kT a) (kT b)=some (decide (a=b)))(hk: ∀a,isKey ek (kT a)=true)(m:List (α×β))(a:α)(z:T):
  jb ek (m.map fun p=>kT p.1) (m.map fun p=>vT p.2) (kT a) z true=some (match aU m a with|some v=> .tup [vT v,.b true]|none=> .tup [z,.b false]):=by
 rw[Oc (hk a),F8 r,pw]
 cases D:j0 m a with
 |none=>rfl
 |some i=>
  grind [IX,List.getElem?_eq_getElem,u7]
theorem Og(r: ∀a b,sy ek (kT a) (kT b)=some (decide (a=b)))(hk: ∀a,isKey ek (kT a)=true)(m:List (α×β))(a:α)(z:T):
  jb ek (m.map fun p=>kT p.1) (m.map fun p=>vT p.2) (kT a) z false=some (match aU m a with|some v=>vT v|none=>z):=by
 rw[Oc (hk a),F8 r,pw]
 cases D:j0 m a with
 |none=>rfl
 |some i=>
  grind [IX,List.getElem?_eq_getElem,u7]
theorem u9(r: ∀a b,sy ek (kT a) (kT b)=some (decide (a=b)))(m:List (α×β))(a:α)(v:β)(h:aU m a=none):
  lU ek (kT a) (vT v) (m.map fun p=>kT p.1) (m.map fun p=>vT p.2)=some ((m++ [(a,v)]).map (fun p=>kT p.1),(m++ [(a,v)]).map (fun p=>vT p.2)):=by
 rw[aex,F8 r]
 rw[pw]at h
 cases D:j0 m a with
 |none=>simp[Q0]
 |some i=>
  grind [List.getElem?_eq_getElem,u7]
theorem lQ(a b:α)(v:β): ∀m:List (α×β),aU (m++ [(b,v)]) a=match aU m a with|some u=>some u|none=>if a=b then some v else none
 | []=>by simp[aU]
 |p::m=>by
  rw[List.cons_append,aU,aU,lQ a b v m]
  grind
end
end Go.Ev
namespace Go.Ev
open Go
theorem LX{r:List T}:scalar (.tup r)=r.all jg:=by
 unfold scalar
 congr 1
theorem aeN{x:Bool}:jg (.b x)=true:=nr rfl
theorem aeO{k:IntKind}{n:Int}:jg (.i k n)=true:=nr rfl
theorem aeP{l:List Nat}:jg (.s l)=true:=nr rfl
theorem I6:jg .nilsl=true:=nr rfl
theorem XB{cs:List T}{n:Nat}{e:Bool}:jg (.sl cs n e)=false:=nr rfl
def BI(sh:List ah):List Up→List ah
 | []=>sh
 |(.L,_,_)::us=>BI sh us
 |(.S,k,e)::us=>BI (aK sh k e) us
theorem XD{sh:List ah}:BI sh []=sh:=nr rfl
theorem amh{sh:List ah}{k:Nat}{e:ah}{us:List Up}:BI sh ((.L,k,e)::us)=BI sh us:=nr rfl
theorem BJ: ∀(a:List Up) (sh:List ah) (b:List Up),BI sh (a++b)=BI (BI sh a) b
 | [],sh,b=>rfl
 |(.L,k,e)::a,sh,b=>BJ a sh b
 |(.S,k,e)::a,sh,b=>BJ a (aK sh k e) b
theorem F9: ∀(us:List Up) (fr:Fr) (lh:aB ah) (sh:List ah),((St.mk fr lh sh).ups us).sh=BI sh us
 | [],_,_,_=>rfl
 |(.L,k,e)::us,fr,lh,sh=>F9 us fr (iK lh k e) sh
 |(.S,k,e)::us,fr,lh,sh=>F9 us fr lh (aK sh k e)
def bt(lh:aB ah)(v:T)(k sz n:Nat)(cs:List T):Prop:=
 (n=0∧v= .nilsl∧cs= [])∨(∃g wm,v= .isl .L k g 0 n sz∧ab lh k=⟨g,.cells cs wm false⟩∧cs.length=n*sz∧0<n)
def cE(n:Nat)(cs:List T):T:=if n=0 then .nilsl else .sl cs n false
theorem hZ{n:Nat}{cs:List T}(h:n=0→cs= []):IsSl (cE n cs) n cs:=by
 unfold cE
 split
 ·rename_i h0;exact Or.inl ⟨rfl,h0,h h0⟩
 ·exact Or.inr ⟨false,rfl⟩
section
variable{lh:aB ah}{sh:List ah}{v:T}{k sz n:Nat}{cs:List T}
theorem bt.nil:bt lh .nilsl k sz 0 []:=Or.inl ⟨rfl,rfl,rfl⟩
theorem bt.len(h:bt lh v k sz n cs):cs.length=n*sz:=by
 rcases h with⟨rfl,_,rfl⟩|⟨g,wm,_,_,h,_⟩
 ·simp
 ·exact h
theorem bt.isl(h:bt lh v k sz n cs):IsSl (cE n cs) n cs:=hZ fun h0=>by
 have:=h.len;rw[h0,Nat.zero_mul]at this;exact List.length_eq_zero_iff.1 this
theorem bt.congr{r:aB ah}(h:bt lh v k sz n cs)(e:ab r k=ab lh k):bt r v k sz n cs:=by
 rcases h with h|⟨g,wm,h1,h2,h3,h4⟩
 ·exact Or.inl h
 ·exact Or.inr ⟨g,wm,h1,by rw[e,h2],h3,h4⟩
theorem bt.notS(h:bt lh v k sz n cs):Ev.notS v=true:=by
 rcases h with⟨_,rfl,_⟩|⟨g,wm,rfl,_⟩ <;> rfl
theorem bt.lenI(h:bt lh v k sz n cs):Ev.lenI v=some (.i .i64 (n:Int)):=by
 rcases h with⟨rfl,rfl,_⟩|⟨g,wm,rfl,_⟩ <;> rfl
theorem bt.noTup(h:bt lh v k sz n cs):Ev.noTup v=true:=by
 rcases h with⟨_,rfl,_⟩|⟨g,wm,rfl,_⟩ <;> rfl
theorem bt.cells(h:bt lh v k sz n cs):cellsOf v= [v]:=by
 rcases h with⟨_,rfl,_⟩|⟨g,wm,rfl,_⟩ <;> rfl
theorem bt.slC(h:bt lh v k sz n cs):Ev.slC lh sh sz v=some (n,cs):=by
 rcases h with⟨rfl,rfl,rfl⟩|⟨g,wm,rfl,h2,h3,h4⟩
 ·rfl
 ·grind [NU,D1,List.take_length]
def nxV(lh:aB ah)(sh:List ah)(d sz bytes:Nat)(s x:T):T:=match Ev.appW lh sh d sz bytes s x with|some p=>p.1|none=>ba
def Q6(lh:aB ah)(sh:List ah)(d sz bytes:Nat)(s x:T):aB ah:=match Ev.appW lh sh d sz bytes s x with|some p=>p.2|none=>lh
theorem bt.appW{m bytes:Nat}{r:List T}{x:T}(h:bt lh v k sz n cs)(hx:Ev.slC lh sh sz x=some (m+1,r))(H:r.length=(m+1)*sz)(hr:(n+(m+1))*bytes≤roomy):
  Ev.appW lh sh k sz bytes v x=some (nxV lh sh k sz bytes v x,Q6 lh sh k sz bytes v x)∧bt (Q6 lh sh k sz bytes v x) (nxV lh sh k sz bytes v x) k sz (n+(m+1)) (cs++r)∧ ∀j,j≠k→ab (Q6 lh sh k sz bytes v x) j=ab lh j:=by
 have K: ∃J D,Ev.appW lh sh k sz bytes v x=some (J,D)∧bt D J k sz (n+(m+1)) (cs++r)∧ ∀j,j≠k→ab D j=ab lh j:=by
  unfold Ev.appW
  rw[hx,Option.bind_some]
  rcases h with⟨rfl,rfl,rfl⟩|⟨g,wm,rfl,h2,h3,h4⟩
  ·rw[uX,if_pos (by simpa using hr)]
   refine⟨_,_,rfl,Or.inr ⟨_,_,by rw[Nat.zero_add],wR _ _ _,by simpa using H,by omega⟩,fun j F=>bK _ _ F⟩
  ·rw[IV,h2,BD,if_pos ⟨rfl,rfl,hr,rfl,h3.symm⟩]
   refine⟨_,_,rfl,Or.inr ⟨_,_,rfl,wR _ _ _,by rw[List.length_append,h3,H,Nat.add_mul n (m+1)],by omega⟩,fun j F=>bK _ _ F⟩
 grind [nxV,Q6]
def fzU(lh:aB ah):T→List Up
 | .isl .L k g _ _ _=>match ab lh k with|⟨_,.cells cs _ _⟩=> [(.L,k,⟨g,.cells cs cs.length false⟩)]|_=> []
 |_=> []
theorem XE{sh:List ah}{lh:aB ah}{v:T}:BI sh (fzU lh v)=sh:=by
 unfold fzU
 split
 ·split <;> rfl
 ·rfl
theorem bt.fzW{m:Nat}{keep:Bool}(h:bt lh v k sz n cs):Ev.fzW m lh sh keep v=some (cE n cs,fzU lh v):=by
 rcases h with⟨rfl,rfl,rfl⟩|⟨g,wm,rfl,h2,h3,h4⟩
 ·rfl
 grind [cE,fzU,F5,po,List.take_length]
theorem bt.fzV{keep:Bool}(h:bt lh v k sz n cs):Ev.fzV lh sh keep v=some (cE n cs,fzU lh v):=by
 rcases h with⟨rfl,rfl,rfl⟩|⟨g,wm,rfl,h2,h3,h4⟩
 ·rfl
 grind [cE,fzU,FR,po,List.take_length]
theorem LY{d:Nat}(h:bt lh v k sz n cs)(r:d=k):pt d v= [(.L,k)]:=by
 subst r
 rcases h with⟨_,rfl,_⟩|⟨g,wm,rfl,_⟩ <;> rfl
end
def ax2(sh:List ah)(ek:EK)(m k v:T):Option (List ah):=match m with| .mp .S kk g=>LR sh kk (aE sh kk) g ek k v|_=>none
theorem Oh{sh:List ah}{ek:EK}{kk g:Nat}{k v:T}:ax2 sh ek (.mp .S kk g) k v=LR sh kk (aE sh kk) g ek k v:=nr rfl
theorem ax3{E:Env}{call:kg}{n:Nat}{fr:Fr}{lh:aB ah}{sh:List ah}{os:List aF}{ek:EK}{m k v:aX}(F:LS (rd fr m)=true)(r:froz (rd fr v)=true):aj E call n (⟨none,.mu ek m k v,none⟩::os) ⟨fr,lh,sh⟩=ks (aj E call n os) fr ((ax2 sh ek (rd fr m) (rd fr k) (rd fr v)).map fun D=>(lh,D)):=by
 cases h:rd fr m with
 |mp sp kk g=>
  cases sp with
  |L=>grind [LS]
  |S=>
   rw[axY h r,Oh]
   cases LR sh kk (aE sh kk) g ek (rd fr k) (rd fr v) <;> rfl
 |_=>grind [LS]
theorem IsSl.kept{v:T}{n:Nat}{cs:List T}(h:IsSl v n cs):kept v=true:=by
 rcases h with⟨rfl,_,_⟩|⟨ex,rfl⟩ <;> rfl
end Go.Ev
namespace Go.Ev
open Go
theorem Q7(m:Nat)(D:m≤62)(a:Int):Ev.bin .and (.i .u64 a) (.i .u64 (2 ^ m-1))=some (.i .u64 (a%2 ^ m)):=by
 have h2:(2:Int) ^ m=((2 ^ m:Nat):Int):=by norm_cast
 have N:0<2 ^ m:=Nat.two_pow_pos m
 have F:2 ^ m≤2 ^ 62:=Nat.pow_le_pow_right zO D
 have WQ:(BitVec.ofInt 64 ((2:Int) ^ m-1)).toNat=2 ^ m-1:=by
  grind
 have r:(BitVec.ofInt 64 a &&& BitVec.ofInt 64 ((2:Int) ^ m-1)).toNat=(a%2 ^ m).toNat:=by
  rw[BitVec.toNat_and,WQ,Nat.and_two_pow_sub_one_eq_mod,BitVec.toNat_ofInt]
  have H:0≤a%((2 ^ 64:Nat):Int):=Int.emod_nonneg _ zO
  have h4:(a%((2 ^ 64:Nat):Int))%((2 ^ m:Nat):Int)=a%((2 ^ m:Nat):Int):=Int.emod_emod_of_dvd a (by
   have:(2 ^ m:Nat)∣2 ^ 64:=Nat.pow_dvd_pow 2 zO
   exact Int.natCast_dvd_natCast.2 this)
  have h5:(((a%((2 ^ 64:Nat):Int)).toNat%2 ^ m:Nat):Int)=a%((2 ^ m:Nat):Int):=by
   grind
  grind
 have O:(IntKind.u64).bits=64:=rfl
 simp only[Ev.bin,if_true,mH]
 have J:0≤a%2 ^ m:=by rw[h2];exact Int.emod_nonneg _ zO
 have K:a%2 ^ m<2 ^ m:=by rw[h2];exact Int.emod_lt_of_pos _ zO
 grind [IntKind.wrap]
theorem aeQ{a:Int}:Ev.bin .and (.i .u64 a) (.i .u64 4294967295)=some (.i .u64 (a%4294967296)):=Q7 32 zO a
theorem XF{k':IntKind}{a:Int}{b:Nat}(h:b≤64):Ev.bin .shr (.i .u64 a) (.i k' (b:Int))=some (.i .u64 (a/2 ^ b)):=by
 rw[N9,if_neg zO,Int.toNat_natCast]
 have:min b (IntKind.u64).bits=b:=Nat.min_eq_left h
 grind
theorem aeR{k':IntKind}{a:Int}:Ev.bin .shr (.i .u64 a) (.i k' 32)=some (.i .u64 (a/4294967296)):=XF (b:=32) zO
theorem aeS{a b:Int}(r:a=0∨a=1)(D:b=0∨b=1):Ev.bin .and (.i .i64 a) (.i .i64 b)=some (.i .i64 (min a b)):=by
 rcases r with rfl|rfl <;> rcases D with rfl|rfl <;> rfl
theorem XG{a b:Int}(r:a=0∨a=1)(D:b=0∨b=1):Ev.bin .or (.i .i64 a) (.i .i64 b)=some (.i .i64 (max a b)):=by
 rcases r with rfl|rfl <;> rcases D with rfl|rfl <;> rfl
def XH(lh:aB ah)(k:Nat):List T:=match ab lh k with|⟨_,.cells cs _ _⟩=>cs|_=> []
theorem aeT{lh:aB ah}{k g wm:Nat}{cs:List T}{bx:Bool}(h:ab lh k=⟨g,.cells cs wm bx⟩):XH lh k=cs:=by unfold XH;rw[h]
theorem XI{lh:aB ah}{k g wm:Nat}{bx:Bool}{P:List T→Prop}(h: ∃cs,ab lh k=⟨g,.cells cs wm bx⟩∧P cs):ab lh k=⟨g,.cells (XH lh k) wm bx⟩∧P (XH lh k):=by
 grind [aeT]
end Go.Ev
namespace Go.Ev
open Go
theorem aeU{E:Env}{n:Nat}{os CT:List aF}{b:ak}{st O s2 H J:St}{o:Out}(h1:aj E (ae E) n os st=some O)(h2:aj E (ae E) n CT st=some s2)(K:DC E n b O=some (o,H))(N:DC E n b s2=some (o,J))(hs:AZ (wG os++jh b) H J):DC E n (.fork os CT b) st=some (o,nW (wG os++jh b) H J):=by
 rw[dB]
 obtain⟨r,h1⟩:=sa os h1
 obtain⟨D,h2⟩:=sa CT h2
 obtain⟨m3,K⟩:=dB.1 K
 obtain⟨F,N⟩:=dB.1 N
 have W:r≤r+D+m3+F:=zO
 have X:D≤r+D+m3+F:=zO
 have U:m3≤r+D+m3+F:=zO
 have V:F≤r+D+m3+F:=zO
 refine⟨r+D+m3+F, ?_⟩
 simp only[gH,gV (cj W) os h1,gV (cj X) CT h2,dw (cj U) U b K,dw (cj V) V b N,Np]
 grind
theorem XJ{E:Env}{n:Nat}{os CT:List aF}{b:ak}{fr W X:Fr}{lh D H:aB ah}{sh F:List ah}{K s2:St}(J:wG CT=wG os)(h1:aj E (ae E) n os ⟨fr,lh,sh⟩=some K)(h2:aj E (ae E) n CT ⟨fr,lh,sh⟩=some s2)(N:DC E n b K=some (.nrm,⟨W,D,F⟩))(O:DC E n b s2=some (.nrm,⟨X,H,F⟩))(Y: ∀k,k∉wG os++jh b→ab D k=ab H k):
  ∃(U:Fr) (V:aB ah),DC E n (.fork os CT b) ⟨fr,lh,sh⟩=some (.nrm,⟨U,V,F⟩)∧(∀k,k∉wG os++jh b→aa U k=aa fr k)∧ ∀k,k∉wG os++jh b→ab V k=ab D k:=by
 have p: ∀{r:List aF} {s:St} {f:Fr} {l:aB ah},wG r=wG os→aj E (ae E) n r ⟨fr,lh,sh⟩=some s→DC E n b s=some (.nrm,⟨f,l,F⟩)→ ∀k,k∉wG os++jh b→aa f k=aa fr k:=by
  intro r s f l J h g k hk
  simp only[List.mem_append,not_or]at hk
  have a:=dY g k (by simpa using hk.2)
  have c:=pn r h k (by rw[J];exact hk.1)
  exact a.trans c
 have Z:=p rfl h1 N
 have XK:=p J h2 O
 refine⟨_,_,aeU h1 h2 N O ⟨rfl,fun k hk=>(Z k hk).trans (XK k hk).symm,Y⟩,fun k hk=> ?_,fun k hk=> ?_⟩
 ·grind [oa]
 ·show aB.get fv (AY _ D H) k=_
  rw[DV,if_neg hk];rfl
def nl:ak→ak
 | .fork os _ b=> .seq (.region os) b
 |c=>c
def nn:ak→ak
 | .fork _ CT b=> .seq (.region CT) b
 |c=>c
def aeV:ak→Bool
 | .fork os CT _=>decide (wG CT=wG os)
 |_=>false
theorem BK{E:Env}{n:Nat}{os:List aF}{b:ak}{st t:St}{o:Out}(h:DC E n (.seq (.region os) b) st=some (o,t)): ∃s,aj E (ae E) n os st=some s∧DC E n b s=some (o,t):=by
 rw[qP,DX]at h
 cases hs:aj E (ae E) n os st with
 |none=>rw[hs]at h;cases h
 |some s=>rw[hs]at h;exact⟨s,rfl,h⟩
theorem aeW{E:Env}{n:Nat}{c:ak}{fr U V:Fr}{lh r O:aB ah}{sh D:List ah}(hc:aeV c=true)(F:DC E n (nl c) ⟨fr,lh,sh⟩=some (.nrm,⟨U,r,D⟩))(H:DC E n (nn c) ⟨fr,lh,sh⟩=some (.nrm,⟨V,O,D⟩))(W: ∀k,(jh c).contains k=false→ab r k=ab O k):
  ∃(J:Fr) (K:aB ah),DC E n c ⟨fr,lh,sh⟩=some (.nrm,⟨J,K,D⟩)∧(∀k,(jh c).contains k=false→aa J k=aa fr k)∧ ∀k,(jh c).contains k=false→ab K k=ab r k:=by
 cases c with
 |fork os CT b=>
  obtain⟨X,e1,F⟩:=BK F
  obtain⟨s2,e2,H⟩:=BK H
  have N: ∀k,(jh (.fork os CT b)).contains k=false↔k∉wG os++jh b:=by
   intro k
   show(wG os++jh b).contains k=false↔_
   simp
  obtain⟨J,K,Y,Z,q3⟩:=XJ (of_decide_eq_true hc) e1 e2 F H (fun k hk=>W k ((N k).2 hk))
  grind
 |_=>cases hc
section
variable{k:IntKind}{a b:Int}{s t:List Nat}
theorem bnd{p:Prop}[Decidable p]:(some (T.b (decide p)):Option T)=if p then some (.b true)else some (.b false):=by grind
theorem ax4{p:Prop}[Decidable p]:(some (T.b (!decide p)):Option T)=if p then some (.b false)else some (.b true):=by grind
theorem XL:Ev.bin .eql (.i k a) (.i k b)=if a=b then some (.b true)else some (.b false):=NX.trans bnd
theorem XM:Ev.bin .neq (.i k a) (.i k b)=if a=b then some (.b false)else some (.b true):=NY.trans ax4
theorem XN:Ev.bin .lss (.i k a) (.i k b)=if a<b then some (.b true)else some (.b false):=NZ.trans bnd
theorem XO:Ev.bin .leq (.i k a) (.i k b)=if a≤b then some (.b true)else some (.b false):=N5.trans bnd
theorem XP:Ev.bin .gtr (.i k a) (.i k b)=if b<a then some (.b true)else some (.b false):=N6.trans bnd
theorem XQ:Ev.bin .geq (.i k a) (.i k b)=if b≤a then some (.b true)else some (.b false):=N8.trans bnd
theorem Q8:Ev.bin .eql (.s s) (.s t)=if s=t then some (.b true)else some (.b false):=IF.trans bnd
theorem Q9:Ev.bin .neq (.s s) (.s t)=if s=t then some (.b false)else some (.b true):=IG.trans ax4
theorem Ra:Ev.bin .lss (.s s) (.s t)=if eU s t=true then some (.b true)else some (.b false):=by grind [II]
end
def Gd(I:St→Prop)(R:Out→St→Prop)(x:Option (Out×St)):Prop:= ∃o st,x=some (o,st)∧((o= .nrm∧I st)∨(o≠ .nrm∧R o st))
section
variable{I:St→Prop}{R:Out→St→Prop}{p:Prop}[Decidable p]{x y:Option (Out×St)}{st:St}{i:Nat}
theorem px(h1:p→Gd I R x)(h2: ¬p→Gd I R y):Gd I R (if p then x else y):=by grind
theorem cS(h:I st):Gd I R (some (.nrm,st)):=⟨_,_,rfl,.inl ⟨rfl,h⟩⟩
theorem eL(h:R (.ext i) st):Gd I R (some (.ext i,st)):=⟨_,_,rfl,.inr ⟨by simp,h⟩⟩
theorem tz(h:R .ret st):Gd I R (some (.ret,st)):=⟨_,_,rfl,.inr ⟨by simp,h⟩⟩
end
theorem dJ{E:Env}{n:Nat}{a:ak}(I:Nat→St→Prop)(P:Fr→aB ah→List ah→Prop)(o:Out)(N:Nat)
  (step: ∀k st,k<N→I k st→Gd (I (k+1)) (fun o' r=>o'=o∧P r.fr r.lh r.sh) (DC E n a st))
  (D: ∀st,I N st→Gd (fun _=>False) (fun o' r=>o'=o∧P r.fr r.lh r.sh) (DC E n a st)) (fr:Fr) (lh:aB ah) (sh:List ah) (h0:I 0 ⟨fr,lh,sh⟩):
  DC E n (.loop a) ⟨fr,lh,sh⟩=some (o,⟨kR E n a fr lh sh,iy E n a fr lh sh,iF E n a fr lh sh⟩)∧P (kR E n a fr lh sh) (iy E n a fr lh sh) (iF E n a fr lh sh):=by
 refine bF (cu I _ N (fun k st hk hi=> ?_) (fun st hi=> ?_) 0 _ (Nat.zero_le _) h0)
 ·obtain⟨o',r,e,h|h⟩:=step k st hk hi
  ·grind
  ·grind
 ·obtain⟨o',r,e,h|h⟩:=D st hi
  ·exact h.2.elim
  ·grind
end Go.Ev
namespace Go.Ev
open Go
theorem aB.put_self{α:Type}{d v:α}(D:v≠d): ∀{f:Nat} {t:aB α} {n:Nat},n<f→aB.get d t n=v→aB.put d f t n v=t
 |0,t,n,h,_=>by omega
 |f+1,.nil,n,_,e=>absurd e.symm (by rw[aB.get_nil];exact D)
 |f+1,.nd w l r,0,_,e=>by unfold aB.get at e;simp only at e;rw[e];unfold aB.put;rfl
 |f+1,.nd w l r,k+1,h,e=>by
  unfold aB.get at e;simp only at e
  unfold aB.put;simp only
  have hk:k/2<f:=zO
  cases F:Nat.beq (k%2) 0 <;> rw[F]at e <;> simp only[cond_true,cond_false]at e ⊢ <;> rw[aB.put_self D hk e]
theorem Rb{fr:Fr}{k:Nat}{v:T}(h:aa fr k=v)(r:v≠ba):cQ fr k v=fr:=aB.put_self r (Nat.lt_succ_self k) h
theorem cO{E:Env}{f:Nat}{a:List T}{sh r:List ah}{b:Bool}(h:ae E f a sh=some (.b b,r)):ae E f a sh=if b=true then some (.b true,r)else some (.b false,r):=by cases b <;> simpa using h
section
variable{I:St→Prop}{R:Out→St→Prop}{p:Prop}[Decidable p]{x y:Option (Out×St)}{st:St}{i:Nat}
theorem gdI:Gd I R (if p then x else y)=((p→Gd I R x)∧(¬p→Gd I R y)):=propext (by by_cases h:p <;> simp[h])
theorem gdN:Gd I R (some (.nrm,st))=I st:=propext ⟨fun⟨_,_,e,h⟩=>by cases e;exact h.elim (·.2) (fun h=>absurd rfl h.1),cS⟩
theorem gdX:Gd I R (some (.ext i,st))=R (.ext i) st:=propext ⟨fun⟨_,_,e,h⟩=>by cases e;exact h.elim (fun h=>by cases h.1) (·.2),eL⟩
theorem gdR:Gd I R (some (.ret,st))=R .ret st:=propext ⟨fun⟨_,_,e,h⟩=>by cases e;exact h.elim (fun h=>by cases h.1) (·.2),tz⟩
end
theorem aEL{α β:Type}{p:Prop}[Decidable p]{x y:Option (α×β)}{v:α}:(∃s,(if p then x else y)=some (v,s))=((p→ ∃s,x=some (v,s))∧(¬p→ ∃s,y=some (v,s))):=propext (by by_cases h:p <;> simp[h])
theorem yF{α β:Type}{u v:α}{t:β}:(∃s,some (u,t)=some (v,s))=(u=v):=propext xv
theorem fg{lh:aB ah}{j:Nat}{e:ah}{v:T}{k sz n:Nat}{cs:List T}(h:k≠j):bt (iK lh j e) v k sz n cs=bt lh v k sz n cs:=by unfold bt;rw[bK lh e h]
section
variable{E:Env}{n:Nat}{a:ak}{m:Nat}{fr:Fr}{lh:aB ah}{sh:List ah}
abbrev Lp(E:Env)(n:Nat)(a:ak)(fr:Fr)(lh:aB ah)(sh:List ah)(o:Out)(P:Fr→aB ah→List ah→Prop):Prop:=DC E n (.loop a) ⟨fr,lh,sh⟩=some (o,⟨kR E n a fr lh sh,iy E n a fr lh sh,iF E n a fr lh sh⟩)∧P (kR E n a fr lh sh) (iy E n a fr lh sh) (iF E n a fr lh sh)
theorem XS{b:ak}{st r:St}{o:Out}(D:wrM (jh (.loop b))=m)(h:DC E n b st=some (o,r)){s:Nat}(hs:(m >>> s)%2=0):aa r.fr s=aa st.fr s:=by
 refine dY h s ?_
 show(jh (.loop b)).contains s=false
 cases hc:(jh (.loop b)).contains s with
 |false=>rfl
 |true=>
  have h1:=F3 s _ (List.contains_iff_mem.1 hc)
  rw[D,Nat.testBit,Nat.and_comm,Nat.and_one_is_mod,hs]at h1
  simp at h1
theorem bV(F:wrM (jh (.loop a))=m)(I:Nat→Fr→aB ah→List ah→Prop){P:Fr→aB ah→List ah→Prop}{o:Out}(N:Nat)(h0:I 0 fr lh sh)
  (step: ∀k f l s,k<N→(∀j,(m >>> j)%2=0→aa f j=aa fr j)→I k f l s→Gd (fun t=>I (k+1) t.fr t.lh t.sh) (fun o' t=>o'=o∧P t.fr t.lh t.sh) (DC E n a ⟨f,l,s⟩))
  (r: ∀f l s,(∀j,(m >>> j)%2=0→aa f j=aa fr j)→I N f l s→Gd (fun _=>False) (fun o' t=>o'=o∧P t.fr t.lh t.sh) (DC E n a ⟨f,l,s⟩)):
  Lp E n a fr lh sh o P:=by
 refine dJ (fun k st=>(∀j,(m >>> j)%2=0→aa st.fr j=aa fr j)∧I k st.fr st.lh st.sh) P o N (fun k st hk hi=> ?_) (fun st hi=>r _ _ _ hi.1 hi.2) fr lh sh ⟨fun _ _=>rfl,h0⟩
 obtain⟨o',H,e,h⟩:=step k _ _ _ hk hi.1 hi.2
 exact⟨o',H,e,h.imp (fun h=>⟨h.1,fun j D=>(XS F e D).trans (hi.1 j D),h.2⟩) id⟩
abbrev py(E:Env)(n:Nat)(a:ak)(fr:Fr)(lh:aB ah)(sh:List ah)(e s:Nat)(r:Int)(Q:aB ah→List ah→Prop):Prop:=DC E n (.loop a) ⟨fr,lh,sh⟩=(if r=0 then some (.ext e,⟨kR E n a fr lh sh,iy E n a fr lh sh,iF E n a fr lh sh⟩)else some (.ret,⟨cQ (kR E n a fr lh sh) s (.i .i64 r),iy E n a fr lh sh,iF E n a fr lh sh⟩))∧Q (iy E n a fr lh sh) (iF E n a fr lh sh)
abbrev LpC(E:Env)(n:Nat)(a:ak)(fr:Fr)(lh:aB ah)(sh:List ah)(e s:Nat)(p:Prop)[Decidable p](v:T)(Q:aB ah→List ah→Prop):Prop:=DC E n (.loop a) ⟨fr,lh,sh⟩=(if p then some (.ext e,⟨kR E n a fr lh sh,iy E n a fr lh sh,iF E n a fr lh sh⟩)else some (.ret,⟨cQ (kR E n a fr lh sh) s v,iy E n a fr lh sh,iF E n a fr lh sh⟩))∧Q (iy E n a fr lh sh) (iF E n a fr lh sh)
theorem pz(D:wrM (jh (.loop a))=m){e s:Nat}{p:Prop}[Decidable p]{v:T}(F:v≠ba)(I:Nat→Fr→aB ah→List ah→Prop){Q:aB ah→List ah→Prop}(N:Nat)(h0:I 0 fr lh sh)
  (step: ∀k f l h,k<N→(∀j,(m >>> j)%2=0→aa f j=aa fr j)→I k f l h→Gd (fun t=>I (k+1) t.fr t.lh t.sh) (fun o' t=>o'= .ret∧ ¬p∧aa t.fr s=v∧Q t.lh t.sh) (DC E n a ⟨f,l,h⟩))
  (r: ∀f l h,(∀j,(m >>> j)%2=0→aa f j=aa fr j)→I N f l h→Gd (fun _=>False) (fun o' t=>o'= .ext e∧p∧Q t.lh t.sh) (DC E n a ⟨f,l,h⟩)):
  LpC E n a fr lh sh e s p v Q:=by
 obtain⟨h1,h2,h3⟩:=bV D I (P:=fun f l h=>(¬p→aa f s=v)∧Q l h) (o:=if p then .ext e else .ret) N h0
  (fun k f l h hk p i=>by
    obtain⟨o',t,x,y⟩:=step k f l h hk p i
    exact⟨o',t,x,y.imp id fun⟨a,b,c,d,g⟩=>⟨a,by rw[if_neg c];exact b,fun _=>d,g⟩⟩)
  (fun f l h p i=>by
    obtain⟨o',t,x,y⟩:=r f l h p i
    exact⟨o',t,x,y.imp id fun⟨a,b,c,d⟩=>⟨a,by rw[if_pos c];exact b,fun z=>absurd c z,d⟩⟩)
 refine⟨?_,h3⟩
 rw[h1]
 split
 ·rfl
 ·rename_i hr;rw[Rb (h2 hr) F]
theorem cm(F:wrM (jh (.loop a))=m){e s:Nat}{r:Int}(I:Nat→Fr→aB ah→List ah→Prop){Q:aB ah→List ah→Prop}(N:Nat)(h0:I 0 fr lh sh)
  (step: ∀k f l h,k<N→(∀j,(m >>> j)%2=0→aa f j=aa fr j)→I k f l h→Gd (fun t=>I (k+1) t.fr t.lh t.sh) (fun o' t=>o'= .ret∧r≠0∧aa t.fr s= .i .i64 r∧Q t.lh t.sh) (DC E n a ⟨f,l,h⟩))
  (D: ∀f l h,(∀j,(m >>> j)%2=0→aa f j=aa fr j)→I N f l h→Gd (fun _=>False) (fun o' t=>o'= .ext e∧r=0∧Q t.lh t.sh) (DC E n a ⟨f,l,h⟩)):
  py E n a fr lh sh e s r Q:=pz F (by simp[ba]) I N h0 step D
theorem Rc{lh:aB ah}{k:Nat}{v:ah}(h:ab lh k=v)(r:v≠fv):iK lh k v=lh:=aB.put_self r (Nat.lt_succ_self k) h
theorem lpO{e s k:Nat}{r:Int}{x:ah}{Q:aB ah→List ah→Prop}(h:py E n a fr lh sh e s r fun l h=>(r=0→ab l k=x)∧Q l h)(hx:x.ob≠ .none):
  DC E n (.loop a) ⟨fr,lh,sh⟩=(if r=0 then some (.ext e,⟨kR E n a fr lh sh,iK (iy E n a fr lh sh) k x,iF E n a fr lh sh⟩)else some (.ret,⟨cQ (kR E n a fr lh sh) s (.i .i64 r),iy E n a fr lh sh,iF E n a fr lh sh⟩))∧Q (iy E n a fr lh sh) (iF E n a fr lh sh):=by
 obtain⟨h1,h2,h3⟩:=h
 refine⟨?_,h3⟩
 rw[h1]
 split
 ·rename_i hr;rw[Rc (h2 hr) (fun h=>hx (by rw[h];rfl))]
 ·rfl
end
end Go.Ev
