/- A tree evaluator over the model, proved against it (part G): where it answers, the call returns that answer. Conditions: none beyond its theorems' own. -/
import Derived.Test.YtnkgnjecmfkcfaaGreatEvF
set_option linter.unusedSimpArgs false
set_option linter.unusedVariables false
namespace Go.Ev
open Go
def kept1:T→Bool
 | .isl .S .. | .ptr .S .. | .mp .S .. =>true
 |t=>froz1 t
def kept:T→Bool
 | .agg cs=>cs.all kept1
 | .tup cs=>cs.all kept1
 | .fn _ a c=>a.all kept1&&c.all kept1
 |t=>kept1 t
theorem IP{n:Nat}{t:T}(h:kept1 t=true):fz true (n+1) t= .ret (t,[]):=by
 cases t with
 |isl sp k g off len sz=>cases sp with|S=>rfl|L=>simp[kept1,froz1]at h
 |ptr sp k g off=>cases sp with|S=>rfl|L=>simp[kept1,froz1]at h
 |mp sp k g=>cases sp with|S=>rfl|L=>simp[kept1,froz1]at h
 |_=>exact qu h
theorem lO{n:Nat}: ∀(ts:List T),ts.all kept1=true→bh (fz true (n+1)) ts= .ret (ts,[])
 | [],_=>rfl
 |t::ts,h=>by
  simp_all[List.all_cons,Bool.and_eq_true,bh,IP,lO,Q.bind,List.append_nil]
theorem yZ{n:Nat}{t:T}(h:kept t=true):fz true (n+2) t= .ret (t,[]):=by
 cases t with
 |agg cs=>simp only[kept]at h;rw[Fh,lO cs h];rfl
 |tup cs=>simp only[kept]at h;rw[Lv,lO cs h];rfl
 |fn f a c=>simp only[kept,Bool.and_eq_true]at h;rw[ah7,lO a h.1,lO c h.2];rfl
 |_=>exact IP h
theorem xj{n:Nat}: ∀(ts:List T),ts.all kept=true→bh (fz true (n+2)) ts= .ret (ts,[])
 | [],_=>rfl
 |t::ts,h=>by
  simp_all[List.all_cons,Bool.and_eq_true,bh,yZ,xj,Q.bind,List.append_nil]
theorem ald{x:Bool}:kept (.b x)=true:=nr rfl
theorem ale{k:IntKind}{n:Int}:kept (.i k n)=true:=nr rfl
theorem alf{l:List Nat}:kept (.s l)=true:=nr rfl
theorem LL:kept .nilsl=true:=nr rfl
theorem IQ:kept .nilptr=true:=nr rfl
theorem adr{cs:List T}:kept (.vp cs)=true:=nr rfl
theorem ads{cs:List T}{n:Nat}{e:Bool}:kept (.sl cs n e)=true:=nr rfl
theorem Xi{k g off:Nat}:kept (.ptr .S k g off)=true:=nr rfl
theorem uZ{k g:Nat}:kept (.mp .S k g)=true:=nr rfl
theorem Xj{cs:List T}:kept (.agg cs)=cs.all kept1:=nr rfl
theorem Xk{cs:List T}:kept (.tup cs)=cs.all kept1:=nr rfl
theorem adt{x:Bool}:kept1 (.b x)=true:=nr rfl
theorem adu{k:IntKind}{n:Int}:kept1 (.i k n)=true:=nr rfl
theorem adv{l:List Nat}:kept1 (.s l)=true:=nr rfl
theorem IS:kept1 .nilsl=true:=nr rfl
theorem Fy:kept1 .nilptr=true:=nr rfl
theorem IU:kept1 .nilmp=true:=nr rfl
theorem Xl{cs:List T}:kept1 (.vp cs)=true:=nr rfl
theorem Xm{ks r:List T}:kept1 (.vm ks r)=true:=nr rfl
theorem Xn{cs:List T}{n:Nat}{e:Bool}:kept1 (.sl cs n e)=true:=nr rfl
theorem Ra{k g off:Nat}:kept1 (.ptr .S k g off)=true:=nr rfl
theorem Xo{k g:Nat}:kept1 (.mp .S k g)=true:=nr rfl
theorem fV{t:T}(h:froz1 t=true):kept1 t=true:=by cases t <;> first|rfl|(simp[froz1]at h)
section
variable{E:Env}{call:jP}{n:Nat}{fr:Fr}{lh:aD ah}{sh:List ah}{os:List aF}{d:Nat}
theorem Xp{v:T}(h:kept v=true):fzV lh sh true v=some (v,[]):=by
 unfold fzV aJ;rw[yZ h];rfl
theorem Qg{D:Nat}{af:aj}{f:Nat}{args:List T}(F:E.fn f=some af)(H:af.eff=true)(J:args.all kept=true):bu E call D ⟨fr,lh,sh⟩ f args=
  (call f args sh).bind fun r=>some (r.1,⟨fr,lh,r.2⟩):=by
 unfold bu
 simp only[F,H,if_true]
 unfold aJ
 rw[xj args J]
 simp only[Q.run,yY]
 cases call f args sh <;> rfl
theorem alg{x:aP}(D:d<n)(r:noTup (rd fr x)=true)(hk:kept (rd fr x)=true):ai E call n (⟨some d,.box x true,none⟩::os) ⟨fr,lh,sh⟩=ai E call n os ⟨cH fr d (.ptr .S sh.length 1 0),lh,bI sh sh.length ⟨1,.cells (cellsOf (rd fr x)) 0 true⟩⟩:=by
 rw[kI (by rfl) (show CJ n (some d)from D)]
 unfold one
 simp only[bz,r,Bool.not_true,Bool.false_eq_true,if_false,if_true]
 unfold aJ
 rw[yZ hk]
 simp only[Q.bind,List.isEmpty_nil,r,Bool.and_self,if_true]
 rfl
theorem Xq{k g off m:Nat}{v:T}(e:ah)(r: ∀cs D bx,e.ob= .cells cs D bx→bx=true)(h1:(cellsOf v).length=m)(h2:noTup v=true)(J:kept v=true):gV lh sh (Q.run (St.mk .nil lh sh).get sh.length (IM k g off m v e))=Bd lh sh k e g off v m:=by
 obtain⟨K,ob⟩:=e
 unfold Bd IM
 by_cases N:K=g
 ·subst N
  cases ob with
  |none=>simp[Q.run,gV]
  |map ks U z=>simp[Q.run,gV]
  |cells cs D bx=>
   have La:=r cs D bx rfl
   subst La
   by_cases r:D≤off∧off+m≤cs.length
   ·have F:(decide (D≤off)&&decide (off+m≤cs.length))=true:=by simp[r.1,r.2]
    have La:(true&&Sp.S==Sp.L)=false:=rfl
    have H:(true&&Sp.S==Sp.S)=true:=rfl
    unfold aJ
    simp only[if_true,F,La,H,Bool.false_eq_true,if_false]
    rw[yZ J]
    have O:(jv [] Sp.S k|| !noTup v||decide ((cellsOf v).length≠m))=false:=by simp[jv,h1,h2]
    simp only[Q.bind,O,Bool.false_eq_true,if_false,Q.run,gV]
    rw[if_pos ⟨trivial,h1,h2,r⟩]
    rfl
   grind [Bool.false_eq_true,Q.run,gV]
 grind [Q.run,gV]
theorem iU{k g r off m D:Nat}{cs:List T}{v:T}(F:kept v=true)(H:aI sh k=⟨r,.cells cs D true⟩):stV lh sh (.ptr .S k g off) v m=Bd lh sh k ⟨r,.cells cs D true⟩ g off v m:=by
 by_cases h1:(cellsOf v).length=m
 ·cases h2:noTup v with
  |false=>
   grind [stV,nw,Bd,Q.run]
  |true=>
   unfold stV nw
   have:(decide ((cellsOf v).length≠m)|| !noTup v)=false:=by simp[h1,h2]
   simp only[this,Bool.false_eq_true,if_false]
   have:=Xq (lh:=lh) (sh:=sh) (k:=k) (g:=g) (off:=off) ⟨r,.cells cs D true⟩ (by intro a b c h;cases h;rfl) h1 h2 F
   rw[←this,←H]
   rfl
 grind [stV,nw,Bd,Q.run]
def LM(sh:List ah)(kk:Nat)(e:ah)(g:Nat)(ek:EK)(k v:T):Option (List ah):=
 match e with
 |⟨r,.map ks D false⟩=>if r=g∧isKey ek k=true then(lF ek k v ks D).map fun q=>bI sh kk ⟨g,.map q.1 q.2 false⟩else none
 |_=>none
theorem Xr{kk g r:Nat}{ek:EK}{k v:T}{ks D:List T}:LM sh kk ⟨r,.map ks D false⟩ g ek k v=if r=g∧isKey ek k=true then(lF ek k v ks D).map fun q=>bI sh kk ⟨g,.map q.1 q.2 false⟩else none:=rfl
def adw(kk g:Nat)(ek:EK)(k v:T)(e:ah):Q Am:=if e.g=g&&isKey ek k then match e.ob with
      | .map ks r false=>(fz false aJ v).bind fun p=>match lF ek k p.1 ks r with
        |some q=>if jv p.2 .S kk then .fail else .ret (.val aQ (p.2++ [(.S,kk,⟨g,.map q.1 q.2 false⟩)]))
        |none=> .fail
      |_=> .fail
     else .fail
theorem adx{kk g:Nat}{ek:EK}{k v:T}(e:ah)(H:froz v=true):((kH (Q.run (St.mk fr lh sh).get sh.length (adw kk g ek k v e))).bind fun r=>ai E call n os {(St.mk fr lh sh).ups r.2 with fr:=fr})=
  (LM sh kk e g ek k v).bind fun J=>ai E call n os ⟨fr,lh,J⟩:=by
 obtain⟨F,ob⟩:=e
 unfold adw LM
 by_cases D:F=g∧isKey ek k=true
 ·have:(decide (F=g)&&isKey ek k)=true:=by simp[D.1,D.2]
  simp only[this,if_true]
  cases ob with
  |none=>rfl
  |cells cs N bx=>rfl
  |map ks K z=>
   cases z with
   |true=>rfl
   |false=>
    simp only[if_pos D]
    unfold aJ
    rw[jI H]
    simp only[Q.bind]
    cases lF ek k v ks K with
    |none=>rfl
    |some q=>simp only[jv,List.any_nil,Bool.false_eq_true,if_false,Q.run,List.nil_append];rfl
 grind [Bool.false_eq_true,Q.run,kH]
theorem awo{ek:EK}{m k v:aP}{kk g:Nat}(r:rd fr m= .mp .S kk g)(D:froz (rd fr v)=true):ai E call n (⟨none,.mu ek m k v,none⟩::os) ⟨fr,lh,sh⟩=(LM sh kk (aI sh kk) g ek (rd fr k) (rd fr v)).bind fun F=>ai E call n os ⟨fr,lh,F⟩:=by
 rw[kI (by rfl) (show CJ n none from trivial)]
 unfold one
 simp only[bz,r]
 exact adx (aI sh kk) D
end
section
variable{E:Env}{call:jP}{n:Nat}{fr:Fr}{lh:aD ah}{sh:List ah}{ds:List (List Nat×aF)}{br:List FP}{u:List Nat}{d:Option Nat}
def LN:T→Bool
 | .mp .S .. =>true
 |_=>false
theorem ady{k g:Nat}:LN (.mp .S k g)=true:=nr rfl
theorem awp{ek:EK}{m k v:aP}(hx:LN (rd fr m)=true)(J:froz (rd fr v)=true):aK E call n ((u,⟨none,.mu ek m k v,none⟩)::ds) br ⟨fr,lh,sh⟩=
  if meets u br ⟨false,mB (rd fr m),mB (rd fr m)⟩=true then ke E call n ds (br++ [⟨false,mB (rd fr m),mB (rd fr m)⟩]) (ai E call n [⟨none,.mu ek m k v,none⟩] ⟨fr,lh,sh⟩)else none:=by
 refine mZ fun F=> ?_
 cases H:rd fr m with
 |mp sp kk g=>
  cases sp with
  |L=>grind [LN]
  |S=>
   obtain⟨w,K,hr,r⟩:=pS (q:= .rd .S kk (adw kk g ek (rd fr k) (rd fr v))) (by rfl) (by rw[dm];simp only[bz,H];rfl) F
   simp only[Q.run,Q.log,Q.asks]at hr r
   have D:(St.mk fr lh sh).get .S kk=aI sh kk:=rfl
   rw[D]at hr r
   generalize N:aI sh kk=e at hr r
   obtain⟨O,ob⟩:=e
   unfold adw at hr r
   by_cases U:(decide (O=g)&&isKey ek (rd fr k))=true
   ·simp only[U,if_true]at hr r
    cases ob with
    |none=>simp[Q.run]at hr
    |cells cs X bx=>simp[Q.run]at hr
    |map ks Y V=>
     cases V with
     |true=>simp[Q.run]at hr
     |false=>
      simp only[]at hr r
      unfold aJ at hr r
      rw[jI J]at hr r
      simp only[Q.bind]at hr r
      split at hr
      ·rename_i q W
       simp only[jv,List.any_nil,Bool.false_eq_true,if_false,Q.run,Option.some.injEq,Am.val.injEq]at hr
       obtain⟨rfl,rfl⟩:=hr
       rw[W]at r
       simp only[jv,List.any_nil,Bool.false_eq_true,if_false]at r
       refine r ?_
       simp only[Q.asks,Bool.false_or,inB,List.nil_append,List.all_cons,List.all_nil,Bool.and_true]
       rw[D,N]
       rfl
      ·simp[Q.run]at hr
   grind [Bool.false_eq_true,Q.run]
 |_=>grind [LN]
def xK:FP:=⟨true,[],[]⟩
theorem abf{f:Nat}{af:aj}{as:List aP}(r:E.fn f=some af)(D:af.eff=true)(F:(as.map (rd fr)).all kept=true):
  aK E call n ((u,⟨d,.callf f as,none⟩)::ds) br ⟨fr,lh,sh⟩=if meets u br xK=true then ke E call n ds (br++ [xK]) (ai E call n [⟨d,.callf f as,none⟩] ⟨fr,lh,sh⟩)else none:=by
 refine mZ fun H=> ?_
 unfold bN
 have J:bB (St.mk fr lh sh).rho (.callf f as)=some (some (f,as.map (rd fr))):=by rw[dm];rfl
 simp only[J]
 unfold eE
 simp only[r,D]
 unfold aJ
 rw[xj _ F]
 simp only[Q.run,Q.log,inB,List.all_nil,Bool.not_true,Bool.false_eq_true,if_false,if_true,cR,List.map_nil]
 rfl
theorem IV{rs r:List (Sp×Nat)}:apart ⟨false,rs,r⟩ xK=(GV rs&&GV r):=by
 grind [apart,xK,eD]
theorem IW{rs r:List (Sp×Nat)}:apart xK ⟨false,rs,r⟩=(GV rs&&GV r):=by
 unfold apart xK eD
 simp
theorem adz:GV []=true:=nr rfl
theorem awq{k:Nat}{xs:List (Sp×Nat)}:GV ((.L,k)::xs)=GV xs:=nr rfl
end
end Go.Ev
namespace Go.Ev
open Go
section
variable{E:Env}{n:Nat}{a:ak}
theorem cT(I:Nat→St→Prop)(R:Out→St→Prop)(N:Nat)
  (step: ∀k st,k<N→I k st→(∃bq,DC E n a st=some (.nrm,bq)∧I (k+1) bq)∨(∃o bq,o≠ .nrm∧DC E n a st=some (o,bq)∧R o bq))
  (D: ∀st,I N st→ ∃o bq,o≠ .nrm∧DC E n a st=some (o,bq)∧R o bq):
  ∀(k:Nat) (st:St),k≤N→I k st→ ∃o bq,DC E n (.loop a) st=some (o,bq)∧R o bq:=by
 have r: ∀{st o bq},o≠ .nrm→DC E n a st=some (o,bq)→DC E n (.loop a) st=some (o,bq):=by
  intro st o bq H h
  rw[rJ,h]
  cases o with
  |nrm=>grind
  |ext id=>rfl
  |ret=>rfl
 have F: ∀(m k:Nat) (st:St),N-k=m→k≤N→I k st→ ∃o bq,DC E n (.loop a) st=some (o,bq)∧R o bq:=by
  intro m
  induction m with
  |zero=>
   intro k st J hk h
   have:k=N:=yv
   grind
  |succ m ih=>
   grind [rJ,my]
 grind
theorem cj{fr:Fr}{lh:aD ah}{sh:List ah}{o:Out}{P:Fr→aD ah→List ah→Prop}
  (h: ∃o' r,DC E n (.loop a) ⟨fr,lh,sh⟩=some (o',r)∧o'=o∧P r.fr r.lh r.sh):
  DC E n (.loop a) ⟨fr,lh,sh⟩=some (o,⟨mY E n a fr lh sh,im E n a fr lh sh,iH E n a fr lh sh⟩)∧P (mY E n a fr lh sh) (im E n a fr lh sh) (iH E n a fr lh sh):=by
 obtain⟨o',r,h1,rfl,h2⟩:=h
 exact QU ⟨r.fr,r.lh,r.sh,h1,h2⟩
end
theorem IsSl.kept1{v:T}{n:Nat}{cs:List T}(h:IsSl v n cs):kept1 v=true:=fV h.froz1
end Go.Ev
namespace Go.Ev
open Go
theorem zd{st:St}{a b:List Up}:inB st (a++b)=(inB st a&&inB st b):=by grind [inB]
theorem ze{st:St}{sp:Sp}{k:Nat}{e:ah}(h:xP (st.get sp k)=true):inB st [(sp,k,e)]=true:=by
 cases sp with
 |L=>rfl
 |S=>simp only[inB,List.all_cons,List.all_nil,Bool.and_true,h,Bool.or_true]
section
variable{st:St}{nx:Nat}
theorem u7{f:T→Q (T×List Up)}(r: ∀t p,(f t).run st.get nx=some p→inB st p.2=true): ∀(ts:List T) (p:List T×List Up),(bh f ts).run st.get nx=some p→inB st p.2=true
 | [],p,h=>by simp[bh,Q.run]at h;subst h;rfl
 |t::ts,p,h=>by
  simp only[bh,bt]at h
  cases h1:(f t).run st.get nx with
  |none=>grind
  |some D=>
   rw[h1]at h
   simp only[Option.bind_some]at h
   cases h2:(bh f ts).run st.get nx with
   |none=>grind
   |some F=>
    rw[h2]at h
    simp only[Option.bind_some,Q.run,Option.some.injEq]at h
    subst h
    simp only[zd,r _ _ h1,u7 r ts _ h2,Bool.and_self]
theorem LO: ∀(n:Nat) (keep:Bool) (t:T) (p:T×List Up),(fz keep n t).run st.get nx=some p→inB st p.2=true
 |0,keep,t,p,h=>by simp[fz,Q.run]at h
 |n+1,keep,t,p,h=>by
  have ih:=LO n
  have F:=fun(k:Bool) (ts:List T) (q:List T×List Up)=>u7 (ih k) ts q
  cases t with
  |isl sp k g off len sz=>
   simp only[fz]at h
   split at h
   ·simp[Q.run]at h;subst h;rfl
   ·simp only[Q.run]at h
    cases r:st.get sp k with
    |mk D ob=>
     have J: ∀{o},ob=o→xP (st.get sp k)=xP ⟨D,o⟩:=fun e=>by rw[r,e]
     rw[r]at h
     simp only at h
     split at h
     ·split at h
      ·split at h
       ·simp only[Q.run,Option.some.injEq]at h;subst h;exact ze (by rw[r];rfl)
       ·simp[Q.run]at h
      ·split at h
       ·simp only[bt]at h
        cases h2:(bh (fz false n) (List.take (len*sz) (List.drop off ‹List T›))).run st.get nx with
        |none=>grind
        |some q=>
         rw[h2]at h
         simp only[Option.bind_some,Q.run,Option.some.injEq]at h
         subst h
         simp only[zd,F _ _ _ h2,Bool.true_and]
         exact ze (by rw[r];rfl)
       ·simp[Q.run]at h
      ·simp[Q.run]at h
     ·simp[Q.run]at h
  |mp sp k g=>
   simp only[fz]at h
   split at h
   ·simp[Q.run]at h;subst h;rfl
   ·simp only[Q.run]at h
    cases r:st.get sp k with
    |mk D ob=>
     rw[r]at h
     simp only at h
     split at h
     ·split at h
      ·simp only[Q.run,Option.some.injEq]at h;subst h;exact ze (by rw[r];rfl)
      ·simp[Q.run]at h
     ·simp[Q.run]at h
  |ptr sp k g off=>
   simp only[fz]at h
   split at h
   ·simp[Q.run]at h;subst h;rfl
   ·simp only[Q.run]at h
    cases r:st.get sp k with
    |mk D ob=>
     rw[r]at h
     simp only at h
     split at h
     ·split at h
      ·simp only[bt]at h
       cases h2:(bh (fz false n) (List.drop off ‹List T›)).run st.get nx with
       |none=>grind
       |some q=>
        rw[h2]at h
        simp only[Option.bind_some,Q.run,Option.some.injEq]at h
        subst h
        simp only[zd,F _ _ _ h2,Bool.true_and]
        exact ze (by rw[r];rfl)
      ·simp[Q.run]at h
     ·simp[Q.run]at h
  |fn f a c=>
   simp only[fz,bt]at h
   cases h1:(bh (fz keep n) a).run st.get nx with
   |none=>grind
   |some H=>
    rw[h1]at h
    simp only[Option.bind_some]at h
    cases h2:(bh (fz keep n) c).run st.get nx with
    |none=>grind
    |some K=>
     grind [Q.run,Option.some.injEq,zd,Bool.and_self]
  |agg cs=>
   simp only[fz,bt]at h
   cases h1:(bh (fz keep n) cs).run st.get nx with
   |none=>grind
   |some H=>
    grind [Q.run,Option.some.injEq]
  |tup cs=>
   simp only[fz,bt]at h
   cases h1:(bh (fz keep n) cs).run st.get nx with
   |none=>grind
   |some H=>
    grind [Q.run,Option.some.injEq]
  |_=>simp[fz,Q.run]at h;subst h;rfl
end
section
variable{E:Env}{call:jP}{n:Nat}{fr:Fr}{lh:aD ah}{sh:List ah}{ds:List (List Nat×aF)}{br:List FP}{u:List Nat}{d:Option Nat}
def isNe:T→Bool
 | .sl _ (_+1) _=>true
 |_=>false
theorem adA{cs:List T}{m:Nat}{ex:Bool}:isNe (.sl cs (m+1) ex)=true:=nr rfl
theorem Xs{cs:List T}{ex:Bool}:isNe (.sl cs 1 ex)=true:=nr rfl
def oV(r:Nat):T→List (Sp×Nat)
 | .isl .L k _ _ _ _=> [(.L,k)]
 |_=> [(.L,r)]
theorem LP{r k g off len sz:Nat}:oV r (.isl .L k g off len sz)= [(.L,k)]:=nr rfl
theorem LQ{r:Nat}:oV r .nilsl= [(.L,r)]:=nr rfl
theorem Rb{r len:Nat}{cs:List T}{ex:Bool}:oV r (.sl cs len ex)= [(.L,r)]:=nr rfl
theorem alh{r sz bytes:Nat}{s x:aP}(hs:notS (rd fr s)=true)(hx:isNe (rd fr x)=true):aK E call n ((u,⟨some r,.app sz bytes s x false false,none⟩)::ds) br ⟨fr,lh,sh⟩=
  if meets u br ⟨false,oV r (rd fr s),oV r (rd fr s)⟩=true then ke E call n ds (br++ [⟨false,oV r (rd fr s),oV r (rd fr s)⟩]) (ai E call n [⟨some r,.app sz bytes s x false false,none⟩] ⟨fr,lh,sh⟩)else none:=by
 refine mZ fun D=> ?_
 cases H:rd fr x with
 |sl cs m ex=>
  cases m with
  |zero=>simp_all[isNe]
  |succ m=>
   by_cases hc:cs.length=(m+1)*sz
   ·have N:cm sz (rd fr x)= .ret (m+1,cs):=by rw[H];simp only[cm,hc,if_true]
    obtain⟨v,J,hr,F⟩:=pS (q:=jO r sz bytes (rd fr s) (rd fr x) false false) (by rfl) (by rw[dm];rfl) D
    have O:=N8 hs hr
    have F:=F (by rw[O];simp)
    rw[F]
    unfold jO at hr ⊢
    rw[N]at hr ⊢
    simp only[Q.bind,Nat.add_one_ne_zero,if_false]at hr ⊢
    cases Lw:rd fr s with
    |nilsl=>
     rw[Lw]at hr
     simp only at hr ⊢
     split at hr
     ·rename_i K
      rw[if_pos K]
      simp[jh,Q.run]at hr
      obtain⟨rfl,rfl⟩:=hr
      rfl
     ·simp[Q.run]at hr
    |sl U V e2=>
     rw[Lw]at hr
     cases e2 with
     |false=>simp[Q.run]at hr
     |true=>
      simp only at hr ⊢
      split at hr
      ·rename_i K
       rw[if_pos K]
       simp[jh,Q.run]at hr
       obtain⟨rfl,rfl⟩:=hr
       rfl
      ·simp[Q.run]at hr
    |isl sp k g off len W=>
     cases sp with
     |S=>grind [notS]
     |L=>
      grind [Q.run,Option.some.injEq,Am.val.injEq,Q.asks,Q.log,cR,oV]
    |_=>grind [Q.run]
   ·obtain⟨v,J,hr,F⟩:=pS (q:=jO r sz bytes (rd fr s) (rd fr x) false false) (by rfl) (by rw[dm];rfl) D
    simp_all[jO,cm,Q.bind,Q.run]
 |_=>grind [isNe]
def oW:ah→Bool
 |⟨_,.cells _ _ bx⟩=>bx
 |_=>false
def IX(lh:aD ah):T→Bool
 | .ptr .L k _ _=>oW (ab lh k)
 |_=>false
theorem Rc{k g off:Nat}:IX lh (.ptr .L k g off)=oW (ab lh k):=nr rfl
theorem FA{g r:Nat}{cs:List T}{bx:Bool}:oW ⟨g,.cells cs r bx⟩=bx:=nr rfl
theorem awr{x v:aP}{m:Nat}(hx:IX lh (rd fr x)=true):aK E call n ((u,⟨none,.st x v m,none⟩)::ds) br ⟨fr,lh,sh⟩=
  if meets u br ⟨false,mA (rd fr x),mA (rd fr x)⟩=true then ke E call n ds (br++ [⟨false,mA (rd fr x),mA (rd fr x)⟩]) (ai E call n [⟨none,.st x v m,none⟩] ⟨fr,lh,sh⟩)else none:=by
 refine mZ fun D=> ?_
 cases F:rd fr x with
 |ptr sp k g off=>
  cases sp with
  |S=>grind [IX]
  |L=>
   obtain⟨w,K,hr,r⟩:=pS (q:=nw (rd fr x) (rd fr v) m) (by rfl) (by rw[dm];rfl) D
   rw[F]at hx hr r
   simp only[IX]at hx
   unfold nw at hr r
   split at hr
   ·simp[Q.run]at hr
   ·rename_i N
    rw[if_neg N]at r
    simp only[Q.run,Q.asks,Q.log]at hr r
    have H:(St.mk fr lh sh).get .L k=ab lh k:=rfl
    rw[H]at hr r
    generalize ab lh k=e at hx hr r
    obtain⟨U,ob⟩:=e
    cases ob with
    |none=>simp[oW]at hx
    |map a b c=>simp[oW]at hx
    |cells cs V bx=>
     simp only[oW]at hx
     subst hx
     simp only at hr r
     split at hr
     ·rename_i O
      rw[if_pos O]at r
      split at hr
      ·rename_i hc
       rw[if_pos hc]at r
       have J:(true&&Sp.L==Sp.L)=true:=rfl
       simp only[J,if_true,Q.run,Option.some.injEq,Am.val.injEq]at hr r
       obtain⟨rfl,rfl⟩:=hr
       exact r rfl
      ·simp[Q.run]at hr
     ·simp[Q.run]at hr
 |_=>grind [IX]
end
section
variable{α β:Type}[DecidableEq α]
def aM:List (α×β)→α→Option β
 | [],_=>none
 |p::m,a=>if a=p.1 then some p.2 else aM m a
def jz:List (α×β)→α→Option Nat
 | [],_=>none
 |p::m,a=>if a=p.1 then some 0 else(jz m a).map (· +1)
variable{ek:EK}{kT:α→T}{vT:β→T}
theorem FB(r: ∀a b,pP ek (kT a) (kT b)=some (decide (a=b)))(a:α): ∀m:List (α×β),gq ek (kT a) (m.map fun p=>kT p.1)=some (jz m a)
 | []=>rfl
 |p::m=>by
  rw[List.map_cons,Q6,r,FB r a m,jz]
  by_cases h:a=p.1
  ·rw[decide_eq_true h,if_pos h];rfl
  ·rw[decide_eq_false h,if_neg h];rfl
theorem oX(a:α): ∀m:List (α×β),aM m a=(jz m a).bind fun i=>(m[i]?).map (·.2)
 | []=>rfl
 |p::m=>by
  rw[aM,jz]
  by_cases h:a=p.1
  ·grind
  ·rw[if_neg h,if_neg h,oX a m]
   cases jz m a <;> rfl
theorem u9(a:α): ∀(m:List (α×β)) (i:Nat),jz m a=some i→i<m.length
 | [],i,h=>by simp[jz]at h
 |p::m,i,h=>by
  rw[jz]at h
  split at h
  ·grind
  ·cases r:jz m a with
   |none=>grind
   |some j=>
    rw[r]at h
    simp at h
    have:=u9 a m j r
    grind
theorem ali(r: ∀a b,pP ek (kT a) (kT b)=some (decide (a=b)))(hk: ∀a,isKey ek (kT a)=true)(m:List (α×β))(a:α)(z:T):
  iu ek (m.map fun p=>kT p.1) (m.map fun p=>vT p.2) (kT a) z true=some (match aM m a with|some v=> .tup [vT v,.b true]|none=> .tup [z,.b false]):=by
 rw[N6 (hk a),FB r,oX]
 cases D:jz m a with
 |none=>rfl
 |some i=>
  grind [IL,List.getElem?_eq_getElem,u9]
theorem N9(r: ∀a b,pP ek (kT a) (kT b)=some (decide (a=b)))(hk: ∀a,isKey ek (kT a)=true)(m:List (α×β))(a:α)(z:T):
  iu ek (m.map fun p=>kT p.1) (m.map fun p=>vT p.2) (kT a) z false=some (match aM m a with|some v=>vT v|none=>z):=by
 rw[N6 (hk a),FB r,oX]
 cases D:jz m a with
 |none=>rfl
 |some i=>
  grind [IL,List.getElem?_eq_getElem,u9]
theorem vd(r: ∀a b,pP ek (kT a) (kT b)=some (decide (a=b)))(m:List (α×β))(a:α)(v:β)(h:aM m a=none):
  lF ek (kT a) (vT v) (m.map fun p=>kT p.1) (m.map fun p=>vT p.2)=some ((m++ [(a,v)]).map (fun p=>kT p.1),(m++ [(a,v)]).map (fun p=>vT p.2)):=by
 rw[adl,FB r]
 rw[oX]at h
 cases D:jz m a with
 |none=>simp[Q7]
 |some i=>
  grind [List.getElem?_eq_getElem,u9]
theorem lC(a b:α)(v:β): ∀m:List (α×β),aM (m++ [(b,v)]) a=match aM m a with|some u=>some u|none=>if a=b then some v else none
 | []=>by simp[aM]
 |p::m=>by
  rw[List.cons_append,aM,aM,lC a b v m]
  grind
end
end Go.Ev
namespace Go.Ev
open Go
theorem LR{r:List T}:scalar (.tup r)=r.all iK:=by
 unfold scalar
 congr 1
theorem adB{x:Bool}:iK (.b x)=true:=nr rfl
theorem adC{k:IntKind}{n:Int}:iK (.i k n)=true:=nr rfl
theorem adD{l:List Nat}:iK (.s l)=true:=nr rfl
theorem IY:iK .nilsl=true:=nr rfl
theorem Xt{cs:List T}{n:Nat}{e:Bool}:iK (.sl cs n e)=false:=nr rfl
def Bf(sh:List ah):List Up→List ah
 | []=>sh
 |(.L,_,_)::us=>Bf sh us
 |(.S,k,e)::us=>Bf (bI sh k e) us
theorem Xu{sh:List ah}:Bf sh []=sh:=nr rfl
theorem alj{sh:List ah}{k:Nat}{e:ah}{us:List Up}:Bf sh ((.L,k,e)::us)=Bf sh us:=nr rfl
theorem Bg: ∀(a:List Up) (sh:List ah) (b:List Up),Bf sh (a++b)=Bf (Bf sh a) b
 | [],sh,b=>rfl
 |(.L,k,e)::a,sh,b=>Bg a sh b
 |(.S,k,e)::a,sh,b=>Bg a (bI sh k e) b
theorem FC: ∀(us:List Up) (fr:Fr) (lh:aD ah) (sh:List ah),((St.mk fr lh sh).ups us).sh=Bf sh us
 | [],_,_,_=>rfl
 |(.L,k,e)::us,fr,lh,sh=>FC us fr (je lh k e) sh
 |(.S,k,e)::us,fr,lh,sh=>FC us fr lh (bI sh k e)
def bg(lh:aD ah)(v:T)(k sz n:Nat)(cs:List T):Prop:=
 (n=0∧v= .nilsl∧cs= [])∨(∃g r,v= .isl .L k g 0 n sz∧ab lh k=⟨g,.cells cs r false⟩∧cs.length=n*sz∧0<n)
def bA(n:Nat)(cs:List T):T:=if n=0 then .nilsl else .sl cs n false
theorem fe{n:Nat}{cs:List T}(h:n=0→cs= []):IsSl (bA n cs) n cs:=by
 unfold bA
 split
 ·rename_i h0;exact Or.inl ⟨rfl,h0,h h0⟩
 ·exact Or.inr ⟨false,rfl⟩
section
variable{lh:aD ah}{sh:List ah}{v:T}{k sz n:Nat}{cs:List T}
theorem bg.nil:bg lh .nilsl k sz 0 []:=Or.inl ⟨rfl,rfl,rfl⟩
theorem bg.len(h:bg lh v k sz n cs):cs.length=n*sz:=by
 rcases h with⟨rfl,_,rfl⟩|⟨g,wm,_,_,h,_⟩
 ·simp
 ·exact h
theorem bg.isl(h:bg lh v k sz n cs):IsSl (bA n cs) n cs:=fe fun h0=>by
 have:=h.len;rw[h0,Nat.zero_mul]at this;exact List.length_eq_zero_iff.1 this
theorem bg.congr{r:aD ah}(h:bg lh v k sz n cs)(e:ab r k=ab lh k):bg r v k sz n cs:=by
 rcases h with h|⟨g,D,h1,h2,h3,h4⟩
 ·exact Or.inl h
 ·exact Or.inr ⟨g,D,h1,by rw[e,h2],h3,h4⟩
theorem bg.notS(h:bg lh v k sz n cs):Ev.notS v=true:=by
 rcases h with⟨_,rfl,_⟩|⟨g,wm,rfl,_⟩ <;> rfl
theorem bg.lenI(h:bg lh v k sz n cs):Ev.lenI v=some (.i .i64 (n:Int)):=by
 rcases h with⟨rfl,rfl,_⟩|⟨g,wm,rfl,_⟩ <;> rfl
theorem bg.noTup(h:bg lh v k sz n cs):Ev.noTup v=true:=by
 rcases h with⟨_,rfl,_⟩|⟨g,wm,rfl,_⟩ <;> rfl
theorem bg.cells(h:bg lh v k sz n cs):cellsOf v= [v]:=by
 rcases h with⟨_,rfl,_⟩|⟨g,wm,rfl,_⟩ <;> rfl
theorem bg.slC(h:bg lh v k sz n cs):Ev.slC lh sh sz v=some (n,cs):=by
 rcases h with⟨rfl,rfl,rfl⟩|⟨g,wm,rfl,h2,h3,h4⟩
 ·rfl
 ·grind [NR,DP,List.take_length]
def nxV(lh:aD ah)(sh:List ah)(d sz bytes:Nat)(s x:T):T:=match Ev.appW lh sh d sz bytes s x with|some p=>p.1|none=>aQ
def Rd(lh:aD ah)(sh:List ah)(d sz bytes:Nat)(s x:T):aD ah:=match Ev.appW lh sh d sz bytes s x with|some p=>p.2|none=>lh
theorem bg.appW{m bytes:Nat}{r:List T}{x:T}(h:bg lh v k sz n cs)(hx:Ev.slC lh sh sz x=some (m+1,r))(H:r.length=(m+1)*sz)(hr:(n+(m+1))*bytes≤roomy):
  Ev.appW lh sh k sz bytes v x=some (nxV lh sh k sz bytes v x,Rd lh sh k sz bytes v x)∧bg (Rd lh sh k sz bytes v x) (nxV lh sh k sz bytes v x) k sz (n+(m+1)) (cs++r)∧ ∀j,j≠k→ab (Rd lh sh k sz bytes v x) j=ab lh j:=by
 have K: ∃J D,Ev.appW lh sh k sz bytes v x=some (J,D)∧bg D J k sz (n+(m+1)) (cs++r)∧ ∀j,j≠k→ab D j=ab lh j:=by
  unfold Ev.appW
  rw[hx,Option.bind_some]
  rcases h with⟨rfl,rfl,rfl⟩|⟨g,wm,rfl,h2,h3,h4⟩
  ·rw[Ba,if_pos (by simpa using hr)]
   refine⟨_,_,rfl,Or.inr ⟨_,_,by rw[Nat.zero_add],xe _ _ _,by simpa using H,by omega⟩,fun j F=>bD _ _ F⟩
  ·rw[IJ,h2,A9,if_pos ⟨rfl,rfl,hr,rfl,h3.symm⟩]
   refine⟨_,_,rfl,Or.inr ⟨_,_,rfl,xe _ _ _,by rw[List.length_append,h3,H,Nat.add_mul n (m+1)],by omega⟩,fun j F=>bD _ _ F⟩
 grind [nxV,Rd]
def fzU(lh:aD ah):T→List Up
 | .isl .L k g _ _ _=>match ab lh k with|⟨_,.cells cs _ _⟩=> [(.L,k,⟨g,.cells cs cs.length false⟩)]|_=> []
 |_=> []
theorem Xv{sh:List ah}{lh:aD ah}{v:T}:Bf sh (fzU lh v)=sh:=by
 unfold fzU
 split
 ·split <;> rfl
 ·rfl
theorem bg.fzW{m:Nat}{keep:Bool}(h:bg lh v k sz n cs):Ev.fzW m lh sh keep v=some (bA n cs,fzU lh v):=by
 rcases h with⟨rfl,rfl,rfl⟩|⟨g,wm,rfl,h2,h3,h4⟩
 ·rfl
 grind [bA,fzU,Fx,oS,List.take_length]
theorem bg.fzV{keep:Bool}(h:bg lh v k sz n cs):Ev.fzV lh sh keep v=some (bA n cs,fzU lh v):=by
 rcases h with⟨rfl,rfl,rfl⟩|⟨g,wm,rfl,h2,h3,h4⟩
 ·rfl
 grind [bA,fzU,NQ,oS,List.take_length]
theorem LS{d:Nat}(h:bg lh v k sz n cs)(r:d=k):oV d v= [(.L,k)]:=by
 subst r
 rcases h with⟨_,rfl,_⟩|⟨g,wm,rfl,_⟩ <;> rfl
end
def aws(sh:List ah)(ek:EK)(m k v:T):Option (List ah):=match m with| .mp .S kk g=>LM sh kk (aI sh kk) g ek k v|_=>none
theorem Oa{sh:List ah}{ek:EK}{kk g:Nat}{k v:T}:aws sh ek (.mp .S kk g) k v=LM sh kk (aI sh kk) g ek k v:=nr rfl
theorem awt{E:Env}{call:jP}{n:Nat}{fr:Fr}{lh:aD ah}{sh:List ah}{os:List aF}{ek:EK}{m k v:aP}(F:LN (rd fr m)=true)(r:froz (rd fr v)=true):ai E call n (⟨none,.mu ek m k v,none⟩::os) ⟨fr,lh,sh⟩=ks (ai E call n os) fr ((aws sh ek (rd fr m) (rd fr k) (rd fr v)).map fun D=>(lh,D)):=by
 cases h:rd fr m with
 |mp sp kk g=>
  cases sp with
  |L=>grind [LN]
  |S=>
   rw[awo h r,Oa]
   cases LM sh kk (aI sh kk) g ek (rd fr k) (rd fr v) <;> rfl
 |_=>grind [LN]
theorem IsSl.kept{v:T}{n:Nat}{cs:List T}(h:IsSl v n cs):kept v=true:=by
 rcases h with⟨rfl,_,_⟩|⟨ex,rfl⟩ <;> rfl
end Go.Ev
namespace Go.Ev
open Go
theorem Re(m:Nat)(D:m≤62)(a:Int):Ev.bin .and (.i .u64 a) (.i .u64 (2 ^ m-1))=some (.i .u64 (a%2 ^ m)):=by
 have h2:(2:Int) ^ m=((2 ^ m:Nat):Int):=by norm_cast
 have N:0<2 ^ m:=Nat.two_pow_pos m
 have F:2 ^ m≤2 ^ 62:=Nat.pow_le_pow_right yv D
 have WH:(BitVec.ofInt 64 ((2:Int) ^ m-1)).toNat=2 ^ m-1:=by
  grind
 have r:(BitVec.ofInt 64 a &&& BitVec.ofInt 64 ((2:Int) ^ m-1)).toNat=(a%2 ^ m).toNat:=by
  rw[BitVec.toNat_and,WH,Nat.and_two_pow_sub_one_eq_mod,BitVec.toNat_ofInt]
  have H:0≤a%((2 ^ 64:Nat):Int):=Int.emod_nonneg _ yv
  have h4:(a%((2 ^ 64:Nat):Int))%((2 ^ m:Nat):Int)=a%((2 ^ m:Nat):Int):=Int.emod_emod_of_dvd a (by
   have:(2 ^ m:Nat)∣2 ^ 64:=Nat.pow_dvd_pow 2 yv
   exact Int.natCast_dvd_natCast.2 this)
  have h5:(((a%((2 ^ 64:Nat):Int)).toNat%2 ^ m:Nat):Int)=a%((2 ^ m:Nat):Int):=by
   grind
  grind
 have O:(IntKind.u64).bits=64:=rfl
 simp only[Ev.bin,if_true,l8]
 have J:0≤a%2 ^ m:=by rw[h2];exact Int.emod_nonneg _ yv
 have K:a%2 ^ m<2 ^ m:=by rw[h2];exact Int.emod_lt_of_pos _ yv
 grind [IntKind.wrap]
theorem adE{a:Int}:Ev.bin .and (.i .u64 a) (.i .u64 4294967295)=some (.i .u64 (a%4294967296)):=Re 32 yv a
theorem Xw{k':IntKind}{a:Int}{b:Nat}(h:b≤64):Ev.bin .shr (.i .u64 a) (.i k' (b:Int))=some (.i .u64 (a/2 ^ b)):=by
 rw[NZ,if_neg yv,Int.toNat_natCast]
 have:min b (IntKind.u64).bits=b:=Nat.min_eq_left h
 grind
theorem adF{k':IntKind}{a:Int}:Ev.bin .shr (.i .u64 a) (.i k' 32)=some (.i .u64 (a/4294967296)):=Xw (b:=32) yv
theorem adG{a b:Int}(r:a=0∨a=1)(D:b=0∨b=1):Ev.bin .and (.i .i64 a) (.i .i64 b)=some (.i .i64 (min a b)):=by
 rcases r with rfl|rfl <;> rcases D with rfl|rfl <;> rfl
theorem Xx{a b:Int}(r:a=0∨a=1)(D:b=0∨b=1):Ev.bin .or (.i .i64 a) (.i .i64 b)=some (.i .i64 (max a b)):=by
 rcases r with rfl|rfl <;> rcases D with rfl|rfl <;> rfl
def Xy(lh:aD ah)(k:Nat):List T:=match ab lh k with|⟨_,.cells cs _ _⟩=>cs|_=> []
theorem adH{lh:aD ah}{k g r:Nat}{cs:List T}{bx:Bool}(h:ab lh k=⟨g,.cells cs r bx⟩):Xy lh k=cs:=by unfold Xy;rw[h]
theorem Xz{lh:aD ah}{k g r:Nat}{bx:Bool}{P:List T→Prop}(h: ∃cs,ab lh k=⟨g,.cells cs r bx⟩∧P cs):ab lh k=⟨g,.cells (Xy lh k) r bx⟩∧P (Xy lh k):=by
 grind [adH]
end Go.Ev
namespace Go.Ev
open Go
theorem adI{E:Env}{n:Nat}{os Cf:List aF}{b:ak}{st O s2 H J:St}{o:Out}(h1:ai E (ae E) n os st=some O)(h2:ai E (ae E) n Cf st=some s2)(K:DC E n b O=some (o,H))(N:DC E n b s2=some (o,J))(hs:Ar (wR os++ch b) H J):DC E n (.fork os Cf b) st=some (o,ny (wR os++ch b) H J):=by
 rw[dk]
 obtain⟨r,h1⟩:=rI os h1
 obtain⟨D,h2⟩:=rI Cf h2
 obtain⟨m3,K⟩:=dk.1 K
 obtain⟨F,N⟩:=dk.1 N
 have W:r≤r+D+m3+F:=yv
 have X:D≤r+D+m3+F:=yv
 have U:m3≤r+D+m3+F:=yv
 have V:F≤r+D+m3+F:=yv
 refine⟨r+D+m3+F, ?_⟩
 simp only[fP,fS (bO W) os h1,fS (bO X) Cf h2,df (bO U) U b K,df (bO V) V b N,Nm]
 grind
theorem XA{E:Env}{n:Nat}{os Cf:List aF}{b:ak}{fr W X:Fr}{lh D H:aD ah}{sh F:List ah}{K s2:St}(J:wR Cf=wR os)(h1:ai E (ae E) n os ⟨fr,lh,sh⟩=some K)(h2:ai E (ae E) n Cf ⟨fr,lh,sh⟩=some s2)(N:DC E n b K=some (.nrm,⟨W,D,F⟩))(O:DC E n b s2=some (.nrm,⟨X,H,F⟩))(Y: ∀k,k∉wR os++ch b→ab D k=ab H k):
  ∃(U:Fr) (V:aD ah),DC E n (.fork os Cf b) ⟨fr,lh,sh⟩=some (.nrm,⟨U,V,F⟩)∧(∀k,k∉wR os++ch b→aa U k=aa fr k)∧ ∀k,k∉wR os++ch b→ab V k=ab D k:=by
 have p: ∀{r:List aF} {s:St} {f:Fr} {l:aD ah},wR r=wR os→ai E (ae E) n r ⟨fr,lh,sh⟩=some s→DC E n b s=some (.nrm,⟨f,l,F⟩)→ ∀k,k∉wR os++ch b→aa f k=aa fr k:=by
  intro r s f l J h g k hk
  simp only[List.mem_append,not_or]at hk
  have a:=fu g k (by simpa using hk.2)
  have c:=oR r h k (by rw[J];exact hk.1)
  exact a.trans c
 have Bh:=p rfl h1 N
 have XD:=p J h2 O
 refine⟨_,_,adI h1 h2 N O ⟨rfl,fun k hk=>(Bh k hk).trans (XD k hk).symm,Y⟩,fun k hk=> ?_,fun k hk=> ?_⟩
 ·grind [nI]
 ·show aD.get eH (Aq _ D H) k=_
  rw[DI,if_neg hk];rfl
def mC:ak→ak
 | .fork os _ b=> .seq (.region os) b
 |c=>c
def mD:ak→ak
 | .fork _ Cf b=> .seq (.region Cf) b
 |c=>c
def adJ:ak→Bool
 | .fork os Cf _=>decide (wR Cf=wR os)
 |_=>false
theorem Bi{E:Env}{n:Nat}{os:List aF}{b:ak}{st t:St}{o:Out}(h:DC E n (.seq (.region os) b) st=some (o,t)): ∃s,ai E (ae E) n os st=some s∧DC E n b s=some (o,t):=by
 rw[Fe,DK]at h
 cases hs:ai E (ae E) n os st with
 |none=>rw[hs]at h;cases h
 |some s=>rw[hs]at h;exact⟨s,rfl,h⟩
theorem adL{E:Env}{n:Nat}{c:ak}{fr U V:Fr}{lh r O:aD ah}{sh D:List ah}(hc:adJ c=true)(F:DC E n (mC c) ⟨fr,lh,sh⟩=some (.nrm,⟨U,r,D⟩))(H:DC E n (mD c) ⟨fr,lh,sh⟩=some (.nrm,⟨V,O,D⟩))(W: ∀k,(ch c).contains k=false→ab r k=ab O k):
  ∃(J:Fr) (K:aD ah),DC E n c ⟨fr,lh,sh⟩=some (.nrm,⟨J,K,D⟩)∧(∀k,(ch c).contains k=false→aa J k=aa fr k)∧ ∀k,(ch c).contains k=false→ab K k=ab r k:=by
 cases c with
 |fork os Cf b=>
  obtain⟨X,e1,F⟩:=Bi F
  obtain⟨s2,e2,H⟩:=Bi H
  have N: ∀k,(ch (.fork os Cf b)).contains k=false↔k∉wR os++ch b:=by
   intro k
   show(wR os++ch b).contains k=false↔_
   simp
  obtain⟨J,K,Y,Z,q3⟩:=XA (of_decide_eq_true hc) e1 e2 F H (fun k hk=>W k ((N k).2 hk))
  grind
 |_=>cases hc
section
variable{k:IntKind}{a b:Int}{s t:List Nat}
theorem bnd{p:Prop}[Decidable p]:(some (T.b (decide p)):Option T)=if p then some (.b true)else some (.b false):=by grind
theorem awu{p:Prop}[Decidable p]:(some (T.b (!decide p)):Option T)=if p then some (.b false)else some (.b true):=by grind
theorem XE:Ev.bin .eql (.i k a) (.i k b)=if a=b then some (.b true)else some (.b false):=NT.trans bnd
theorem XF:Ev.bin .neq (.i k a) (.i k b)=if a=b then some (.b false)else some (.b true):=NU.trans awu
theorem XG:Ev.bin .lss (.i k a) (.i k b)=if a<b then some (.b true)else some (.b false):=NV.trans bnd
theorem XH:Ev.bin .leq (.i k a) (.i k b)=if a≤b then some (.b true)else some (.b false):=NW.trans bnd
theorem XI:Ev.bin .gtr (.i k a) (.i k b)=if b<a then some (.b true)else some (.b false):=NX.trans bnd
theorem XJ:Ev.bin .geq (.i k a) (.i k b)=if b≤a then some (.b true)else some (.b false):=NY.trans bnd
theorem Rf:Ev.bin .eql (.s s) (.s t)=if s=t then some (.b true)else some (.b false):=Iw.trans bnd
theorem Rg:Ev.bin .neq (.s s) (.s t)=if s=t then some (.b false)else some (.b true):=Ix.trans awu
theorem Rh:Ev.bin .lss (.s s) (.s t)=if lessN s t=true then some (.b true)else some (.b false):=by grind [Iy]
end
theorem ifl{α:Type}{p:Prop}[Decidable p]{a b c:α}(h1:p→a=c)(h2: ¬p→b=c):(if p then a else b)=c:=by grind
def Gd(I:St→Prop)(R:Out→St→Prop)(x:Option (Out×St)):Prop:= ∃o st,x=some (o,st)∧((o= .nrm∧I st)∨(o≠ .nrm∧R o st))
section
variable{I:St→Prop}{R:Out→St→Prop}{p:Prop}[Decidable p]{x y:Option (Out×St)}{st:St}{i:Nat}
theorem qx(h1:p→Gd I R x)(h2: ¬p→Gd I R y):Gd I R (if p then x else y):=by grind
theorem cU(h:I st):Gd I R (some (.nrm,st)):=⟨_,_,rfl,.inl ⟨rfl,h⟩⟩
theorem fv(h:R (.ext i) st):Gd I R (some (.ext i,st)):=⟨_,_,rfl,.inr ⟨by simp,h⟩⟩
theorem qy(h:R .ret st):Gd I R (some (.ret,st)):=⟨_,_,rfl,.inr ⟨by simp,h⟩⟩
end
theorem eu{E:Env}{n:Nat}{a:ak}(I:Nat→St→Prop)(P:Fr→aD ah→List ah→Prop)(o:Out)(N:Nat)
  (step: ∀k st,k<N→I k st→Gd (I (k+1)) (fun o' r=>o'=o∧P r.fr r.lh r.sh) (DC E n a st))
  (D: ∀st,I N st→Gd (fun _=>False) (fun o' r=>o'=o∧P r.fr r.lh r.sh) (DC E n a st)) (fr:Fr) (lh:aD ah) (sh:List ah) (h0:I 0 ⟨fr,lh,sh⟩):
  DC E n (.loop a) ⟨fr,lh,sh⟩=some (o,⟨mY E n a fr lh sh,im E n a fr lh sh,iH E n a fr lh sh⟩)∧P (mY E n a fr lh sh) (im E n a fr lh sh) (iH E n a fr lh sh):=by
 refine cj (cT I _ N (fun k st hk hi=> ?_) (fun st hi=> ?_) 0 _ (Nat.zero_le _) h0)
 ·obtain⟨o',r,e,h|h⟩:=step k st hk hi
  ·grind
  ·grind
 ·obtain⟨o',r,e,h|h⟩:=D st hi
  ·exact h.2.elim
  ·grind
end Go.Ev
namespace Go.Ev
open Go
theorem aD.put_self{α:Type}{d v:α}(D:v≠d): ∀{f:Nat} {t:aD α} {n:Nat},n<f→aD.get d t n=v→aD.put d f t n v=t
 |0,t,n,h,_=>by omega
 |f+1,.nil,n,_,e=>absurd e.symm (by rw[aD.get_nil];exact D)
 |f+1,.nd w l r,0,_,e=>by unfold aD.get at e;simp only at e;rw[e];unfold aD.put;rfl
 |f+1,.nd w l r,k+1,h,e=>by
  unfold aD.get at e;simp only at e
  unfold aD.put;simp only
  have hk:k/2<f:=yv
  cases F:Nat.beq (k%2) 0 <;> rw[F]at e <;> simp only[cond_true,cond_false]at e ⊢ <;> rw[aD.put_self D hk e]
theorem Ri{fr:Fr}{k:Nat}{v:T}(h:aa fr k=v)(r:v≠aQ):cH fr k v=fr:=aD.put_self r (Nat.lt_succ_self k) h
theorem cG{E:Env}{f:Nat}{a:List T}{sh r:List ah}{b:Bool}(h:ae E f a sh=some (.b b,r)):ae E f a sh=if b=true then some (.b true,r)else some (.b false,r):=by cases b <;> simpa using h
section
variable{I:St→Prop}{R:Out→St→Prop}{p:Prop}[Decidable p]{x y:Option (Out×St)}{st:St}{i:Nat}
theorem gdI:Gd I R (if p then x else y)=((p→Gd I R x)∧(¬p→Gd I R y)):=propext (by by_cases h:p <;> simp[h])
theorem gdN:Gd I R (some (.nrm,st))=I st:=propext ⟨fun⟨_,_,e,h⟩=>by cases e;exact h.elim (·.2) (fun h=>absurd rfl h.1),cU⟩
theorem gdX:Gd I R (some (.ext i,st))=R (.ext i) st:=propext ⟨fun⟨_,_,e,h⟩=>by cases e;exact h.elim (fun h=>by cases h.1) (·.2),fv⟩
theorem gdR:Gd I R (some (.ret,st))=R .ret st:=propext ⟨fun⟨_,_,e,h⟩=>by cases e;exact h.elim (fun h=>by cases h.1) (·.2),qy⟩
end
theorem aCd{α β:Type}{p:Prop}[Decidable p]{x y:Option (α×β)}{v:α}:(∃s,(if p then x else y)=some (v,s))=((p→ ∃s,x=some (v,s))∧(¬p→ ∃s,y=some (v,s))):=propext (by by_cases h:p <;> simp[h])
theorem LU{α β:Type}{u v:α}{t:β}:(∃s,some (u,t)=some (v,s))=(u=v):=propext xv
theorem eG{lh:aD ah}{j:Nat}{e:ah}{v:T}{k sz n:Nat}{cs:List T}(h:k≠j):bg (je lh j e) v k sz n cs=bg lh v k sz n cs:=by unfold bg;rw[bD lh e h]
section
variable{E:Env}{n:Nat}{a:ak}{m:Nat}{fr:Fr}{lh:aD ah}{sh:List ah}
abbrev Lp(E:Env)(n:Nat)(a:ak)(fr:Fr)(lh:aD ah)(sh:List ah)(o:Out)(P:Fr→aD ah→List ah→Prop):Prop:=DC E n (.loop a) ⟨fr,lh,sh⟩=some (o,⟨mY E n a fr lh sh,im E n a fr lh sh,iH E n a fr lh sh⟩)∧P (mY E n a fr lh sh) (im E n a fr lh sh) (iH E n a fr lh sh)
theorem XK{b:ak}{st r:St}{o:Out}(D:eC (ch (.loop b))=m)(h:DC E n b st=some (o,r)){s:Nat}(hs:(m >>> s)%2=0):aa r.fr s=aa st.fr s:=by
 refine fu h s ?_
 show(ch (.loop b)).contains s=false
 cases hc:(ch (.loop b)).contains s with
 |false=>rfl
 |true=>
  have h1:=Fv s _ (List.contains_iff_mem.1 hc)
  rw[D,Nat.testBit,Nat.and_comm,Nat.and_one_is_mod,hs]at h1
  simp at h1
theorem cV(F:eC (ch (.loop a))=m)(I:Nat→Fr→aD ah→List ah→Prop){P:Fr→aD ah→List ah→Prop}{o:Out}(N:Nat)(h0:I 0 fr lh sh)
  (step: ∀k f l s,k<N→(∀j,(m >>> j)%2=0→aa f j=aa fr j)→I k f l s→Gd (fun t=>I (k+1) t.fr t.lh t.sh) (fun o' t=>o'=o∧P t.fr t.lh t.sh) (DC E n a ⟨f,l,s⟩))
  (r: ∀f l s,(∀j,(m >>> j)%2=0→aa f j=aa fr j)→I N f l s→Gd (fun _=>False) (fun o' t=>o'=o∧P t.fr t.lh t.sh) (DC E n a ⟨f,l,s⟩)):
  Lp E n a fr lh sh o P:=by
 refine eu (fun k st=>(∀j,(m >>> j)%2=0→aa st.fr j=aa fr j)∧I k st.fr st.lh st.sh) P o N (fun k st hk hi=> ?_) (fun st hi=>r _ _ _ hi.1 hi.2) fr lh sh ⟨fun _ _=>rfl,h0⟩
 obtain⟨o',H,e,h⟩:=step k _ _ _ hk hi.1 hi.2
 exact⟨o',H,e,h.imp (fun h=>⟨h.1,fun j D=>(XK F e D).trans (hi.1 j D),h.2⟩) id⟩
abbrev pG(E:Env)(n:Nat)(a:ak)(fr:Fr)(lh:aD ah)(sh:List ah)(e s:Nat)(r:Int)(Q:aD ah→List ah→Prop):Prop:=DC E n (.loop a) ⟨fr,lh,sh⟩=(if r=0 then some (.ext e,⟨mY E n a fr lh sh,im E n a fr lh sh,iH E n a fr lh sh⟩)else some (.ret,⟨cH (mY E n a fr lh sh) s (.i .i64 r),im E n a fr lh sh,iH E n a fr lh sh⟩))∧Q (im E n a fr lh sh) (iH E n a fr lh sh)
abbrev LpC(E:Env)(n:Nat)(a:ak)(fr:Fr)(lh:aD ah)(sh:List ah)(e s:Nat)(p:Prop)[Decidable p](v:T)(Q:aD ah→List ah→Prop):Prop:=DC E n (.loop a) ⟨fr,lh,sh⟩=(if p then some (.ext e,⟨mY E n a fr lh sh,im E n a fr lh sh,iH E n a fr lh sh⟩)else some (.ret,⟨cH (mY E n a fr lh sh) s v,im E n a fr lh sh,iH E n a fr lh sh⟩))∧Q (im E n a fr lh sh) (iH E n a fr lh sh)
theorem m8(D:eC (ch (.loop a))=m){e s:Nat}{p:Prop}[Decidable p]{v:T}(F:v≠aQ)(I:Nat→Fr→aD ah→List ah→Prop){Q:aD ah→List ah→Prop}(N:Nat)(h0:I 0 fr lh sh)
  (step: ∀k f l h,k<N→(∀j,(m >>> j)%2=0→aa f j=aa fr j)→I k f l h→Gd (fun t=>I (k+1) t.fr t.lh t.sh) (fun o' t=>o'= .ret∧ ¬p∧aa t.fr s=v∧Q t.lh t.sh) (DC E n a ⟨f,l,h⟩))
  (r: ∀f l h,(∀j,(m >>> j)%2=0→aa f j=aa fr j)→I N f l h→Gd (fun _=>False) (fun o' t=>o'= .ext e∧p∧Q t.lh t.sh) (DC E n a ⟨f,l,h⟩)):
  LpC E n a fr lh sh e s p v Q:=by
 obtain⟨h1,h2,h3⟩:=cV D I (P:=fun f l h=>(¬p→aa f s=v)∧Q l h) (o:=if p then .ext e else .ret) N h0
  (fun k f l h hk p i=>by
    obtain⟨o',t,x,y⟩:=step k f l h hk p i
    exact⟨o',t,x,y.imp id fun⟨a,b,c,d,g⟩=>⟨a,by rw[if_neg c];exact b,fun _=>d,g⟩⟩)
  (fun f l h p i=>by
    obtain⟨o',t,x,y⟩:=r f l h p i
    exact⟨o',t,x,y.imp id fun⟨a,b,c,d⟩=>⟨a,by rw[if_pos c];exact b,fun z=>absurd c z,d⟩⟩)
 refine⟨?_,h3⟩
 rw[h1]
 split
 ·rfl
 ·rename_i hr;rw[Ri (h2 hr) F]
theorem bX(F:eC (ch (.loop a))=m){e s:Nat}{r:Int}(I:Nat→Fr→aD ah→List ah→Prop){Q:aD ah→List ah→Prop}(N:Nat)(h0:I 0 fr lh sh)
  (step: ∀k f l h,k<N→(∀j,(m >>> j)%2=0→aa f j=aa fr j)→I k f l h→Gd (fun t=>I (k+1) t.fr t.lh t.sh) (fun o' t=>o'= .ret∧r≠0∧aa t.fr s= .i .i64 r∧Q t.lh t.sh) (DC E n a ⟨f,l,h⟩))
  (D: ∀f l h,(∀j,(m >>> j)%2=0→aa f j=aa fr j)→I N f l h→Gd (fun _=>False) (fun o' t=>o'= .ext e∧r=0∧Q t.lh t.sh) (DC E n a ⟨f,l,h⟩)):
  pG E n a fr lh sh e s r Q:=m8 F (by simp[aQ]) I N h0 step D
theorem Rj{lh:aD ah}{k:Nat}{v:ah}(h:ab lh k=v)(r:v≠eH):je lh k v=lh:=aD.put_self r (Nat.lt_succ_self k) h
theorem lpO{e s k:Nat}{r:Int}{x:ah}{Q:aD ah→List ah→Prop}(h:pG E n a fr lh sh e s r fun l h=>(r=0→ab l k=x)∧Q l h)(hx:x.ob≠ .none):
  DC E n (.loop a) ⟨fr,lh,sh⟩=(if r=0 then some (.ext e,⟨mY E n a fr lh sh,je (im E n a fr lh sh) k x,iH E n a fr lh sh⟩)else some (.ret,⟨cH (mY E n a fr lh sh) s (.i .i64 r),im E n a fr lh sh,iH E n a fr lh sh⟩))∧Q (im E n a fr lh sh) (iH E n a fr lh sh):=by
 obtain⟨h1,h2,h3⟩:=h
 refine⟨?_,h3⟩
 rw[h1]
 split
 ·rename_i hr;rw[Rj (h2 hr) (fun h=>hx (by rw[h];rfl))]
 ·rfl
end
end Go.Ev
