/- A tree evaluator over the model, proved against it (part G): where it answers, the call returns that answer. Conditions: none beyond its theorems' own. -/
import Derived.Test.YtnkgnjecmfkcfaaGreatEvF
set_option linter.unusedSimpArgs false
set_option linter.unusedVariables false
namespace Go.Ev
open Go
def kept1:T→Bool
 | .isl .S .. | .ptr .S .. | .mp .S .. =>true
 |t=>froz1 t
def kept:T→Bool
 | .agg cs=>cs.all kept1
 | .tup cs=>cs.all kept1
 | .fn _ a c=>a.all kept1&&c.all kept1
 |t=>kept1 t
theorem Ik{n:Nat}{t:T}(h:kept1 t=true):fz true (n+1) t= .ret (t,[]):=by
 cases t with
 |isl sp k g off len sz=>cases sp with|S=>rfl|L=>simp[kept1,froz1]at h
 |ptr sp k g off=>cases sp with|S=>rfl|L=>simp[kept1,froz1]at h
 |mp sp k g=>cases sp with|S=>rfl|L=>simp[kept1,froz1]at h
 |_=>exact qc h
theorem lF{n:Nat}: ∀(ts:List T),ts.all kept1=true→bf (fz true (n+1)) ts= .ret (ts,[])
 | [],_=>rfl
 |t::ts,h=>by
  simp_all[List.all_cons,Bool.and_eq_true,bf,Ik,lF,Q.bind,List.append_nil]
theorem yw{n:Nat}{t:T}(h:kept t=true):fz true (n+2) t= .ret (t,[]):=by
 cases t with
 |agg cs=>simp only[kept]at h;rw[EA,lF cs h];rfl
 |tup cs=>simp only[kept]at h;rw[KX,lF cs h];rfl
 |fn f a c=>simp only[kept,Bool.and_eq_true]at h;rw[ahh,lF a h.1,lF c h.2];rfl
 |_=>exact Ik h
theorem wQ{n:Nat}: ∀(ts:List T),ts.all kept=true→bf (fz true (n+2)) ts= .ret (ts,[])
 | [],_=>rfl
 |t::ts,h=>by
  simp_all[List.all_cons,Bool.and_eq_true,bf,yw,wQ,Q.bind,List.append_nil]
theorem akE{x:Bool}:kept (.b x)=true:=nr rfl
theorem akF{k:IntKind}{n:Int}:kept (.i k n)=true:=nr rfl
theorem akG{l:List Nat}:kept (.s l)=true:=nr rfl
theorem Lb:kept .nilsl=true:=nr rfl
theorem Il:kept .nilptr=true:=nr rfl
theorem acR{cs:List T}:kept (.vp cs)=true:=nr rfl
theorem acS{cs:List T}{n:Nat}{e:Bool}:kept (.sl cs n e)=true:=nr rfl
theorem Wo{k g off:Nat}:kept (.ptr .S k g off)=true:=nr rfl
theorem uH{k g:Nat}:kept (.mp .S k g)=true:=nr rfl
theorem Wp{cs:List T}:kept (.agg cs)=cs.all kept1:=nr rfl
theorem Wq{cs:List T}:kept (.tup cs)=cs.all kept1:=nr rfl
theorem acT{x:Bool}:kept1 (.b x)=true:=nr rfl
theorem acU{k:IntKind}{n:Int}:kept1 (.i k n)=true:=nr rfl
theorem acV{l:List Nat}:kept1 (.s l)=true:=nr rfl
theorem Im:kept1 .nilsl=true:=nr rfl
theorem EO:kept1 .nilptr=true:=nr rfl
theorem Io:kept1 .nilmp=true:=nr rfl
theorem Wr{cs:List T}:kept1 (.vp cs)=true:=nr rfl
theorem Ws{ks r:List T}:kept1 (.vm ks r)=true:=nr rfl
theorem Wt{cs:List T}{n:Nat}{e:Bool}:kept1 (.sl cs n e)=true:=nr rfl
theorem Qv{k g off:Nat}:kept1 (.ptr .S k g off)=true:=nr rfl
theorem Wu{k g:Nat}:kept1 (.mp .S k g)=true:=nr rfl
theorem fM{t:T}(h:froz1 t=true):kept1 t=true:=by cases t <;> first|rfl|(simp[froz1]at h)
section
variable{E:Env}{call:jB}{n:Nat}{fr:Fr}{lh:aE ah}{sh:List ah}{os:List aF}{d:Nat}
theorem Wv{v:T}(h:kept v=true):fzV lh sh true v=some (v,[]):=by
 unfold fzV aJ;rw[yw h];rfl
theorem Px{D:Nat}{af:aj}{f:Nat}{args:List T}(F:E.fn f=some af)(H:af.eff=true)(J:args.all kept=true):br E call D ⟨fr,lh,sh⟩ f args=
  (call f args sh).bind fun r=>some (r.1,⟨fr,lh,r.2⟩):=by
 unfold br
 simp only[F,H,if_true]
 unfold aJ
 rw[wQ args J]
 simp only[Q.run,yu]
 cases call f args sh <;> rfl
theorem akH{x:aP}(D:d<n)(r:noTup (rd fr x)=true)(hk:kept (rd fr x)=true):ai E call n (⟨some d,.box x true,none⟩::os) ⟨fr,lh,sh⟩=ai E call n os ⟨cL fr d (.ptr .S sh.length 1 0),lh,bD sh sh.length ⟨1,.cells (cellsOf (rd fr x)) 0 true⟩⟩:=by
 rw[ko (by rfl) (show B6 n (some d)from D)]
 unfold one
 simp only[bt,r,Bool.not_true,Bool.false_eq_true,if_false,if_true]
 unfold aJ
 rw[yw hk]
 simp only[Q.bind,List.isEmpty_nil,r,Bool.and_self,if_true]
 rfl
theorem Ww{k g off m:Nat}{v:T}(e:ah)(r: ∀cs D bx,e.ob= .cells cs D bx→bx=true)(h1:(cellsOf v).length=m)(h2:noTup v=true)(J:kept v=true):gp lh sh (Q.run (St.mk .nil lh sh).get sh.length (Ij k g off m v e))=AB lh sh k e g off v m:=by
 obtain⟨K,ob⟩:=e
 unfold AB Ij
 by_cases N:K=g
 ·subst N
  cases ob with
  |none=>simp[Q.run,gp]
  |map ks U z=>simp[Q.run,gp]
  |cells cs D bx=>
   have KE:=r cs D bx rfl
   subst KE
   by_cases r:D≤off∧off+m≤cs.length
   ·have F:(decide (D≤off)&&decide (off+m≤cs.length))=true:=by simp[r.1,r.2]
    have KE:(true&&Sp.S==Sp.L)=false:=rfl
    have H:(true&&Sp.S==Sp.S)=true:=rfl
    unfold aJ
    simp only[if_true,F,KE,H,Bool.false_eq_true,if_false]
    rw[yw J]
    have O:(jh [] Sp.S k|| !noTup v||decide ((cellsOf v).length≠m))=false:=by simp[jh,h1,h2]
    simp only[Q.bind,O,Bool.false_eq_true,if_false,Q.run,gp]
    rw[if_pos ⟨trivial,h1,h2,r⟩]
    rfl
   grind [Bool.false_eq_true,Q.run,gp]
 grind [Q.run,gp]
theorem hZ{k g r off m D:Nat}{cs:List T}{v:T}(F:kept v=true)(H:aI sh k=⟨r,.cells cs D true⟩):stV lh sh (.ptr .S k g off) v m=AB lh sh k ⟨r,.cells cs D true⟩ g off v m:=by
 by_cases h1:(cellsOf v).length=m
 ·cases h2:noTup v with
  |false=>
   grind [stV,mY,AB,Q.run]
  |true=>
   unfold stV mY
   have:(decide ((cellsOf v).length≠m)|| !noTup v)=false:=by simp[h1,h2]
   simp only[this,Bool.false_eq_true,if_false]
   have:=Ww (lh:=lh) (sh:=sh) (k:=k) (g:=g) (off:=off) ⟨r,.cells cs D true⟩ (by intro a b c h;cases h;rfl) h1 h2 F
   rw[←this,←H]
   rfl
 grind [stV,mY,AB,Q.run]
def Lc(sh:List ah)(kk:Nat)(e:ah)(g:Nat)(ek:EK)(k v:T):Option (List ah):=
 match e with
 |⟨r,.map ks D false⟩=>if r=g∧isKey ek k=true then(lq ek k v ks D).map fun q=>bD sh kk ⟨g,.map q.1 q.2 false⟩else none
 |_=>none
theorem Wx{kk g r:Nat}{ek:EK}{k v:T}{ks D:List T}:Lc sh kk ⟨r,.map ks D false⟩ g ek k v=if r=g∧isKey ek k=true then(lq ek k v ks D).map fun q=>bD sh kk ⟨g,.map q.1 q.2 false⟩else none:=rfl
def acW(kk g:Nat)(ek:EK)(k v:T)(e:ah):Q zF:=if e.g=g&&isKey ek k then match e.ob with
      | .map ks r false=>(fz false aJ v).bind fun p=>match lq ek k p.1 ks r with
        |some q=>if jh p.2 .S kk then .fail else .ret (.val aO (p.2++ [(.S,kk,⟨g,.map q.1 q.2 false⟩)]))
        |none=> .fail
      |_=> .fail
     else .fail
theorem acX{kk g:Nat}{ek:EK}{k v:T}(e:ah)(H:froz v=true):((kl (Q.run (St.mk fr lh sh).get sh.length (acW kk g ek k v e))).bind fun r=>ai E call n os {(St.mk fr lh sh).ups r.2 with fr:=fr})=
  (Lc sh kk e g ek k v).bind fun J=>ai E call n os ⟨fr,lh,J⟩:=by
 obtain⟨F,ob⟩:=e
 unfold acW Lc
 by_cases D:F=g∧isKey ek k=true
 ·have:(decide (F=g)&&isKey ek k)=true:=by simp[D.1,D.2]
  simp only[this,if_true]
  cases ob with
  |none=>rfl
  |cells cs N bx=>rfl
  |map ks K z=>
   cases z with
   |true=>rfl
   |false=>
    simp only[if_pos D]
    unfold aJ
    rw[jv H]
    simp only[Q.bind]
    cases lq ek k v ks K with
    |none=>rfl
    |some q=>simp only[jh,List.any_nil,Bool.false_eq_true,if_false,Q.run,List.nil_append];rfl
 grind [Bool.false_eq_true,Q.run,kl]
theorem awn{ek:EK}{m k v:aP}{kk g:Nat}(r:rd fr m= .mp .S kk g)(D:froz (rd fr v)=true):ai E call n (⟨none,.mu ek m k v,none⟩::os) ⟨fr,lh,sh⟩=(Lc sh kk (aI sh kk) g ek (rd fr k) (rd fr v)).bind fun F=>ai E call n os ⟨fr,lh,F⟩:=by
 rw[ko (by rfl) (show B6 n none from trivial)]
 unfold one
 simp only[bt,r]
 exact acX (aI sh kk) D
end
section
variable{E:Env}{call:jB}{n:Nat}{fr:Fr}{lh:aE ah}{sh:List ah}{ds:List (List Nat×aF)}{bo:List FP}{u:List Nat}{d:Option Nat}
def Ld:T→Bool
 | .mp .S .. =>true
 |_=>false
theorem acY{k g:Nat}:Ld (.mp .S k g)=true:=nr rfl
theorem awo{ek:EK}{m k v:aP}(hx:Ld (rd fr m)=true)(H:froz (rd fr v)=true):aK E call n ((u,⟨none,.mu ek m k v,none⟩)::ds) bo ⟨fr,lh,sh⟩=
  if meets u bo ⟨false,mg (rd fr m),mg (rd fr m)⟩=true then ke E call n ds (bo++ [⟨false,mg (rd fr m),mg (rd fr m)⟩]) (ai E call n [⟨none,.mu ek m k v,none⟩] ⟨fr,lh,sh⟩)else none:=by
 refine mJ fun D=> ?_
 cases F:rd fr m with
 |mp sp kk g=>
  cases sp with
  |L=>grind [Ld]
  |S=>
   obtain⟨w,J,hr,r⟩:=pD (q:= .rd .S kk (acW kk g ek (rd fr k) (rd fr v))) (by rfl) (by rw[dh];simp only[bt,F];rfl) D
   simp only[Q.run,Q.log,Q.asks]at hr r
   have ZV:(St.mk fr lh sh).get .S kk=aI sh kk:=rfl
   rw[ZV]at hr r
   generalize K:aI sh kk=e at hr r
   obtain⟨N,ob⟩:=e
   unfold acW at hr r
   by_cases O:(decide (N=g)&&isKey ek (rd fr k))=true
   ·simp only[O,if_true]at hr r
    cases ob with
    |none=>simp[Q.run]at hr
    |cells cs W bx=>simp[Q.run]at hr
    |map ks X U=>
     cases U with
     |true=>simp[Q.run]at hr
     |false=>
      simp only[]at hr r
      unfold aJ at hr r
      rw[jv H]at hr r
      simp only[Q.bind]at hr r
      split at hr
      ·rename_i q V
       simp only[jh,List.any_nil,Bool.false_eq_true,if_false,Q.run,Option.some.injEq,zF.val.injEq]at hr
       obtain⟨rfl,rfl⟩:=hr
       rw[V]at r
       simp only[jh,List.any_nil,Bool.false_eq_true,if_false]at r
       refine r ?_
       simp only[Q.asks,Bool.false_or,inB,List.nil_append,List.all_cons,List.all_nil,Bool.and_true]
       rw[ZV,K]
       rfl
      ·simp[Q.run]at hr
   grind [Bool.false_eq_true,Q.run]
 |_=>grind [Ld]
def xl:FP:=⟨true,[],[]⟩
theorem aaA{f:Nat}{af:aj}{as:List aP}(r:E.fn f=some af)(D:af.eff=true)(F:(as.map (rd fr)).all kept=true):
  aK E call n ((u,⟨d,.callf f as,none⟩)::ds) bo ⟨fr,lh,sh⟩=if meets u bo xl=true then ke E call n ds (bo++ [xl]) (ai E call n [⟨d,.callf f as,none⟩] ⟨fr,lh,sh⟩)else none:=by
 refine mJ fun H=> ?_
 unfold bL
 have J:bw (St.mk fr lh sh).rho (.callf f as)=some (some (f,as.map (rd fr))):=by rw[dh];rfl
 simp only[J]
 unfold ev
 simp only[r,D]
 unfold aJ
 rw[wQ _ F]
 simp only[Q.run,Q.log,inB,List.all_nil,Bool.not_true,Bool.false_eq_true,if_false,if_true,cS,List.map_nil]
 rfl
theorem Ip{rs r:List (Sp×Nat)}:apart ⟨false,rs,r⟩ xl=(Gn rs&&Gn r):=by
 grind [apart,xl,eu]
theorem Iq{rs r:List (Sp×Nat)}:apart xl ⟨false,rs,r⟩=(Gn rs&&Gn r):=by
 unfold apart xl eu
 simp
theorem acZ:Gn []=true:=nr rfl
theorem awp{k:Nat}{xs:List (Sp×Nat)}:Gn ((.L,k)::xs)=Gn xs:=nr rfl
end
end Go.Ev
namespace Go.Ev
open Go
section
variable{E:Env}{n:Nat}{a:ak}
theorem cU(I:Nat→St→Prop)(R:Out→St→Prop)(N:Nat)
  (step: ∀k st,k<N→I k st→(∃bn,DC E n a st=some (.nrm,bn)∧I (k+1) bn)∨(∃o bn,o≠ .nrm∧DC E n a st=some (o,bn)∧R o bn))
  (D: ∀st,I N st→ ∃o bn,o≠ .nrm∧DC E n a st=some (o,bn)∧R o bn):
  ∀(k:Nat) (st:St),k≤N→I k st→ ∃o bn,DC E n (.loop a) st=some (o,bn)∧R o bn:=by
 have r: ∀{st o bn},o≠ .nrm→DC E n a st=some (o,bn)→DC E n (.loop a) st=some (o,bn):=by
  intro st o bn H h
  rw[qY,h]
  cases o with
  |nrm=>grind
  |ext id=>rfl
  |ret=>rfl
 have F: ∀(m k:Nat) (st:St),N-k=m→k≤N→I k st→ ∃o bn,DC E n (.loop a) st=some (o,bn)∧R o bn:=by
  intro m
  induction m with
  |zero=>
   intro k st J hk h
   have:k=N:=zZ
   grind
  |succ m ih=>
   grind [qY,mb]
 grind
theorem cj{fr:Fr}{lh:aE ah}{sh:List ah}{o:Out}{P:Fr→aE ah→List ah→Prop}
  (h: ∃o' r,DC E n (.loop a) ⟨fr,lh,sh⟩=some (o',r)∧o'=o∧P r.fr r.lh r.sh):
  DC E n (.loop a) ⟨fr,lh,sh⟩=some (o,⟨pz E n a fr lh sh,iu E n a fr lh sh,jw E n a fr lh sh⟩)∧P (pz E n a fr lh sh) (iu E n a fr lh sh) (jw E n a fr lh sh):=by
 obtain⟨o',r,h1,rfl,h2⟩:=h
 exact Qf ⟨r.fr,r.lh,r.sh,h1,h2⟩
end
theorem IsSl.kept1{v:T}{n:Nat}{cs:List T}(h:IsSl v n cs):kept1 v=true:=fM h.froz1
end Go.Ev
namespace Go.Ev
open Go
theorem yx{st:St}{a b:List Up}:inB st (a++b)=(inB st a&&inB st b):=by grind [inB]
theorem yy{st:St}{sp:Sp}{k:Nat}{e:ah}(h:xq (st.get sp k)=true):inB st [(sp,k,e)]=true:=by
 cases sp with
 |L=>rfl
 |S=>simp only[inB,List.all_cons,List.all_nil,Bool.and_true,h,Bool.or_true]
section
variable{st:St}{nx:Nat}
theorem uI{f:T→Q (T×List Up)}(r: ∀t p,(f t).run st.get nx=some p→inB st p.2=true): ∀(ts:List T) (p:List T×List Up),(bf f ts).run st.get nx=some p→inB st p.2=true
 | [],p,h=>by simp[bf,Q.run]at h;subst h;rfl
 |t::ts,p,h=>by
  simp only[bf,bp]at h
  cases h1:(f t).run st.get nx with
  |none=>grind
  |some D=>
   rw[h1]at h
   simp only[Option.bind_some]at h
   cases h2:(bf f ts).run st.get nx with
   |none=>grind
   |some F=>
    rw[h2]at h
    simp only[Option.bind_some,Q.run,Option.some.injEq]at h
    subst h
    simp only[yx,r _ _ h1,uI r ts _ h2,Bool.and_self]
theorem Le: ∀(n:Nat) (keep:Bool) (t:T) (p:T×List Up),(fz keep n t).run st.get nx=some p→inB st p.2=true
 |0,keep,t,p,h=>by simp[fz,Q.run]at h
 |n+1,keep,t,p,h=>by
  have ih:=Le n
  have F:=fun(k:Bool) (ts:List T) (q:List T×List Up)=>uI (ih k) ts q
  cases t with
  |isl sp k g off len sz=>
   simp only[fz]at h
   split at h
   ·simp[Q.run]at h;subst h;rfl
   ·simp only[Q.run]at h
    cases r:st.get sp k with
    |mk D ob=>
     have J: ∀{o},ob=o→xq (st.get sp k)=xq ⟨D,o⟩:=fun e=>by rw[r,e]
     rw[r]at h
     simp only at h
     split at h
     ·split at h
      ·split at h
       ·simp only[Q.run,Option.some.injEq]at h;subst h;exact yy (by rw[r];rfl)
       ·simp[Q.run]at h
      ·split at h
       ·simp only[bp]at h
        cases h2:(bf (fz false n) (List.take (len*sz) (List.drop off ‹List T›))).run st.get nx with
        |none=>grind
        |some q=>
         rw[h2]at h
         simp only[Option.bind_some,Q.run,Option.some.injEq]at h
         subst h
         simp only[yx,F _ _ _ h2,Bool.true_and]
         exact yy (by rw[r];rfl)
       ·simp[Q.run]at h
      ·simp[Q.run]at h
     ·simp[Q.run]at h
  |mp sp k g=>
   simp only[fz]at h
   split at h
   ·simp[Q.run]at h;subst h;rfl
   ·simp only[Q.run]at h
    cases r:st.get sp k with
    |mk D ob=>
     rw[r]at h
     simp only at h
     split at h
     ·split at h
      ·simp only[Q.run,Option.some.injEq]at h;subst h;exact yy (by rw[r];rfl)
      ·simp[Q.run]at h
     ·simp[Q.run]at h
  |ptr sp k g off=>
   simp only[fz]at h
   split at h
   ·simp[Q.run]at h;subst h;rfl
   ·simp only[Q.run]at h
    cases r:st.get sp k with
    |mk D ob=>
     rw[r]at h
     simp only at h
     split at h
     ·split at h
      ·simp only[bp]at h
       cases h2:(bf (fz false n) (List.drop off ‹List T›)).run st.get nx with
       |none=>grind
       |some q=>
        rw[h2]at h
        simp only[Option.bind_some,Q.run,Option.some.injEq]at h
        subst h
        simp only[yx,F _ _ _ h2,Bool.true_and]
        exact yy (by rw[r];rfl)
      ·simp[Q.run]at h
     ·simp[Q.run]at h
  |fn f a c=>
   simp only[fz,bp]at h
   cases h1:(bf (fz keep n) a).run st.get nx with
   |none=>grind
   |some H=>
    rw[h1]at h
    simp only[Option.bind_some]at h
    cases h2:(bf (fz keep n) c).run st.get nx with
    |none=>grind
    |some K=>
     grind [Q.run,Option.some.injEq,yx,Bool.and_self]
  |agg cs=>
   simp only[fz,bp]at h
   cases h1:(bf (fz keep n) cs).run st.get nx with
   |none=>grind
   |some H=>
    grind [Q.run,Option.some.injEq]
  |tup cs=>
   simp only[fz,bp]at h
   cases h1:(bf (fz keep n) cs).run st.get nx with
   |none=>grind
   |some H=>
    grind [Q.run,Option.some.injEq]
  |_=>simp[fz,Q.run]at h;subst h;rfl
end
section
variable{E:Env}{call:jB}{n:Nat}{fr:Fr}{lh:aE ah}{sh:List ah}{ds:List (List Nat×aF)}{bo:List FP}{u:List Nat}{d:Option Nat}
def isNe:T→Bool
 | .sl _ (_+1) _=>true
 |_=>false
theorem ac0{cs:List T}{m:Nat}{ex:Bool}:isNe (.sl cs (m+1) ex)=true:=nr rfl
theorem Wy{cs:List T}{ex:Bool}:isNe (.sl cs 1 ex)=true:=nr rfl
def oM(r:Nat):T→List (Sp×Nat)
 | .isl .L k _ _ _ _=> [(.L,k)]
 |_=> [(.L,r)]
theorem Lf{r k g off len sz:Nat}:oM r (.isl .L k g off len sz)= [(.L,k)]:=nr rfl
theorem Lh{r:Nat}:oM r .nilsl= [(.L,r)]:=nr rfl
theorem Qw{r len:Nat}{cs:List T}{ex:Bool}:oM r (.sl cs len ex)= [(.L,r)]:=nr rfl
theorem akI{r sz bytes:Nat}{s x:aP}(hs:notS (rd fr s)=true)(hx:isNe (rd fr x)=true):aK E call n ((u,⟨some r,.app sz bytes s x false false,none⟩)::ds) bo ⟨fr,lh,sh⟩=
  if meets u bo ⟨false,oM r (rd fr s),oM r (rd fr s)⟩=true then ke E call n ds (bo++ [⟨false,oM r (rd fr s),oM r (rd fr s)⟩]) (ai E call n [⟨some r,.app sz bytes s x false false,none⟩] ⟨fr,lh,sh⟩)else none:=by
 refine mJ fun D=> ?_
 cases H:rd fr x with
 |sl cs m ex=>
  cases m with
  |zero=>simp_all[isNe]
  |succ m=>
   by_cases hc:cs.length=(m+1)*sz
   ·have N:cp sz (rd fr x)= .ret (m+1,cs):=by rw[H];simp only[cp,hc,if_true]
    obtain⟨v,J,hr,F⟩:=pD (q:=jA r sz bytes (rd fr s) (rd fr x) false false) (by rfl) (by rw[dh];rfl) D
    have O:=Nt hs hr
    have F:=F (by rw[O];simp)
    rw[F]
    unfold jA at hr ⊢
    rw[N]at hr ⊢
    simp only[Q.bind,Nat.add_one_ne_zero,if_false]at hr ⊢
    cases P2:rd fr s with
    |nilsl=>
     rw[P2]at hr
     simp only at hr ⊢
     split at hr
     ·rename_i K
      rw[if_pos K]
      simp[iW,Q.run]at hr
      obtain⟨rfl,rfl⟩:=hr
      rfl
     ·simp[Q.run]at hr
    |sl U V e2=>
     rw[P2]at hr
     cases e2 with
     |false=>simp[Q.run]at hr
     |true=>
      simp only at hr ⊢
      split at hr
      ·rename_i K
       rw[if_pos K]
       simp[iW,Q.run]at hr
       obtain⟨rfl,rfl⟩:=hr
       rfl
      ·simp[Q.run]at hr
    |isl sp k g off len W=>
     cases sp with
     |S=>grind [notS]
     |L=>
      grind [Q.run,Option.some.injEq,zF.val.injEq,Q.asks,Q.log,cS,oM]
    |_=>grind [Q.run]
   ·obtain⟨v,J,hr,F⟩:=pD (q:=jA r sz bytes (rd fr s) (rd fr x) false false) (by rfl) (by rw[dh];rfl) D
    simp_all[jA,cp,Q.bind,Q.run]
 |_=>grind [isNe]
def oN:ah→Bool
 |⟨_,.cells _ _ bx⟩=>bx
 |_=>false
def Ir(lh:aE ah):T→Bool
 | .ptr .L k _ _=>oN (ab lh k)
 |_=>false
theorem Qx{k g off:Nat}:Ir lh (.ptr .L k g off)=oN (ab lh k):=nr rfl
theorem EP{g r:Nat}{cs:List T}{bx:Bool}:oN ⟨g,.cells cs r bx⟩=bx:=nr rfl
theorem awq{x v:aP}{m:Nat}(hx:Ir lh (rd fr x)=true):aK E call n ((u,⟨none,.st x v m,none⟩)::ds) bo ⟨fr,lh,sh⟩=
  if meets u bo ⟨false,mf (rd fr x),mf (rd fr x)⟩=true then ke E call n ds (bo++ [⟨false,mf (rd fr x),mf (rd fr x)⟩]) (ai E call n [⟨none,.st x v m,none⟩] ⟨fr,lh,sh⟩)else none:=by
 refine mJ fun D=> ?_
 cases F:rd fr x with
 |ptr sp k g off=>
  cases sp with
  |S=>grind [Ir]
  |L=>
   obtain⟨w,J,hr,r⟩:=pD (q:=mY (rd fr x) (rd fr v) m) (by rfl) (by rw[dh];rfl) D
   rw[F]at hx hr r
   simp only[Ir]at hx
   unfold mY at hr r
   split at hr
   ·simp[Q.run]at hr
   ·rename_i K
    rw[if_neg K]at r
    simp only[Q.run,Q.asks,Q.log]at hr r
    have ZV:(St.mk fr lh sh).get .L k=ab lh k:=rfl
    rw[ZV]at hr r
    generalize ab lh k=e at hx hr r
    obtain⟨O,ob⟩:=e
    cases ob with
    |none=>simp[oN]at hx
    |map a b c=>simp[oN]at hx
    |cells cs U bx=>
     simp only[oN]at hx
     subst hx
     simp only at hr r
     split at hr
     ·rename_i N
      rw[if_pos N]at r
      split at hr
      ·rename_i hc
       rw[if_pos hc]at r
       have H:(true&&Sp.L==Sp.L)=true:=rfl
       simp only[H,if_true,Q.run,Option.some.injEq,zF.val.injEq]at hr r
       obtain⟨rfl,rfl⟩:=hr
       exact r rfl
      ·simp[Q.run]at hr
     ·simp[Q.run]at hr
 |_=>grind [Ir]
end
section
variable{α β:Type}[DecidableEq α]
def aM:List (α×β)→α→Option β
 | [],_=>none
 |p::m,a=>if a=p.1 then some p.2 else aM m a
def jl:List (α×β)→α→Option Nat
 | [],_=>none
 |p::m,a=>if a=p.1 then some 0 else(jl m a).map (· +1)
variable{ek:EK}{kT:α→T}{vT:β→T}
theorem ER(r: ∀a b,rD ek (kT a) (kT b)=some (decide (a=b)))(a:α): ∀m:List (α×β),fZ ek (kT a) (m.map fun p=>kT p.1)=some (jl m a)
 | []=>rfl
 |p::m=>by
  rw[List.map_cons,Qr,r,ER r a m,jl]
  by_cases h:a=p.1
  ·rw[decide_eq_true h,if_pos h];rfl
  ·rw[decide_eq_false h,if_neg h];rfl
theorem oO(a:α): ∀m:List (α×β),aM m a=(jl m a).bind fun i=>(m[i]?).map (·.2)
 | []=>rfl
 |p::m=>by
  rw[aM,jl]
  by_cases h:a=p.1
  ·grind
  ·rw[if_neg h,if_neg h,oO a m]
   cases jl m a <;> rfl
theorem uJ(a:α): ∀(m:List (α×β)) (i:Nat),jl m a=some i→i<m.length
 | [],i,h=>by simp[jl]at h
 |p::m,i,h=>by
  rw[jl]at h
  split at h
  ·grind
  ·cases r:jl m a with
   |none=>grind
   |some j=>
    rw[r]at h
    simp at h
    have:=uJ a m j r
    grind
theorem akJ(r: ∀a b,rD ek (kT a) (kT b)=some (decide (a=b)))(hk: ∀a,isKey ek (kT a)=true)(m:List (α×β))(a:α)(z:T):
  iq ek (m.map fun p=>kT p.1) (m.map fun p=>vT p.2) (kT a) z true=some (match aM m a with|some v=> .tup [vT v,.b true]|none=> .tup [z,.b false]):=by
 rw[Ns (hk a),ER r,oO]
 cases D:jl m a with
 |none=>rfl
 |some i=>
  grind [Ii,List.getElem?_eq_getElem,uJ]
theorem Wz(r: ∀a b,rD ek (kT a) (kT b)=some (decide (a=b)))(hk: ∀a,isKey ek (kT a)=true)(m:List (α×β))(a:α)(z:T):
  iq ek (m.map fun p=>kT p.1) (m.map fun p=>vT p.2) (kT a) z false=some (match aM m a with|some v=>vT v|none=>z):=by
 rw[Ns (hk a),ER r,oO]
 cases D:jl m a with
 |none=>rfl
 |some i=>
  grind [Ii,List.getElem?_eq_getElem,uJ]
theorem uK(r: ∀a b,rD ek (kT a) (kT b)=some (decide (a=b)))(m:List (α×β))(a:α)(v:β)(h:aM m a=none):
  lq ek (kT a) (vT v) (m.map fun p=>kT p.1) (m.map fun p=>vT p.2)=some ((m++ [(a,v)]).map (fun p=>kT p.1),(m++ [(a,v)]).map (fun p=>vT p.2)):=by
 rw[acL,ER r]
 rw[oO]at h
 cases D:jl m a with
 |none=>simp[Qs]
 |some i=>
  grind [List.getElem?_eq_getElem,uJ]
theorem ln(a b:α)(v:β): ∀m:List (α×β),aM (m++ [(b,v)]) a=match aM m a with|some u=>some u|none=>if a=b then some v else none
 | []=>by simp[aM]
 |p::m=>by
  rw[List.cons_append,aM,aM,ln a b v m]
  grind
end
end Go.Ev
namespace Go.Ev
open Go
theorem Lj{r:List T}:scalar (.tup r)=r.all iC:=by
 unfold scalar
 congr 1
theorem ac1{x:Bool}:iC (.b x)=true:=nr rfl
theorem ac2{k:IntKind}{n:Int}:iC (.i k n)=true:=nr rfl
theorem ac3{l:List Nat}:iC (.s l)=true:=nr rfl
theorem Is:iC .nilsl=true:=nr rfl
theorem WA{cs:List T}{n:Nat}{e:Bool}:iC (.sl cs n e)=false:=nr rfl
def AE(sh:List ah):List Up→List ah
 | []=>sh
 |(.L,_,_)::us=>AE sh us
 |(.S,k,e)::us=>AE (bD sh k e) us
theorem WB{sh:List ah}:AE sh []=sh:=nr rfl
theorem akK{sh:List ah}{k:Nat}{e:ah}{us:List Up}:AE sh ((.L,k,e)::us)=AE sh us:=nr rfl
theorem AF: ∀(a:List Up) (sh:List ah) (b:List Up),AE sh (a++b)=AE (AE sh a) b
 | [],sh,b=>rfl
 |(.L,k,e)::a,sh,b=>AF a sh b
 |(.S,k,e)::a,sh,b=>AF a (bD sh k e) b
theorem ES: ∀(us:List Up) (fr:Fr) (lh:aE ah) (sh:List ah),((St.mk fr lh sh).ups us).sh=AE sh us
 | [],_,_,_=>rfl
 |(.L,k,e)::us,fr,lh,sh=>ES us fr (iR lh k e) sh
 |(.S,k,e)::us,fr,lh,sh=>ES us fr lh (bD sh k e)
def bh(lh:aE ah)(v:T)(k sz n:Nat)(cs:List T):Prop:=
 (n=0∧v= .nilsl∧cs= [])∨(∃g r,v= .isl .L k g 0 n sz∧ab lh k=⟨g,.cells cs r false⟩∧cs.length=n*sz∧0<n)
def bG(n:Nat)(cs:List T):T:=if n=0 then .nilsl else .sl cs n false
theorem fj{n:Nat}{cs:List T}(h:n=0→cs= []):IsSl (bG n cs) n cs:=by
 unfold bG
 split
 ·rename_i h0;exact Or.inl ⟨rfl,h0,h h0⟩
 ·exact Or.inr ⟨false,rfl⟩
section
variable{lh:aE ah}{sh:List ah}{v:T}{k sz n:Nat}{cs:List T}
theorem bh.nil:bh lh .nilsl k sz 0 []:=Or.inl ⟨rfl,rfl,rfl⟩
theorem bh.len(h:bh lh v k sz n cs):cs.length=n*sz:=by
 rcases h with⟨rfl,_,rfl⟩|⟨g,wm,_,_,h,_⟩
 ·simp
 ·exact h
theorem bh.isl(h:bh lh v k sz n cs):IsSl (bG n cs) n cs:=fj fun h0=>by
 have:=h.len;rw[h0,Nat.zero_mul]at this;exact List.length_eq_zero_iff.1 this
theorem bh.congr{aU:aE ah}(h:bh lh v k sz n cs)(e:ab aU k=ab lh k):bh aU v k sz n cs:=by
 rcases h with h|⟨g,r,h1,h2,h3,h4⟩
 ·exact Or.inl h
 ·exact Or.inr ⟨g,r,h1,by rw[e,h2],h3,h4⟩
theorem bh.notS(h:bh lh v k sz n cs):Ev.notS v=true:=by
 rcases h with⟨_,rfl,_⟩|⟨g,wm,rfl,_⟩ <;> rfl
theorem bh.lenI(h:bh lh v k sz n cs):Ev.lenI v=some (.i .i64 (n:Int)):=by
 rcases h with⟨rfl,rfl,_⟩|⟨g,wm,rfl,_⟩ <;> rfl
theorem bh.noTup(h:bh lh v k sz n cs):Ev.noTup v=true:=by
 rcases h with⟨_,rfl,_⟩|⟨g,wm,rfl,_⟩ <;> rfl
theorem bh.cells(h:bh lh v k sz n cs):cellsOf v= [v]:=by
 rcases h with⟨_,rfl,_⟩|⟨g,wm,rfl,_⟩ <;> rfl
theorem bh.slC(h:bh lh v k sz n cs):Ev.slC lh sh sz v=some (n,cs):=by
 rcases h with⟨rfl,rfl,rfl⟩|⟨g,wm,rfl,h2,h3,h4⟩
 ·rfl
 ·grind [Ni,Da,List.take_length]
def nxV(lh:aE ah)(sh:List ah)(d sz bytes:Nat)(s x:T):T:=match Ev.appW lh sh d sz bytes s x with|some p=>p.1|none=>aO
def Qy(lh:aE ah)(sh:List ah)(d sz bytes:Nat)(s x:T):aE ah:=match Ev.appW lh sh d sz bytes s x with|some p=>p.2|none=>lh
theorem bh.appW{m bytes:Nat}{r:List T}{x:T}(h:bh lh v k sz n cs)(hx:Ev.slC lh sh sz x=some (m+1,r))(F:r.length=(m+1)*sz)(hr:(n+(m+1))*bytes≤roomy):
  Ev.appW lh sh k sz bytes v x=some (nxV lh sh k sz bytes v x,Qy lh sh k sz bytes v x)∧bh (Qy lh sh k sz bytes v x) (nxV lh sh k sz bytes v x) k sz (n+(m+1)) (cs++r)∧ ∀j,j≠k→ab (Qy lh sh k sz bytes v x) j=ab lh j:=by
 have J: ∃H aU,Ev.appW lh sh k sz bytes v x=some (H,aU)∧bh aU H k sz (n+(m+1)) (cs++r)∧ ∀j,j≠k→ab aU j=ab lh j:=by
  unfold Ev.appW
  rw[hx,Option.bind_some]
  rcases h with⟨rfl,rfl,rfl⟩|⟨g,wm,rfl,h2,h3,h4⟩
  ·rw[Ay,if_pos (by simpa using hr)]
   refine⟨_,_,rfl,Or.inr ⟨_,_,by rw[Nat.zero_add],wM _ _ _,by simpa using F,by omega⟩,fun j D=>bq _ _ D⟩
  ·rw[Ig,h2,Ax,if_pos ⟨rfl,rfl,hr,rfl,h3.symm⟩]
   refine⟨_,_,rfl,Or.inr ⟨_,_,rfl,wM _ _ _,by rw[List.length_append,h3,F,Nat.add_mul n (m+1)],by omega⟩,fun j D=>bq _ _ D⟩
 grind [nxV,Qy]
def fzU(lh:aE ah):T→List Up
 | .isl .L k g _ _ _=>match ab lh k with|⟨_,.cells cs _ _⟩=> [(.L,k,⟨g,.cells cs cs.length false⟩)]|_=> []
 |_=> []
theorem WC{sh:List ah}{lh:aE ah}{v:T}:AE sh (fzU lh v)=sh:=by
 unfold fzU
 split
 ·split <;> rfl
 ·rfl
theorem bh.fzW{m:Nat}{keep:Bool}(h:bh lh v k sz n cs):Ev.fzW m lh sh keep v=some (bG n cs,fzU lh v):=by
 rcases h with⟨rfl,rfl,rfl⟩|⟨g,wm,rfl,h2,h3,h4⟩
 ·rfl
 grind [bG,fzU,EN,oK,List.take_length]
theorem bh.fzV{keep:Bool}(h:bh lh v k sz n cs):Ev.fzV lh sh keep v=some (bG n cs,fzU lh v):=by
 rcases h with⟨rfl,rfl,rfl⟩|⟨g,wm,rfl,h2,h3,h4⟩
 ·rfl
 grind [bG,fzU,Nh,oK,List.take_length]
theorem Lk{d:Nat}(h:bh lh v k sz n cs)(r:d=k):oM d v= [(.L,k)]:=by
 subst r
 rcases h with⟨_,rfl,_⟩|⟨g,wm,rfl,_⟩ <;> rfl
end
def awr(sh:List ah)(ek:EK)(m k v:T):Option (List ah):=match m with| .mp .S kk g=>Lc sh kk (aI sh kk) g ek k v|_=>none
theorem Nu{sh:List ah}{ek:EK}{kk g:Nat}{k v:T}:awr sh ek (.mp .S kk g) k v=Lc sh kk (aI sh kk) g ek k v:=nr rfl
theorem aws{E:Env}{call:jB}{n:Nat}{fr:Fr}{lh:aE ah}{sh:List ah}{os:List aF}{ek:EK}{m k v:aP}(F:Ld (rd fr m)=true)(r:froz (rd fr v)=true):ai E call n (⟨none,.mu ek m k v,none⟩::os) ⟨fr,lh,sh⟩=ks (ai E call n os) fr ((awr sh ek (rd fr m) (rd fr k) (rd fr v)).map fun D=>(lh,D)):=by
 cases h:rd fr m with
 |mp sp kk g=>
  cases sp with
  |L=>grind [Ld]
  |S=>
   rw[awn h r,Nu]
   cases Lc sh kk (aI sh kk) g ek (rd fr k) (rd fr v) <;> rfl
 |_=>grind [Ld]
theorem IsSl.kept{v:T}{n:Nat}{cs:List T}(h:IsSl v n cs):kept v=true:=by
 rcases h with⟨rfl,_,_⟩|⟨ex,rfl⟩ <;> rfl
end Go.Ev
namespace Go.Ev
open Go
theorem Qz(m:Nat)(D:m≤62)(a:Int):Ev.bin .and (.i .u64 a) (.i .u64 (2 ^ m-1))=some (.i .u64 (a%2 ^ m)):=by
 have h2:(2:Int) ^ m=((2 ^ m:Nat):Int):=by norm_cast
 have Uv:0<2 ^ m:=Nat.two_pow_pos m
 have F:2 ^ m≤2 ^ 62:=Nat.pow_le_pow_right zZ D
 have VN:(BitVec.ofInt 64 ((2:Int) ^ m-1)).toNat=2 ^ m-1:=by
  grind
 have r:(BitVec.ofInt 64 a &&& BitVec.ofInt 64 ((2:Int) ^ m-1)).toNat=(a%2 ^ m).toNat:=by
  rw[BitVec.toNat_and,VN,Nat.and_two_pow_sub_one_eq_mod,BitVec.toNat_ofInt]
  have H:0≤a%((2 ^ 64:Nat):Int):=Int.emod_nonneg _ zZ
  have h4:(a%((2 ^ 64:Nat):Int))%((2 ^ m:Nat):Int)=a%((2 ^ m:Nat):Int):=Int.emod_emod_of_dvd a (by
   have:(2 ^ m:Nat)∣2 ^ 64:=Nat.pow_dvd_pow 2 zZ
   exact Int.natCast_dvd_natCast.2 this)
  have h5:(((a%((2 ^ 64:Nat):Int)).toNat%2 ^ m:Nat):Int)=a%((2 ^ m:Nat):Int):=by
   grind
  grind
 have K:(IntKind.u64).bits=64:=rfl
 simp only[Ev.bin,if_true,lR]
 have ZT:0≤a%2 ^ m:=by rw[h2];exact Int.emod_nonneg _ zZ
 have J:a%2 ^ m<2 ^ m:=by rw[h2];exact Int.emod_lt_of_pos _ zZ
 grind [IntKind.wrap]
theorem ac4{a:Int}:Ev.bin .and (.i .u64 a) (.i .u64 4294967295)=some (.i .u64 (a%4294967296)):=Qz 32 zZ a
theorem WD{k':IntKind}{a:Int}{b:Nat}(h:b≤64):Ev.bin .shr (.i .u64 a) (.i k' (b:Int))=some (.i .u64 (a/2 ^ b)):=by
 rw[Nq,if_neg zZ,Int.toNat_natCast]
 have:min b (IntKind.u64).bits=b:=Nat.min_eq_left h
 grind
theorem ac5{k':IntKind}{a:Int}:Ev.bin .shr (.i .u64 a) (.i k' 32)=some (.i .u64 (a/4294967296)):=WD (b:=32) zZ
theorem ac6{a b:Int}(r:a=0∨a=1)(D:b=0∨b=1):Ev.bin .and (.i .i64 a) (.i .i64 b)=some (.i .i64 (min a b)):=by
 rcases r with rfl|rfl <;> rcases D with rfl|rfl <;> rfl
theorem WE{a b:Int}(r:a=0∨a=1)(D:b=0∨b=1):Ev.bin .or (.i .i64 a) (.i .i64 b)=some (.i .i64 (max a b)):=by
 rcases r with rfl|rfl <;> rcases D with rfl|rfl <;> rfl
def WG(lh:aE ah)(k:Nat):List T:=match ab lh k with|⟨_,.cells cs _ _⟩=>cs|_=> []
theorem ac7{lh:aE ah}{k g r:Nat}{cs:List T}{bx:Bool}(h:ab lh k=⟨g,.cells cs r bx⟩):WG lh k=cs:=by unfold WG;rw[h]
theorem WH{lh:aE ah}{k g r:Nat}{bx:Bool}{P:List T→Prop}(h: ∃cs,ab lh k=⟨g,.cells cs r bx⟩∧P cs):ab lh k=⟨g,.cells (WG lh k) r bx⟩∧P (WG lh k):=by
 grind [ac7]
end Go.Ev
namespace Go.Ev
open Go
theorem ac8{E:Env}{n:Nat}{os BC:List aF}{b:ak}{st O s2 H J:St}{o:Out}(h1:ai E (ae E) n os st=some O)(h2:ai E (ae E) n BC st=some s2)(K:DC E n b O=some (o,H))(N:DC E n b s2=some (o,J))(hs:zJ (wz os++bX b) H J):DC E n (.fork os BC b) st=some (o,mZ (wz os++bX b) H J):=by
 rw[dg]
 obtain⟨r,h1⟩:=qX os h1
 obtain⟨D,h2⟩:=qX BC h2
 obtain⟨m3,K⟩:=dg.1 K
 obtain⟨F,N⟩:=dg.1 N
 have W:r≤r+D+m3+F:=zZ
 have X:D≤r+D+m3+F:=zZ
 have U:m3≤r+D+m3+F:=zZ
 have V:F≤r+D+m3+F:=zZ
 refine⟨r+D+m3+F, ?_⟩
 simp only[fG,fK (bM W) os h1,fK (bM X) BC h2,db (bM U) U b K,db (bM V) V b N,MN]
 grind
theorem WI{E:Env}{n:Nat}{os BC:List aF}{b:ak}{fr V W:Fr}{lh D H:aE ah}{sh F:List ah}{K s2:St}(J:wz BC=wz os)(h1:ai E (ae E) n os ⟨fr,lh,sh⟩=some K)(h2:ai E (ae E) n BC ⟨fr,lh,sh⟩=some s2)(N:DC E n b K=some (.nrm,⟨V,D,F⟩))(O:DC E n b s2=some (.nrm,⟨W,H,F⟩))(X: ∀k,k∉wz os++bX b→ab D k=ab H k):
  ∃(U:Fr) (aU:aE ah),DC E n (.fork os BC b) ⟨fr,lh,sh⟩=some (.nrm,⟨U,aU,F⟩)∧(∀k,k∉wz os++bX b→aa U k=aa fr k)∧ ∀k,k∉wz os++bX b→ab aU k=ab D k:=by
 have p: ∀{r:List aF} {s:St} {f:Fr} {l:aE ah},wz r=wz os→ai E (ae E) n r ⟨fr,lh,sh⟩=some s→DC E n b s=some (.nrm,⟨f,l,F⟩)→ ∀k,k∉wz os++bX b→aa f k=aa fr k:=by
  intro r s f l J h g k hk
  simp only[List.mem_append,not_or]at hk
  have a:=fV g k (by simpa using hk.2)
  have c:=oJ r h k (by rw[J];exact hk.1)
  exact a.trans c
 have AG:=p rfl h1 N
 have WJ:=p J h2 O
 refine⟨_,_,ac8 h1 h2 N O ⟨rfl,fun k hk=>(AG k hk).trans (WJ k hk).symm,X⟩,fun k hk=> ?_,fun k hk=> ?_⟩
 ·grind [nl]
 ·show aE.get eB (zI _ D H) k=_
  rw[C3,if_neg hk];rfl
def mh:ak→ak
 | .fork os _ b=> .seq (.region os) b
 |c=>c
def mi:ak→ak
 | .fork _ BC b=> .seq (.region BC) b
 |c=>c
def ac9:ak→Bool
 | .fork os BC _=>decide (wz BC=wz os)
 |_=>false
theorem AH{E:Env}{n:Nat}{os:List aF}{b:ak}{st t:St}{o:Out}(h:DC E n (.seq (.region os) b) st=some (o,t)): ∃s,ai E (ae E) n os st=some s∧DC E n b s=some (o,t):=by
 rw[Ew,C5]at h
 cases hs:ai E (ae E) n os st with
 |none=>rw[hs]at h;cases h
 |some s=>rw[hs]at h;exact⟨s,rfl,h⟩
theorem ada{E:Env}{n:Nat}{c:ak}{fr O U:Fr}{lh r N:aE ah}{sh D:List ah}(hc:ac9 c=true)(F:DC E n (mh c) ⟨fr,lh,sh⟩=some (.nrm,⟨O,r,D⟩))(H:DC E n (mi c) ⟨fr,lh,sh⟩=some (.nrm,⟨U,N,D⟩))(V: ∀k,(bX c).contains k=false→ab r k=ab N k):
  ∃(J:Fr) (aU:aE ah),DC E n c ⟨fr,lh,sh⟩=some (.nrm,⟨J,aU,D⟩)∧(∀k,(bX c).contains k=false→aa J k=aa fr k)∧ ∀k,(bX c).contains k=false→ab aU k=ab r k:=by
 cases c with
 |fork os BC b=>
  obtain⟨W,e1,F⟩:=AH F
  obtain⟨s2,e2,H⟩:=AH H
  have K: ∀k,(bX (.fork os BC b)).contains k=false↔k∉wz os++bX b:=by
   intro k
   show(wz os++bX b).contains k=false↔_
   simp
  obtain⟨J,aU,X,Y,Z⟩:=WI (of_decide_eq_true hc) e1 e2 F H (fun k hk=>V k ((K k).2 hk))
  grind
 |_=>cases hc
section
variable{k:IntKind}{a b:Int}{s t:List Nat}
theorem bnd{p:Prop}[Decidable p]:(some (T.b (decide p)):Option T)=if p then some (.b true)else some (.b false):=by grind
theorem awt{p:Prop}[Decidable p]:(some (T.b (!decide p)):Option T)=if p then some (.b false)else some (.b true):=by grind
theorem WK:Ev.bin .eql (.i k a) (.i k b)=if a=b then some (.b true)else some (.b false):=Nk.trans bnd
theorem WL:Ev.bin .neq (.i k a) (.i k b)=if a=b then some (.b false)else some (.b true):=Nl.trans awt
theorem WM:Ev.bin .lss (.i k a) (.i k b)=if a<b then some (.b true)else some (.b false):=Nm.trans bnd
theorem WN:Ev.bin .leq (.i k a) (.i k b)=if a≤b then some (.b true)else some (.b false):=Nn.trans bnd
theorem WO:Ev.bin .gtr (.i k a) (.i k b)=if b<a then some (.b true)else some (.b false):=No.trans bnd
theorem WQ:Ev.bin .geq (.i k a) (.i k b)=if b≤a then some (.b true)else some (.b false):=Np.trans bnd
theorem QA:Ev.bin .eql (.s s) (.s t)=if s=t then some (.b true)else some (.b false):=H3.trans bnd
theorem QB:Ev.bin .neq (.s s) (.s t)=if s=t then some (.b false)else some (.b true):=H4.trans awt
theorem QC:Ev.bin .lss (.s s) (.s t)=if lessN s t=true then some (.b true)else some (.b false):=by grind [H5]
end
theorem ifl{α:Type}{p:Prop}[Decidable p]{a b c:α}(h1:p→a=c)(h2: ¬p→b=c):(if p then a else b)=c:=by grind
def Gd(I:St→Prop)(R:Out→St→Prop)(x:Option (Out×St)):Prop:= ∃o st,x=some (o,st)∧((o= .nrm∧I st)∨(o≠ .nrm∧R o st))
section
variable{I:St→Prop}{R:Out→St→Prop}{p:Prop}[Decidable p]{x y:Option (Out×St)}{st:St}{i:Nat}
theorem ET(h1:p→Gd I R x)(h2: ¬p→Gd I R y):Gd I R (if p then x else y):=by grind
theorem fN(h:I st):Gd I R (some (.nrm,st)):=⟨_,_,rfl,.inl ⟨rfl,h⟩⟩
theorem jZ(h:R (.ext i) st):Gd I R (some (.ext i,st)):=⟨_,_,rfl,.inr ⟨by simp,h⟩⟩
theorem sL(h:R .ret st):Gd I R (some (.ret,st)):=⟨_,_,rfl,.inr ⟨by simp,h⟩⟩
end
theorem gI{E:Env}{n:Nat}{a:ak}(I:Nat→St→Prop)(P:Fr→aE ah→List ah→Prop)(o:Out)(N:Nat)
  (step: ∀k st,k<N→I k st→Gd (I (k+1)) (fun o' r=>o'=o∧P r.fr r.lh r.sh) (DC E n a st))
  (D: ∀st,I N st→Gd (fun _=>False) (fun o' r=>o'=o∧P r.fr r.lh r.sh) (DC E n a st)) (fr:Fr) (lh:aE ah) (sh:List ah) (h0:I 0 ⟨fr,lh,sh⟩):
  DC E n (.loop a) ⟨fr,lh,sh⟩=some (o,⟨pz E n a fr lh sh,iu E n a fr lh sh,jw E n a fr lh sh⟩)∧P (pz E n a fr lh sh) (iu E n a fr lh sh) (jw E n a fr lh sh):=by
 refine cj (cU I _ N (fun k st hk hi=> ?_) (fun st hi=> ?_) 0 _ (Nat.zero_le _) h0)
 ·obtain⟨o',r,e,h|h⟩:=step k st hk hi
  ·grind
  ·grind
 ·obtain⟨o',r,e,h|h⟩:=D st hi
  ·exact h.2.elim
  ·grind
end Go.Ev
namespace Go.Ev
open Go
theorem aE.put_self{α:Type}{d v:α}(D:v≠d): ∀{f:Nat} {t:aE α} {n:Nat},n<f→aE.get d t n=v→aE.put d f t n v=t
 |0,t,n,h,_=>by omega
 |f+1,.nil,n,_,e=>absurd e.symm (by rw[aE.get_nil];exact D)
 |f+1,.nd w l r,0,_,e=>by unfold aE.get at e;simp only at e;rw[e];unfold aE.put;rfl
 |f+1,.nd w l r,k+1,h,e=>by
  unfold aE.get at e;simp only at e
  unfold aE.put;simp only
  have hk:k/2<f:=zZ
  cases F:Nat.beq (k%2) 0 <;> rw[F]at e <;> simp only[cond_true,cond_false]at e ⊢ <;> rw[aE.put_self D hk e]
theorem QD{fr:Fr}{k:Nat}{v:T}(h:aa fr k=v)(r:v≠aO):cL fr k v=fr:=aE.put_self r (Nat.lt_succ_self k) h
theorem cH{E:Env}{f:Nat}{a:List T}{sh r:List ah}{b:Bool}(h:ae E f a sh=some (.b b,r)):ae E f a sh=if b=true then some (.b true,r)else some (.b false,r):=by cases b <;> simpa using h
section
variable{I:St→Prop}{R:Out→St→Prop}{p:Prop}[Decidable p]{x y:Option (Out×St)}{st:St}{i:Nat}
theorem gdI:Gd I R (if p then x else y)=((p→Gd I R x)∧(¬p→Gd I R y)):=propext (by by_cases h:p <;> simp[h])
theorem gdN:Gd I R (some (.nrm,st))=I st:=propext ⟨fun⟨_,_,e,h⟩=>by cases e;exact h.elim (·.2) (fun h=>absurd rfl h.1),fN⟩
theorem gdX:Gd I R (some (.ext i,st))=R (.ext i) st:=propext ⟨fun⟨_,_,e,h⟩=>by cases e;exact h.elim (fun h=>by cases h.1) (·.2),jZ⟩
theorem gdR:Gd I R (some (.ret,st))=R .ret st:=propext ⟨fun⟨_,_,e,h⟩=>by cases e;exact h.elim (fun h=>by cases h.1) (·.2),sL⟩
end
theorem aB6{α β:Type}{p:Prop}[Decidable p]{x y:Option (α×β)}{v:α}:(∃s,(if p then x else y)=some (v,s))=((p→ ∃s,x=some (v,s))∧(¬p→ ∃s,y=some (v,s))):=propext (by by_cases h:p <;> simp[h])
theorem AI{α β:Type}{u v:α}{t:β}:(∃s,some (u,t)=some (v,s))=(u=v):=propext zP
theorem dN{lh:aE ah}{j:Nat}{e:ah}{v:T}{k sz n:Nat}{cs:List T}(h:k≠j):bh (iR lh j e) v k sz n cs=bh lh v k sz n cs:=by unfold bh;rw[bq lh e h]
section
variable{E:Env}{n:Nat}{a:ak}{m:Nat}{fr:Fr}{lh:aE ah}{sh:List ah}
abbrev Lp(E:Env)(n:Nat)(a:ak)(fr:Fr)(lh:aE ah)(sh:List ah)(o:Out)(P:Fr→aE ah→List ah→Prop):Prop:=DC E n (.loop a) ⟨fr,lh,sh⟩=some (o,⟨pz E n a fr lh sh,iu E n a fr lh sh,jw E n a fr lh sh⟩)∧P (pz E n a fr lh sh) (iu E n a fr lh sh) (jw E n a fr lh sh)
theorem WR{b:ak}{st r:St}{o:Out}(D:dO (bX (.loop b))=m)(h:DC E n b st=some (o,r)){s:Nat}(hs:(m >>> s)%2=0):aa r.fr s=aa st.fr s:=by
 refine fV h s ?_
 show(bX (.loop b)).contains s=false
 cases hc:(bX (.loop b)).contains s with
 |false=>rfl
 |true=>
  have h1:=EL s _ (List.contains_iff_mem.1 hc)
  rw[D,Nat.testBit,Nat.and_comm,Nat.and_one_is_mod,hs]at h1
  simp at h1
theorem cm(F:dO (bX (.loop a))=m)(I:Nat→Fr→aE ah→List ah→Prop){P:Fr→aE ah→List ah→Prop}{o:Out}(N:Nat)(h0:I 0 fr lh sh)
  (step: ∀k f l s,k<N→(∀j,(m >>> j)%2=0→aa f j=aa fr j)→I k f l s→Gd (fun t=>I (k+1) t.fr t.lh t.sh) (fun o' t=>o'=o∧P t.fr t.lh t.sh) (DC E n a ⟨f,l,s⟩))
  (r: ∀f l s,(∀j,(m >>> j)%2=0→aa f j=aa fr j)→I N f l s→Gd (fun _=>False) (fun o' t=>o'=o∧P t.fr t.lh t.sh) (DC E n a ⟨f,l,s⟩)):
  Lp E n a fr lh sh o P:=by
 refine gI (fun k st=>(∀j,(m >>> j)%2=0→aa st.fr j=aa fr j)∧I k st.fr st.lh st.sh) P o N (fun k st hk hi=> ?_) (fun st hi=>r _ _ _ hi.1 hi.2) fr lh sh ⟨fun _ _=>rfl,h0⟩
 obtain⟨o',H,e,h⟩:=step k _ _ _ hk hi.1 hi.2
 exact⟨o',H,e,h.imp (fun h=>⟨h.1,fun j D=>(WR F e D).trans (hi.1 j D),h.2⟩) id⟩
abbrev pj(E:Env)(n:Nat)(a:ak)(fr:Fr)(lh:aE ah)(sh:List ah)(e s:Nat)(r:Int)(Q:aE ah→List ah→Prop):Prop:=DC E n (.loop a) ⟨fr,lh,sh⟩=(if r=0 then some (.ext e,⟨pz E n a fr lh sh,iu E n a fr lh sh,jw E n a fr lh sh⟩)else some (.ret,⟨cL (pz E n a fr lh sh) s (.i .i64 r),iu E n a fr lh sh,jw E n a fr lh sh⟩))∧Q (iu E n a fr lh sh) (jw E n a fr lh sh)
abbrev WS(E:Env)(n:Nat)(a:ak)(fr:Fr)(lh:aE ah)(sh:List ah)(e s:Nat)(p:Prop)[Decidable p](v:T)(Q:aE ah→List ah→Prop):Prop:=DC E n (.loop a) ⟨fr,lh,sh⟩=(if p then some (.ext e,⟨pz E n a fr lh sh,iu E n a fr lh sh,jw E n a fr lh sh⟩)else some (.ret,⟨cL (pz E n a fr lh sh) s v,iu E n a fr lh sh,jw E n a fr lh sh⟩))∧Q (iu E n a fr lh sh) (jw E n a fr lh sh)
theorem lG(D:dO (bX (.loop a))=m){e s:Nat}{p:Prop}[Decidable p]{v:T}(F:v≠aO)(I:Nat→Fr→aE ah→List ah→Prop){Q:aE ah→List ah→Prop}(N:Nat)(h0:I 0 fr lh sh)
  (step: ∀k f l h,k<N→(∀j,(m >>> j)%2=0→aa f j=aa fr j)→I k f l h→Gd (fun t=>I (k+1) t.fr t.lh t.sh) (fun o' t=>o'= .ret∧ ¬p∧aa t.fr s=v∧Q t.lh t.sh) (DC E n a ⟨f,l,h⟩))
  (r: ∀f l h,(∀j,(m >>> j)%2=0→aa f j=aa fr j)→I N f l h→Gd (fun _=>False) (fun o' t=>o'= .ext e∧p∧Q t.lh t.sh) (DC E n a ⟨f,l,h⟩)):
  WS E n a fr lh sh e s p v Q:=by
 obtain⟨h1,h2,h3⟩:=cm D I (P:=fun f l h=>(¬p→aa f s=v)∧Q l h) (o:=if p then .ext e else .ret) N h0
  (fun k f l h hk p i=>by
    obtain⟨o',t,x,y⟩:=step k f l h hk p i
    exact⟨o',t,x,y.imp id fun⟨a,b,c,d,g⟩=>⟨a,by rw[if_neg c];exact b,fun _=>d,g⟩⟩)
  (fun f l h p i=>by
    obtain⟨o',t,x,y⟩:=r f l h p i
    exact⟨o',t,x,y.imp id fun⟨a,b,c,d⟩=>⟨a,by rw[if_pos c];exact b,fun z=>absurd c z,d⟩⟩)
 refine⟨?_,h3⟩
 rw[h1]
 split
 ·rfl
 ·rename_i hr;rw[QD (h2 hr) F]
theorem bV(F:dO (bX (.loop a))=m){e s:Nat}{r:Int}(I:Nat→Fr→aE ah→List ah→Prop){Q:aE ah→List ah→Prop}(N:Nat)(h0:I 0 fr lh sh)
  (step: ∀k f l h,k<N→(∀j,(m >>> j)%2=0→aa f j=aa fr j)→I k f l h→Gd (fun t=>I (k+1) t.fr t.lh t.sh) (fun o' t=>o'= .ret∧r≠0∧aa t.fr s= .i .i64 r∧Q t.lh t.sh) (DC E n a ⟨f,l,h⟩))
  (D: ∀f l h,(∀j,(m >>> j)%2=0→aa f j=aa fr j)→I N f l h→Gd (fun _=>False) (fun o' t=>o'= .ext e∧r=0∧Q t.lh t.sh) (DC E n a ⟨f,l,h⟩)):
  pj E n a fr lh sh e s r Q:=lG F (by simp[aO]) I N h0 step D
theorem QE{lh:aE ah}{k:Nat}{v:ah}(h:ab lh k=v)(r:v≠eB):iR lh k v=lh:=aE.put_self r (Nat.lt_succ_self k) h
theorem lpO{e s k:Nat}{r:Int}{x:ah}{Q:aE ah→List ah→Prop}(h:pj E n a fr lh sh e s r fun l h=>(r=0→ab l k=x)∧Q l h)(hx:x.ob≠ .none):
  DC E n (.loop a) ⟨fr,lh,sh⟩=(if r=0 then some (.ext e,⟨pz E n a fr lh sh,iR (iu E n a fr lh sh) k x,jw E n a fr lh sh⟩)else some (.ret,⟨cL (pz E n a fr lh sh) s (.i .i64 r),iu E n a fr lh sh,jw E n a fr lh sh⟩))∧Q (iu E n a fr lh sh) (jw E n a fr lh sh):=by
 obtain⟨h1,h2,h3⟩:=h
 refine⟨?_,h3⟩
 rw[h1]
 split
 ·rename_i hr;rw[QE (h2 hr) (fun h=>hx (by rw[h];rfl))]
 ·rfl
end
end Go.Ev
