/- A tree evaluator over the model, proved against it (part G): where it answers, the call returns that answer. Conditions: none beyond its theorems' own. -/
import Derived.Test.YtnkgnjecmfkcfaaGreatEvF
set_option linter.all false
namespace Go.Ev
open Go
def kept1:T→Bool
 | .isl .S .. | .ptr .S .. | .mp .S .. =>true
 |t=>froz1 t
def kept:T→Bool
 | .agg cs=>cs.all kept1
 | .tup cs=>cs.all kept1
 | .fn _ a c=>a.all kept1&&c.all kept1
 |t=>kept1 t
theorem Kp{n:Nat}{t:T}(h:kept1 t=true):fz true (n+1) t= .ret (t,[]):=by
 cases t with
 |isl sp k g off len sz=>cases sp with|S=>rfl|L=>simp[kept1,froz1]at h
 |ptr sp k g off=>cases sp with|S=>rfl|L=>simp[kept1,froz1]at h
 |mp sp k g=>cases sp with|S=>rfl|L=>simp[kept1,froz1]at h
 |_=>exact re h
theorem ml{n:Nat}: ∀(ts:List T),ts.all kept1=true→bo (fz true (n+1)) ts= .ret (ts,[])
 | [],_=>rfl
 |t::ts,h=>by
  simp_all[List.all_cons,Bool.and_eq_true,bo,Kp,ml,Q.bind,List.append_nil]
theorem AA{n:Nat}{t:T}(h:kept t=true):fz true (n+2) t= .ret (t,[]):=by
 cases t with
 |agg cs=>simp only[kept]at h;rw[GO,ml cs h];rfl
 |tup cs=>simp only[kept]at h;rw[Ng,ml cs h];rfl
 |fn f a c=>simp only[kept,Bool.and_eq_true]at h;rw[alg,ml a h.1,ml c h.2];rfl
 |_=>exact Kp h
theorem yx{n:Nat}: ∀(ts:List T),ts.all kept=true→bo (fz true (n+2)) ts= .ret (ts,[])
 | [],_=>rfl
 |t::ts,h=>by
  simp_all[List.all_cons,Bool.and_eq_true,bo,AA,yx,Q.bind,List.append_nil]
def aoT{k:IntKind}{n:Int}:kept (.i k n)=true:=nr rfl
def aoU{l:List Nat}:kept (.s l)=true:=nr rfl
def Nu:kept .nilsl=true:=nr rfl
def ZR{k g off:Nat}:kept (.ptr .S k g off)=true:=nr rfl
def wv{k g:Nat}:kept (.mp .S k g)=true:=nr rfl
def ZS{cs:List T}:kept (.agg cs)=cs.all kept1:=nr rfl
def ags{k:IntKind}{n:Int}:kept1 (.i k n)=true:=nr rfl
def agt{l:List Nat}:kept1 (.s l)=true:=nr rfl
def Ks:kept1 .nilmp=true:=nr rfl
def Ty{k g off:Nat}:kept1 (.ptr .S k g off)=true:=nr rfl
def ZX{k g:Nat}:kept1 (.mp .S k g)=true:=nr rfl
def gk{t:T}(h:froz1 t=true):kept1 t=true:=by cases t <;> first|rfl|(simp[froz1]at h)
section
variable{E:Env}{call:ku}{n:Nat}{fr:Fr}{lh:aE ah}{sh:List ah}{os:List aG}{d:Nat}
def ZY{v:T}(h:kept v=true):fzV lh sh true v=some (v,[]):=by
 unfold fzV aJ;rw[AA h];rfl
def Su{D:Nat}{af:ai}{f:Nat}{args:List T}(F:E.fn f=some af)(H:af.eff=true)(J:args.all kept=true):br E call D ⟨fr,lh,sh⟩ f args=
  (call f args sh).bind fun r=>some (r.1,⟨fr,lh,r.2⟩):=by
 unfold br
 simp only[F,H,if_true]
 unfold aJ
 rw[yx args J]
 simp only[Q.run,Ay]
 cases call f args sh <;> rfl
def aoV{x:aV}(D:d<n)(r:noTup (rd fr x)=true)(hk:kept (rd fr x)=true):aj E call n (⟨some d,.box x true,none⟩::os) ⟨fr,lh,sh⟩=aj E call n os ⟨cN fr d (.ptr .S sh.length 1 0),lh,bI sh sh.length ⟨1,.cells (cellsOf (rd fr x)) 0 true⟩⟩:=by
 rw[lA (by rfl) (show D3 n (some d)from D)]
 unfold one
 simp only[bB,r,Bool.not_true,Bool.false_eq_true,if_false,if_true]
 unfold aJ
 rw[AA hk]
 simp only[Q.bind,List.isEmpty_nil,r,Bool.and_self,if_true]
 rfl
def ZZ{k g off m:Nat}{v:T}(e:ah)(r: ∀cs D bx,e.ob= .cells cs D bx→bx=true)(h1:(cellsOf v).length=m)(h2:noTup v=true)(J:kept v=true):iA lh sh (Q.run (St.mk .nil lh sh).get sh.length (Ko k g off m v e))=Cw lh sh k e g off v m:=by
 obtain⟨K,ob⟩:=e
 unfold Cw Ko
 by_cases N:K=g
 ·subst N
  cases ob with
  |none=>simp[Q.run,iA]
  |map ks O z=>simp[Q.run,iA]
  |cells cs D bx=>
   have MU:=r cs D bx rfl
   subst MU
   by_cases r:D≤off∧off+m≤cs.length
   ·have F:(decide (D≤off)&&decide (off+m≤cs.length))=true:=by simp[r.1,r.2]
    have MU:(true&&Sp.S==Sp.L)=false:=rfl
    have H:(true&&Sp.S==Sp.S)=true:=rfl
    unfold aJ
    simp only[if_true,F,MU,H,Bool.false_eq_true,if_false]
    rw[AA J]
    have Af:(jQ [] Sp.S k|| !noTup v||decide ((cellsOf v).length≠m))=false:=by simp[jQ,h1,h2]
    simp only[Q.bind,Af,Bool.false_eq_true,if_false,Q.run,iA]
    rw[if_pos ⟨trivial,h1,h2,r⟩]
    rfl
   grind [Bool.false_eq_true,Q.run,iA]
 grind [Q.run,iA]
theorem iQ{k g r off m D:Nat}{cs:List T}{v:T}(F:kept v=true)(H:aI sh k=⟨r,.cells cs D true⟩):stV lh sh (.ptr .S k g off) v m=Cw lh sh k ⟨r,.cells cs D true⟩ g off v m:=by
 by_cases h1:(cellsOf v).length=m
 ·cases h2:noTup v with
  |false=>
   grind [stV,od,Cw,Q.run]
  |true=>
   unfold stV od
   have:(decide ((cellsOf v).length≠m)|| !noTup v)=false:=by simp[h1,h2]
   simp only[this,Bool.false_eq_true,if_false]
   have:=ZZ (lh:=lh) (sh:=sh) (k:=k) (g:=g) (off:=off) ⟨r,.cells cs D true⟩ (by intro a b c h;cases h;rfl) h1 h2 F
   rw[←this,←H]
   rfl
 grind [stV,od,Cw,Q.run]
def Nv(sh:List ah)(kk:Nat)(e:ah)(g:Nat)(ek:EK)(k v:T):Option (List ah):=
 match e with
 |⟨r,.map ks D false⟩=>if r=g∧isKey ek k=true then(l8 ek k v ks D).map fun q=>bI sh kk ⟨g,.map q.1 q.2 false⟩else none
 |_=>none
def Z0{kk g r:Nat}{ek:EK}{k v:T}{ks D:List T}:Nv sh kk ⟨r,.map ks D false⟩ g ek k v=if r=g∧isKey ek k=true then(l8 ek k v ks D).map fun q=>bI sh kk ⟨g,.map q.1 q.2 false⟩else none:=rfl
def agu(kk g:Nat)(ek:EK)(k v:T)(e:ah):Q BB:=if e.g=g&&isKey ek k then match e.ob with
      | .map ks r false=>(fz false aJ v).bind fun p=>match l8 ek k p.1 ks r with
        |some q=>if jQ p.2 .S kk then .fail else .ret (.val aU (p.2++ [(.S,kk,⟨g,.map q.1 q.2 false⟩)]))
        |none=> .fail
      |_=> .fail
     else .fail
def agv{kk g:Nat}{ek:EK}{k v:T}(e:ah)(H:froz v=true):((lz (Q.run (St.mk fr lh sh).get sh.length (agu kk g ek k v e))).bind fun r=>aj E call n os {(St.mk fr lh sh).ups r.2 with fr:=fr})=
  (Nv sh kk e g ek k v).bind fun J=>aj E call n os ⟨fr,lh,J⟩:=by
 obtain⟨F,ob⟩:=e
 unfold agu Nv
 by_cases D:F=g∧isKey ek k=true
 ·have:(decide (F=g)&&isKey ek k)=true:=by simp[D.1,D.2]
  simp only[this,if_true]
  cases ob with
  |none=>rfl
  |cells cs N bx=>rfl
  |map ks K z=>
   cases z with
   |true=>rfl
   |false=>
    simp only[if_pos D]
    unfold aJ
    rw[kb H]
    simp only[Q.bind]
    cases l8 ek k v ks K with
    |none=>rfl
    |some q=>simp only[jQ,List.any_nil,Bool.false_eq_true,if_false,Q.run,List.nil_append];rfl
 grind [Bool.false_eq_true,Q.run,lz]
theorem aBm{ek:EK}{m k v:aV}{kk g:Nat}(r:rd fr m= .mp .S kk g)(D:froz (rd fr v)=true):aj E call n (⟨none,.mu ek m k v,none⟩::os) ⟨fr,lh,sh⟩=(Nv sh kk (aI sh kk) g ek (rd fr k) (rd fr v)).bind fun F=>aj E call n os ⟨fr,lh,F⟩:=by
 rw[lA (by rfl) (show D3 n none from trivial)]
 unfold one
 simp only[bB,r]
 exact agv (aI sh kk) D
end
section
variable{E:Env}{call:ku}{n:Nat}{fr:Fr}{lh:aE ah}{sh:List ah}{ds:List (List Nat×aG)}{bu:List FP}{u:List Nat}{d:Option Nat}
def Nw:T→Bool
 | .mp .S .. =>true
 |_=>false
def agw{k g:Nat}:Nw (.mp .S k g)=true:=nr rfl
def aBn{ek:EK}{m k v:aV}(hx:Nw (rd fr m)=true)(J:froz (rd fr v)=true):aK E call n ((u,⟨none,.mu ek m k v,none⟩)::ds) bu ⟨fr,lh,sh⟩=
  if meets u bu ⟨false,nh (rd fr m),nh (rd fr m)⟩=true then ke E call n ds (bu++ [⟨false,nh (rd fr m),nh (rd fr m)⟩]) (aj E call n [⟨none,.mu ek m k v,none⟩] ⟨fr,lh,sh⟩)else none:=by
 refine nN fun F=> ?_
 cases H:rd fr m with
 |mp sp kk g=>
  cases sp with
  |L=>grind [Nw]
  |S=>
   obtain⟨w,K,hr,r⟩:=qy (q:= .rd .S kk (agu kk g ek (rd fr k) (rd fr v))) (by rfl) (by rw[dw];simp only[bB,H];rfl) F
   simp only[Q.run,Q.log,Q.asks]at hr r
   have D:(St.mk fr lh sh).get .S kk=aI sh kk:=rfl
   rw[D]at hr r
   generalize N:aI sh kk=e at hr r
   obtain⟨O,ob⟩:=e
   unfold agu at hr r
   by_cases U:(decide (O=g)&&isKey ek (rd fr k))=true
   ·simp only[U,if_true]at hr r
    cases ob with
    |none=>simp[Q.run]at hr
    |cells cs X bx=>simp[Q.run]at hr
    |map ks Y V=>
     cases V with
     |true=>simp[Q.run]at hr
     |false=>
      simp only[]at hr r
      unfold aJ at hr r
      rw[kb J]at hr r
      simp only[Q.bind]at hr r
      split at hr
      ·rename_i q W
       simp only[jQ,List.any_nil,Bool.false_eq_true,if_false,Q.run,Option.some.injEq,BB.val.injEq]at hr
       obtain⟨rfl,rfl⟩:=hr
       rw[W]at r
       simp only[jQ,List.any_nil,Bool.false_eq_true,if_false]at r
       refine r ?_
       simp only[Q.asks,Bool.false_or,inB,List.nil_append,List.all_cons,List.all_nil,Bool.and_true]
       rw[D,N]
       rfl
      ·simp[Q.run]at hr
   grind [Bool.false_eq_true,Q.run]
 |_=>grind [Nw]
def zj:FP:=⟨true,[],[]⟩
def ad9{f:Nat}{af:ai}{as:List aV}(r:E.fn f=some af)(D:af.eff=true)(F:(as.map (rd fr)).all kept=true):
  aK E call n ((u,⟨d,.callf f as,none⟩)::ds) bu ⟨fr,lh,sh⟩=if meets u bu zj=true then ke E call n ds (bu++ [zj]) (aj E call n [⟨d,.callf f as,none⟩] ⟨fr,lh,sh⟩)else none:=by
 refine nN fun H=> ?_
 unfold bU
 have J:bD (St.mk fr lh sh).rho (.callf f as)=some (some (f,as.map (rd fr))):=by rw[dw];rfl
 simp only[J]
 unfold eN
 simp only[r,D]
 unfold aJ
 rw[yx _ F]
 simp only[Q.run,Q.log,inB,List.all_nil,Bool.not_true,Bool.false_eq_true,if_false,if_true,cW,List.map_nil]
 rfl
def Kt{rs r:List (Sp×Nat)}:apart ⟨false,rs,r⟩ zj=(Iu rs&&Iu r):=by
 grind [apart,zj,eM]
def Ku{rs r:List (Sp×Nat)}:apart zj ⟨false,rs,r⟩=(Iu rs&&Iu r):=by
 unfold apart zj eM
 simp
def agx:Iu []=true:=nr rfl
def aBo{k:Nat}{xs:List (Sp×Nat)}:Iu ((.L,k)::xs)=Iu xs:=nr rfl
end
section
variable{E:Env}{n:Nat}{a:ak}
def cY(I:Nat→St→Prop)(R:Out→St→Prop)(N:Nat)
  (step: ∀k st,k<N→I k st→(∃bt,DC E n a st=some (.nrm,bt)∧I (k+1) bt)∨(∃o bt,o≠ .nrm∧DC E n a st=some (o,bt)∧R o bt))
  (D: ∀st,I N st→ ∃o bt,o≠ .nrm∧DC E n a st=some (o,bt)∧R o bt):
  ∀(k:Nat) (st:St),k≤N→I k st→ ∃o bt,DC E n (.loop a) st=some (o,bt)∧R o bt:=by
 have r: ∀{st o bt},o≠ .nrm→DC E n a st=some (o,bt)→DC E n (.loop a) st=some (o,bt):=by
  intro st o bt H h
  rw[sD,h]
  cases o with
  |nrm=>grind
  |ext id=>rfl
  |ret=>rfl
 have F: ∀(m k:Nat) (st:St),N-k=m→k≤N→I k st→ ∃o bt,DC E n (.loop a) st=some (o,bt)∧R o bt:=by
  intro m
  induction m with
  |zero=>
   intro k st J hk h
   have:k=N:=zV
   grind
  |succ m ih=>
   grind [sD,mY]
 grind
def cq{fr:Fr}{lh:aE ah}{sh:List ah}{o:Out}{P:Fr→aE ah→List ah→Prop}
  (h: ∃o' r,DC E n (.loop a) ⟨fr,lh,sh⟩=some (o',r)∧o'=o∧P r.fr r.lh r.sh):
  DC E n (.loop a) ⟨fr,lh,sh⟩=some (o,⟨nM E n a fr lh sh,iL E n a fr lh sh,je E n a fr lh sh⟩)∧P (nM E n a fr lh sh) (iL E n a fr lh sh) (je E n a fr lh sh):=by
 obtain⟨o',r,h1,rfl,h2⟩:=h
 exact Tf ⟨r.fr,r.lh,r.sh,h1,h2⟩
end
theorem IsSl.kept1{v:T}{n:Nat}{cs:List T}(h:IsSl v n cs):kept1 v=true:=gk h.froz1
theorem AB{st:St}{a b:List Up}:inB st (a++b)=(inB st a&&inB st b):=by grind [inB]
def AD{st:St}{sp:Sp}{k:Nat}{e:ah}(h:zq (st.get sp k)=true):inB st [(sp,k,e)]=true:=by
 cases sp with
 |L=>rfl
 |S=>simp only[inB,List.all_cons,List.all_nil,Bool.and_true,h,Bool.or_true]
section
variable{st:St}{nx:Nat}
theorem wx{f:T→Q (T×List Up)}(r: ∀t p,(f t).run st.get nx=some p→inB st p.2=true): ∀(ts:List T) (p:List T×List Up),(bo f ts).run st.get nx=some p→inB st p.2=true
 | [],p,h=>by simp[bo,Q.run]at h;subst h;rfl
 |t::ts,p,h=>by
  simp only[bo,bz]at h
  cases h1:(f t).run st.get nx with
  |none=>grind
  |some D=>
   rw[h1]at h
   simp only[Option.bind_some]at h
   cases h2:(bo f ts).run st.get nx with
   |none=>grind
   |some F=>
    rw[h2]at h
    simp only[Option.bind_some,Q.run,Option.some.injEq]at h
    subst h
    simp only[AB,r _ _ h1,wx r ts _ h2,Bool.and_self]
theorem Nx: ∀(n:Nat) (keep:Bool) (t:T) (p:T×List Up),(fz keep n t).run st.get nx=some p→inB st p.2=true
 |0,keep,t,p,h=>by simp[fz,Q.run]at h
 |n+1,keep,t,p,h=>by
  have ih:=Nx n
  have F:=fun(k:Bool) (ts:List T) (q:List T×List Up)=>wx (ih k) ts q
  cases t with
  |isl sp k g off len sz=>
   simp only[fz]at h
   split at h
   ·simp[Q.run]at h;subst h;rfl
   ·simp only[Q.run]at h
    cases r:st.get sp k with
    |mk D ob=>
     have J: ∀{o},ob=o→zq (st.get sp k)=zq ⟨D,o⟩:=fun e=>by rw[r,e]
     rw[r]at h
     simp only at h
     split at h
     ·split at h
      ·split at h
       ·simp only[Q.run,Option.some.injEq]at h;subst h;exact AD (by rw[r];rfl)
       ·simp[Q.run]at h
      ·split at h
       ·simp only[bz]at h
        cases h2:(bo (fz false n) (List.take (len*sz) (List.drop off ‹List T›))).run st.get nx with
        |none=>grind
        |some q=>
         rw[h2]at h
         simp only[Option.bind_some,Q.run,Option.some.injEq]at h
         subst h
         simp only[AB,F _ _ _ h2,Bool.true_and]
         exact AD (by rw[r];rfl)
       ·simp[Q.run]at h
      ·simp[Q.run]at h
     ·simp[Q.run]at h
  |mp sp k g=>
   simp only[fz]at h
   split at h
   ·simp[Q.run]at h;subst h;rfl
   ·simp only[Q.run]at h
    cases r:st.get sp k with
    |mk D ob=>
     rw[r]at h
     simp only at h
     split at h
     ·split at h
      ·simp only[Q.run,Option.some.injEq]at h;subst h;exact AD (by rw[r];rfl)
      ·simp[Q.run]at h
     ·simp[Q.run]at h
  |ptr sp k g off=>
   simp only[fz]at h
   split at h
   ·simp[Q.run]at h;subst h;rfl
   ·simp only[Q.run]at h
    cases r:st.get sp k with
    |mk D ob=>
     rw[r]at h
     simp only at h
     split at h
     ·split at h
      ·simp only[bz]at h
       cases h2:(bo (fz false n) (List.drop off ‹List T›)).run st.get nx with
       |none=>grind
       |some q=>
        rw[h2]at h
        simp only[Option.bind_some,Q.run,Option.some.injEq]at h
        subst h
        simp only[AB,F _ _ _ h2,Bool.true_and]
        exact AD (by rw[r];rfl)
      ·simp[Q.run]at h
     ·simp[Q.run]at h
  |fn f a c=>
   simp only[fz,bz]at h
   cases h1:(bo (fz keep n) a).run st.get nx with
   |none=>grind
   |some H=>
    rw[h1]at h
    simp only[Option.bind_some]at h
    cases h2:(bo (fz keep n) c).run st.get nx with
    |none=>grind
    |some K=>
     grind [Q.run,Option.some.injEq,AB,Bool.and_self]
  |agg cs=>
   simp only[fz,bz]at h
   cases h1:(bo (fz keep n) cs).run st.get nx with
   |none=>grind
   |some H=>
    grind [Q.run,Option.some.injEq]
  |tup cs=>
   simp only[fz,bz]at h
   cases h1:(bo (fz keep n) cs).run st.get nx with
   |none=>grind
   |some H=>
    grind [Q.run,Option.some.injEq]
  |_=>simp[fz,Q.run]at h;subst h;rfl
end
section
variable{E:Env}{call:ku}{n:Nat}{fr:Fr}{lh:aE ah}{sh:List ah}{ds:List (List Nat×aG)}{bu:List FP}{u:List Nat}{d:Option Nat}
def isNe:T→Bool
 | .sl _ (_+1) _=>true
 |_=>false
def agy{cs:List T}{m:Nat}{ex:Bool}:isNe (.sl cs (m+1) ex)=true:=nr rfl
def pK(r:Nat):T→List (Sp×Nat)
 | .isl .L k _ _ _ _=> [(.L,k)]
 |_=> [(.L,r)]
def Ny{r k g off len sz:Nat}:pK r (.isl .L k g off len sz)= [(.L,k)]:=nr rfl
def Nz{r:Nat}:pK r .nilsl= [(.L,r)]:=nr rfl
def aoW{r sz bytes:Nat}{s x:aV}(hs:notS (rd fr s)=true)(hx:isNe (rd fr x)=true):aK E call n ((u,⟨some r,.app sz bytes s x false false,none⟩)::ds) bu ⟨fr,lh,sh⟩=
  if meets u bu ⟨false,pK r (rd fr s),pK r (rd fr s)⟩=true then ke E call n ds (bu++ [⟨false,pK r (rd fr s),pK r (rd fr s)⟩]) (aj E call n [⟨some r,.app sz bytes s x false false,none⟩] ⟨fr,lh,sh⟩)else none:=by
 refine nN fun D=> ?_
 cases H:rd fr x with
 |sl cs m ex=>
  cases m with
  |zero=>simp_all[isNe]
  |succ m=>
   by_cases hc:cs.length=(m+1)*sz
   ·have N:cu sz (rd fr x)= .ret (m+1,cs):=by rw[H];simp only[cu,hc,if_true]
    obtain⟨v,J,hr,F⟩:=qy (q:=kq r sz bytes (rd fr s) (rd fr x) false false) (by rfl) (by rw[dw];rfl) D
    have O:=P2 hs hr
    have F:=F (by rw[O];simp)
    rw[F]
    unfold kq at hr ⊢
    rw[N]at hr ⊢
    simp only[Q.bind,Nat.add_one_ne_zero,if_false]at hr ⊢
    cases GQ:rd fr s with
    |nilsl=>
     rw[GQ]at hr
     simp only at hr ⊢
     split at hr
     ·rename_i K
      rw[if_pos K]
      simp[jE,Q.run]at hr
      obtain⟨rfl,rfl⟩:=hr
      rfl
     ·simp[Q.run]at hr
    |sl U V e2=>
     rw[GQ]at hr
     cases e2 with
     |false=>simp[Q.run]at hr
     |true=>
      simp only at hr ⊢
      split at hr
      ·rename_i K
       rw[if_pos K]
       simp[jE,Q.run]at hr
       obtain⟨rfl,rfl⟩:=hr
       rfl
      ·simp[Q.run]at hr
    |isl sp k g off len W=>
     cases sp with
     |S=>grind [notS]
     |L=>
      grind [Q.run,Option.some.injEq,BB.val.injEq,Q.asks,Q.log,cW,pK]
    |_=>grind [Q.run]
   ·obtain⟨v,J,hr,F⟩:=qy (q:=kq r sz bytes (rd fr s) (rd fr x) false false) (by rfl) (by rw[dw];rfl) D
    simp_all[kq,cu,Q.bind,Q.run]
 |_=>grind [isNe]
def pL:ah→Bool
 |⟨_,.cells _ _ bx⟩=>bx
 |_=>false
def Kv(lh:aE ah):T→Bool
 | .ptr .L k _ _=>pL (ab lh k)
 |_=>false
def TA{k g off:Nat}:Kv lh (.ptr .L k g off)=pL (ab lh k):=nr rfl
def G2{g r:Nat}{cs:List T}{bx:Bool}:pL ⟨g,.cells cs r bx⟩=bx:=nr rfl
def aBp{x v:aV}{m:Nat}(hx:Kv lh (rd fr x)=true):aK E call n ((u,⟨none,.st x v m,none⟩)::ds) bu ⟨fr,lh,sh⟩=
  if meets u bu ⟨false,ng (rd fr x),ng (rd fr x)⟩=true then ke E call n ds (bu++ [⟨false,ng (rd fr x),ng (rd fr x)⟩]) (aj E call n [⟨none,.st x v m,none⟩] ⟨fr,lh,sh⟩)else none:=by
 refine nN fun D=> ?_
 cases F:rd fr x with
 |ptr sp k g off=>
  cases sp with
  |S=>grind [Kv]
  |L=>
   obtain⟨w,K,hr,r⟩:=qy (q:=od (rd fr x) (rd fr v) m) (by rfl) (by rw[dw];rfl) D
   rw[F]at hx hr r
   simp only[Kv]at hx
   unfold od at hr r
   split at hr
   ·simp[Q.run]at hr
   ·rename_i N
    rw[if_neg N]at r
    simp only[Q.run,Q.asks,Q.log]at hr r
    have H:(St.mk fr lh sh).get .L k=ab lh k:=rfl
    rw[H]at hr r
    generalize ab lh k=e at hx hr r
    obtain⟨U,ob⟩:=e
    cases ob with
    |none=>simp[pL]at hx
    |map a b c=>simp[pL]at hx
    |cells cs V bx=>
     simp only[pL]at hx
     subst hx
     simp only at hr r
     split at hr
     ·rename_i O
      rw[if_pos O]at r
      split at hr
      ·rename_i hc
       rw[if_pos hc]at r
       have J:(true&&Sp.L==Sp.L)=true:=rfl
       simp only[J,if_true,Q.run,Option.some.injEq,BB.val.injEq]at hr r
       obtain⟨rfl,rfl⟩:=hr
       exact r rfl
      ·simp[Q.run]at hr
     ·simp[Q.run]at hr
 |_=>grind [Kv]
end
section
variable{α β:Type}[DecidableEq α]
def aP:List (α×β)→α→Option β
 | [],_=>none
 |p::m,a=>if a=p.1 then some p.2 else aP m a
def jU:List (α×β)→α→Option Nat
 | [],_=>none
 |p::m,a=>if a=p.1 then some 0 else(jU m a).map (· +1)
variable{ek:EK}{kT:α→T}{vT:β→T}
theorem G3(r: ∀a b,sS ek (kT a) (kT b)=some (decide (a=b)))(a:α): ∀m:List (α×β),hZ ek (kT a) (m.map fun p=>kT p.1)=some (jU m a)
 | []=>rfl
 |p::m=>by
  rw[List.map_cons,Tu,r,G3 r a m,jU]
  by_cases h:a=p.1
  ·rw[decide_eq_true h,if_pos h];rfl
  ·rw[decide_eq_false h,if_neg h];rfl
theorem pM(a:α): ∀m:List (α×β),aP m a=(jU m a).bind fun i=>(m[i]?).map (·.2)
 | []=>rfl
 |p::m=>by
  rw[aP,jU]
  by_cases h:a=p.1
  ·grind
  ·rw[if_neg h,if_neg h,pM a m]
   cases jU m a <;> rfl
theorem wy(a:α): ∀(m:List (α×β)) (i:Nat),jU m a=some i→i<m.length
 | [],i,h=>by simp[jU]at h
 |p::m,i,h=>by
  rw[jU]at h
  split at h
  ·grind
  ·cases r:jU m a with
   |none=>grind
   |some j=>
    rw[r]at h
    simp at h
    have:=wy a m j r
    grind
def aoX(r: ∀a b,sS ek (kT a) (kT b)=some (decide (a=b)))(hk: ∀a,isKey ek (kT a)=true)(m:List (α×β))(a:α)(z:T):
  iN ek (m.map fun p=>kT p.1) (m.map fun p=>vT p.2) (kT a) z true=some (match aP m a with|some v=> .tup [vT v,.b true]|none=> .tup [z,.b false]):=by
 rw[P1 (hk a),G3 r,pM]
 cases D:jU m a with
 |none=>rfl
 |some i=>
  grind [Kn,List.getElem?_eq_getElem,wy]
def P3(r: ∀a b,sS ek (kT a) (kT b)=some (decide (a=b)))(hk: ∀a,isKey ek (kT a)=true)(m:List (α×β))(a:α)(z:T):
  iN ek (m.map fun p=>kT p.1) (m.map fun p=>vT p.2) (kT a) z false=some (match aP m a with|some v=>vT v|none=>z):=by
 rw[P1 (hk a),G3 r,pM]
 cases D:jU m a with
 |none=>rfl
 |some i=>
  grind [Kn,List.getElem?_eq_getElem,wy]
def wz(r: ∀a b,sS ek (kT a) (kT b)=some (decide (a=b)))(m:List (α×β))(a:α)(v:β)(h:aP m a=none):
  l8 ek (kT a) (vT v) (m.map fun p=>kT p.1) (m.map fun p=>vT p.2)=some ((m++ [(a,v)]).map (fun p=>kT p.1),(m++ [(a,v)]).map (fun p=>vT p.2)):=by
 rw[agi,G3 r]
 rw[pM]at h
 cases D:jU m a with
 |none=>simp[Tv]
 |some i=>
  grind [List.getElem?_eq_getElem,wy]
theorem lZ(a b:α)(v:β): ∀m:List (α×β),aP (m++ [(b,v)]) a=match aP m a with|some u=>some u|none=>if a=b then some v else none
 | []=>by simp[aP]
 |p::m=>by
  rw[List.cons_append,aP,aP,lZ a b v m]
  grind
end
def Cy(sh:List ah):List Up→List ah
 | []=>sh
 |(.L,_,_)::us=>Cy sh us
 |(.S,k,e)::us=>Cy (bI sh k e) us
def Z3{sh:List ah}:Cy sh []=sh:=nr rfl
def aoY{sh:List ah}{k:Nat}{e:ah}{us:List Up}:Cy sh ((.L,k,e)::us)=Cy sh us:=nr rfl
theorem Cz: ∀(a:List Up) (sh:List ah) (b:List Up),Cy sh (a++b)=Cy (Cy sh a) b
 | [],sh,b=>rfl
 |(.L,k,e)::a,sh,b=>Cz a sh b
 |(.S,k,e)::a,sh,b=>Cz a (bI sh k e) b
theorem G5: ∀(us:List Up) (fr:Fr) (lh:aE ah) (sh:List ah),((St.mk fr lh sh).ups us).sh=Cy sh us
 | [],_,_,_=>rfl
 |(.L,k,e)::us,fr,lh,sh=>G5 us fr (jB lh k e) sh
 |(.S,k,e)::us,fr,lh,sh=>G5 us fr lh (bI sh k e)
def aW(lh:aE ah)(v:T)(k sz n:Nat)(cs:List T):Prop:=
 (n=0∧v= .nilsl∧cs= [])∨(∃g r,v= .isl .L k g 0 n sz∧ab lh k=⟨g,.cells cs r false⟩∧cs.length=n*sz∧0<n)
def bj(n:Nat)(cs:List T):T:=if n=0 then .nilsl else .sl cs n false
def dX{n:Nat}{cs:List T}(h:n=0→cs= []):IsSl (bj n cs) n cs:=by
 unfold bj
 split
 ·rename_i h0;exact Or.inl ⟨rfl,h0,h h0⟩
 ·exact Or.inr ⟨false,rfl⟩
section
variable{lh:aE ah}{sh:List ah}{v:T}{k sz n:Nat}{cs:List T}
def aW.nil:aW lh .nilsl k sz 0 []:=Or.inl ⟨rfl,rfl,rfl⟩
theorem aW.len(h:aW lh v k sz n cs):cs.length=n*sz:=by
 rcases h with⟨rfl,_,rfl⟩|⟨g,wm,_,_,h,_⟩
 ·simp
 ·exact h
def aW.isl(h:aW lh v k sz n cs):IsSl (bj n cs) n cs:=dX fun h0=>by
 have:=h.len;rw[h0,Nat.zero_mul]at this;exact List.length_eq_zero_iff.1 this
def aW.congr{aN:aE ah}(h:aW lh v k sz n cs)(e:ab aN k=ab lh k):aW aN v k sz n cs:=by
 rcases h with h|⟨g,r,h1,h2,h3,h4⟩
 ·exact Or.inl h
 ·exact Or.inr ⟨g,r,h1,by rw[e,h2],h3,h4⟩
theorem aW.notS(h:aW lh v k sz n cs):Ev.notS v=true:=by
 rcases h with⟨_,rfl,_⟩|⟨g,wm,rfl,_⟩ <;> rfl
theorem aW.lenI(h:aW lh v k sz n cs):Ev.lenI v=some (.i .i64 (n:Int)):=by
 rcases h with⟨rfl,rfl,_⟩|⟨g,wm,rfl,_⟩ <;> rfl
theorem aW.noTup(h:aW lh v k sz n cs):Ev.noTup v=true:=by
 rcases h with⟨_,rfl,_⟩|⟨g,wm,rfl,_⟩ <;> rfl
theorem aW.cells(h:aW lh v k sz n cs):cellsOf v= [v]:=by
 rcases h with⟨_,rfl,_⟩|⟨g,wm,rfl,_⟩ <;> rfl
def UZ(lh:aE ah)(sh:List ah)(d sz bytes:Nat)(s x:T):T:=match Ev.appW lh sh d sz bytes s x with|some p=>p.1|none=>aU
def G6(lh:aE ah)(sh:List ah)(d sz bytes:Nat)(s x:T):aE ah:=match Ev.appW lh sh d sz bytes s x with|some p=>p.2|none=>lh
theorem aW.appW{m bytes:Nat}{ps:List T}{x:T}(h:aW lh v k sz n cs)(hx:Ev.slC lh sh sz x=some (m+1,ps))(D:ps.length=(m+1)*sz)(hr:(n+(m+1))*bytes≤roomy):
  Ev.appW lh sh k sz bytes v x=some (UZ lh sh k sz bytes v x,G6 lh sh k sz bytes v x)∧aW (G6 lh sh k sz bytes v x) (UZ lh sh k sz bytes v x) k sz (n+(m+1)) (cs++ps)∧ ∀j,j≠k→ab (G6 lh sh k sz bytes v x) j=ab lh j:=by
 have H: ∃F aN,Ev.appW lh sh k sz bytes v x=some (F,aN)∧aW aN F k sz (n+(m+1)) (cs++ps)∧ ∀j,j≠k→ab aN j=ab lh j:=by
  unfold Ev.appW
  rw[hx,Option.bind_some]
  rcases h with⟨rfl,rfl,rfl⟩|⟨g,wm,rfl,h2,h3,h4⟩
  ·rw[wu,if_pos (by simpa using hr)]
   refine⟨_,_,rfl,Or.inr ⟨_,_,by rw[Nat.zero_add],oy _ _ _,by simpa using D,by omega⟩,fun j r=>bq _ _ r⟩
  ·rw[Cq,h2,ua,if_pos ⟨rfl,rfl,hr,rfl,h3.symm⟩]
   refine⟨_,_,rfl,Or.inr ⟨_,_,rfl,oy _ _ _,by rw[List.length_append,h3,D,Nat.add_mul n (m+1)],by omega⟩,fun j r=>bq _ _ r⟩
 grind [UZ,G6]
def fzU(lh:aE ah):T→List Up
 | .isl .L k g _ _ _=>match ab lh k with|⟨_,.cells cs _ _⟩=> [(.L,k,⟨g,.cells cs cs.length false⟩)]|_=> []
 |_=> []
def Z4{sh:List ah}{lh:aE ah}{v:T}:Cy sh (fzU lh v)=sh:=by
 unfold fzU
 split
 ·split <;> rfl
 ·rfl
theorem aW.fzW{m:Nat}{keep:Bool}(h:aW lh v k sz n cs):Ev.fzW m lh sh keep v=some (bj n cs,fzU lh v):=by
 rcases h with⟨rfl,rfl,rfl⟩|⟨g,wm,rfl,h2,h3,h4⟩
 ·rfl
 grind [bj,fzU,G0,pI,List.take_length]
theorem aW.fzV{keep:Bool}(h:aW lh v k sz n cs):Ev.fzV lh sh keep v=some (bj n cs,fzU lh v):=by
 rcases h with⟨rfl,rfl,rfl⟩|⟨g,wm,rfl,h2,h3,h4⟩
 ·rfl
 grind [bj,fzU,PQ,pI,List.take_length]
def NB{d:Nat}(h:aW lh v k sz n cs)(r:d=k):pK d v= [(.L,k)]:=by
 subst r
 rcases h with⟨_,rfl,_⟩|⟨g,wm,rfl,_⟩ <;> rfl
end
def aBq(sh:List ah)(ek:EK)(m k v:T):Option (List ah):=match m with| .mp .S kk g=>Nv sh kk (aI sh kk) g ek k v|_=>none
theorem P4{sh:List ah}{ek:EK}{kk g:Nat}{k v:T}:aBq sh ek (.mp .S kk g) k v=Nv sh kk (aI sh kk) g ek k v:=nr rfl
def aBr{E:Env}{call:ku}{n:Nat}{fr:Fr}{lh:aE ah}{sh:List ah}{os:List aG}{ek:EK}{m k v:aV}(F:Nw (rd fr m)=true)(r:froz (rd fr v)=true):aj E call n (⟨none,.mu ek m k v,none⟩::os) ⟨fr,lh,sh⟩=ks (aj E call n os) fr ((aBq sh ek (rd fr m) (rd fr k) (rd fr v)).map fun D=>(lh,D)):=by
 cases h:rd fr m with
 |mp sp kk g=>
  cases sp with
  |L=>grind [Nw]
  |S=>
   rw[aBm h r,P4]
   cases Nv sh kk (aI sh kk) g ek (rd fr k) (rd fr v) <;> rfl
 |_=>grind [Nw]
theorem IsSl.kept{v:T}{n:Nat}{cs:List T}(h:IsSl v n cs):kept v=true:=by
 rcases h with⟨rfl,_,_⟩|⟨ex,rfl⟩ <;> rfl
def TB(m:Nat)(D:m≤62)(a:Int):Ev.bin .and (.i .u64 a) (.i .u64 (2 ^ m-1))=some (.i .u64 (a%2 ^ m)):=by
 have h2:(2:Int) ^ m=((2 ^ m:Nat):Int):=by norm_cast
 have N:0<2 ^ m:=Nat.two_pow_pos m
 have F:2 ^ m≤2 ^ 62:=Nat.pow_le_pow_right zV D
 have Zg:(BitVec.ofInt 64 ((2:Int) ^ m-1)).toNat=2 ^ m-1:=by
  grind
 have r:(BitVec.ofInt 64 a &&& BitVec.ofInt 64 ((2:Int) ^ m-1)).toNat=(a%2 ^ m).toNat:=by
  rw[BitVec.toNat_and,Zg,Nat.and_two_pow_sub_one_eq_mod,BitVec.toNat_ofInt]
  have H:0≤a%((2 ^ 64:Nat):Int):=Int.emod_nonneg _ zV
  have h4:(a%((2 ^ 64:Nat):Int))%((2 ^ m:Nat):Int)=a%((2 ^ m:Nat):Int):=Int.emod_emod_of_dvd a (by
   have:(2 ^ m:Nat)∣2 ^ 64:=Nat.pow_dvd_pow 2 zV
   exact Int.natCast_dvd_natCast.2 this)
  have h5:(((a%((2 ^ 64:Nat):Int)).toNat%2 ^ m:Nat):Int)=a%((2 ^ m:Nat):Int):=by
   grind
  grind
 have O:(IntKind.u64).bits=64:=rfl
 simp only[Ev.bin,if_true,mI]
 have J:0≤a%2 ^ m:=by rw[h2];exact Int.emod_nonneg _ zV
 have K:a%2 ^ m<2 ^ m:=by rw[h2];exact Int.emod_lt_of_pos _ zV
 grind [IntKind.wrap]
theorem agC{a:Int}:Ev.bin .and (.i .u64 a) (.i .u64 4294967295)=some (.i .u64 (a%4294967296)):=TB 32 zV a
def Z5{k':IntKind}{a:Int}{b:Nat}(h:b≤64):Ev.bin .shr (.i .u64 a) (.i k' (b:Int))=some (.i .u64 (a/2 ^ b)):=by
 rw[PZ,if_neg zV,Int.toNat_natCast]
 have:min b (IntKind.u64).bits=b:=Nat.min_eq_left h
 grind
theorem agD{k':IntKind}{a:Int}:Ev.bin .shr (.i .u64 a) (.i k' 32)=some (.i .u64 (a/4294967296)):=Z5 (b:=32) zV
def agE{a b:Int}(r:a=0∨a=1)(D:b=0∨b=1):Ev.bin .and (.i .i64 a) (.i .i64 b)=some (.i .i64 (min a b)):=by
 rcases r with rfl|rfl <;> rcases D with rfl|rfl <;> rfl
def Z6{a b:Int}(r:a=0∨a=1)(D:b=0∨b=1):Ev.bin .or (.i .i64 a) (.i .i64 b)=some (.i .i64 (max a b)):=by
 rcases r with rfl|rfl <;> rcases D with rfl|rfl <;> rfl
def Z7(lh:aE ah)(k:Nat):List T:=match ab lh k with|⟨_,.cells cs _ _⟩=>cs|_=> []
theorem agF{lh:aE ah}{k g r:Nat}{cs:List T}{bx:Bool}(h:ab lh k=⟨g,.cells cs r bx⟩):Z7 lh k=cs:=by unfold Z7;rw[h]
def Z8{lh:aE ah}{k g r:Nat}{bx:Bool}{P:List T→Prop}(h: ∃cs,ab lh k=⟨g,.cells cs r bx⟩∧P cs):ab lh k=⟨g,.cells (Z7 lh k) r bx⟩∧P (Z7 lh k):=by
 grind [agF]
def agG{E:Env}{n:Nat}{os DD:List aG}{b:ak}{st O s2 H J:St}{o:Out}(h1:aj E (ae E) n os st=some O)(h2:aj E (ae E) n DD st=some s2)(K:DC E n b O=some (o,H))(N:DC E n b s2=some (o,J))(hs:BF (yg os++bO b) H J):DC E n (.fork os DD b) st=some (o,oe (yg os++bO b) H J):=by
 rw[dt]
 obtain⟨r,h1⟩:=sC os h1
 obtain⟨D,h2⟩:=sC DD h2
 obtain⟨m3,K⟩:=dt.1 K
 obtain⟨F,N⟩:=dt.1 N
 have W:r≤r+D+m3+F:=zV
 have X:D≤r+D+m3+F:=zV
 have U:m3≤r+D+m3+F:=zV
 have V:F≤r+D+m3+F:=zV
 refine⟨r+D+m3+F, ?_⟩
 simp only[fX,gf (bV W) os h1,gf (bV X) DD h2,dm (bV U) U b K,dm (bV V) V b N,Po]
 grind
def Z9{E:Env}{n:Nat}{os DD:List aG}{b:ak}{fr W X:Fr}{lh D H:aE ah}{sh F:List ah}{N s2:St}(J:yg DD=yg os)(h1:aj E (ae E) n os ⟨fr,lh,sh⟩=some N)(h2:aj E (ae E) n DD ⟨fr,lh,sh⟩=some s2)(O:DC E n b N=some (.nrm,⟨W,D,F⟩))(U:DC E n b s2=some (.nrm,⟨X,H,F⟩))(Y: ∀k,k∉yg os++bO b→ab D k=ab H k):
  ∃(V:Fr) (aN:aE ah),DC E n (.fork os DD b) ⟨fr,lh,sh⟩=some (.nrm,⟨V,aN,F⟩)∧(∀k,k∉yg os++bO b→aa V k=aa fr k)∧ ∀k,k∉yg os++bO b→ab aN k=ab D k:=by
 have p: ∀{r:List aG} {s:St} {f:Fr} {l:aE ah},yg r=yg os→aj E (ae E) n r ⟨fr,lh,sh⟩=some s→DC E n b s=some (.nrm,⟨f,l,F⟩)→ ∀k,k∉yg os++bO b→aa f k=aa fr k:=by
  intro r s f l J h g k hk
  simp only[List.mem_append,not_or]at hk
  have a:=fy g k (by simpa using hk.2)
  have c:=pH r h k (by rw[J];exact hk.1)
  exact a.trans c
 have CA:=p rfl h1 O
 have K:=p J h2 U
 refine⟨_,_,agG h1 h2 O U ⟨rfl,fun k hk=>(CA k hk).trans (K k hk).symm,Y⟩,fun k hk=> ?_,fun k hk=> ?_⟩
 ·grind [ot]
 ·show aE.get eS (BE _ D H) k=_
  rw[E9,if_neg hk];rfl
def ni:ak→ak
 | .fork os _ b=> .seq (.region os) b
 |c=>c
def nj:ak→ak
 | .fork _ DD b=> .seq (.region DD) b
 |c=>c
def agH:ak→Bool
 | .fork os DD _=>decide (yg DD=yg os)
 |_=>false
def CB{E:Env}{n:Nat}{os:List aG}{b:ak}{st t:St}{o:Out}(h:DC E n (.seq (.region os) b) st=some (o,t)): ∃s,aj E (ae E) n os st=some s∧DC E n b s=some (o,t):=by
 rw[GL,Fb]at h
 cases hs:aj E (ae E) n os st with
 |none=>rw[hs]at h;cases h
 |some s=>rw[hs]at h;exact⟨s,rfl,h⟩
def agJ{E:Env}{n:Nat}{c:ak}{fr O U:Fr}{lh r N:aE ah}{sh D:List ah}(hc:agH c=true)(F:DC E n (ni c) ⟨fr,lh,sh⟩=some (.nrm,⟨O,r,D⟩))(H:DC E n (nj c) ⟨fr,lh,sh⟩=some (.nrm,⟨U,N,D⟩))(V: ∀k,(bO c).contains k=false→ab r k=ab N k):
  ∃(J:Fr) (aN:aE ah),DC E n c ⟨fr,lh,sh⟩=some (.nrm,⟨J,aN,D⟩)∧(∀k,(bO c).contains k=false→aa J k=aa fr k)∧ ∀k,(bO c).contains k=false→ab aN k=ab r k:=by
 cases c with
 |fork os DD b=>
  obtain⟨W,e1,F⟩:=CB F
  obtain⟨s2,e2,H⟩:=CB H
  have K: ∀k,(bO (.fork os DD b)).contains k=false↔k∉yg os++bO b:=by
   intro k
   show(yg os++bO b).contains k=false↔_
   simp
  obtain⟨J,aN,X,Y,Z⟩:=Z9 (of_decide_eq_true hc) e1 e2 F H (fun k hk=>V k ((K k).2 hk))
  grind
 |_=>cases hc
section
variable{k:IntKind}{a b:Int}{s t:List Nat}
def bnd{p:Prop}[Decidable p]:(some (T.b (decide p)):Option T)=if p then some (.b true)else some (.b false):=by grind
def aBs{p:Prop}[Decidable p]:(some (T.b (!decide p)):Option T)=if p then some (.b false)else some (.b true):=by grind
def aab:Ev.bin .eql (.i k a) (.i k b)=if a=b then some (.b true)else some (.b false):=PT.trans bnd
def aac:Ev.bin .neq (.i k a) (.i k b)=if a=b then some (.b false)else some (.b true):=PU.trans aBs
def aad:Ev.bin .lss (.i k a) (.i k b)=if a<b then some (.b true)else some (.b false):=PV.trans bnd
def aae:Ev.bin .leq (.i k a) (.i k b)=if a≤b then some (.b true)else some (.b false):=PW.trans bnd
def aaf:Ev.bin .gtr (.i k a) (.i k b)=if b<a then some (.b true)else some (.b false):=PX.trans bnd
def aag:Ev.bin .geq (.i k a) (.i k b)=if b≤a then some (.b true)else some (.b false):=PY.trans bnd
def TC:Ev.bin .eql (.s s) (.s t)=if s=t then some (.b true)else some (.b false):=Ka.trans bnd
def TD:Ev.bin .neq (.s s) (.s t)=if s=t then some (.b false)else some (.b true):=Kb.trans aBs
end
def ifl{α:Type}{p:Prop}[Decidable p]{a b c:α}(h1:p→a=c)(h2: ¬p→b=c):(if p then a else b)=c:=by grind
def Gd(I:St→Prop)(R:Out→St→Prop)(x:Option (Out×St)):Prop:= ∃o st,x=some (o,st)∧((o= .nrm∧I st)∨(o≠ .nrm∧R o st))
section
variable{I:St→Prop}{R:Out→St→Prop}{p:Prop}[Decidable p]{x y:Option (Out×St)}{st:St}{i:Nat}
def uc(h1:p→Gd I R x)(h2: ¬p→Gd I R y):Gd I R (if p then x else y):=by grind
def cZ(h:I st):Gd I R (some (.nrm,st)):=⟨_,_,rfl,.inl ⟨rfl,h⟩⟩
theorem fA(h:R (.ext i) st):Gd I R (some (.ext i,st)):=⟨_,_,rfl,.inr ⟨by simp,h⟩⟩
def ue(h:R .ret st):Gd I R (some (.ret,st)):=⟨_,_,rfl,.inr ⟨by simp,h⟩⟩
end
def eG{E:Env}{n:Nat}{a:ak}(I:Nat→St→Prop)(P:Fr→aE ah→List ah→Prop)(o:Out)(N:Nat)
  (step: ∀k st,k<N→I k st→Gd (I (k+1)) (fun o' r=>o'=o∧P r.fr r.lh r.sh) (DC E n a st))
  (D: ∀st,I N st→Gd (fun _=>False) (fun o' r=>o'=o∧P r.fr r.lh r.sh) (DC E n a st)) (fr:Fr) (lh:aE ah) (sh:List ah) (h0:I 0 ⟨fr,lh,sh⟩):
  DC E n (.loop a) ⟨fr,lh,sh⟩=some (o,⟨nM E n a fr lh sh,iL E n a fr lh sh,je E n a fr lh sh⟩)∧P (nM E n a fr lh sh) (iL E n a fr lh sh) (je E n a fr lh sh):=by
 refine cq (cY I _ N (fun k st hk hi=> ?_) (fun st hi=> ?_) 0 _ (Nat.zero_le _) h0)
 ·obtain⟨o',r,e,h|h⟩:=step k st hk hi
  ·grind
  ·grind
 ·obtain⟨o',r,e,h|h⟩:=D st hi
  ·exact h.2.elim
  ·grind
theorem aE.put_self{α:Type}{d v:α}(D:v≠d): ∀{f:Nat} {t:aE α} {n:Nat},n<f→aE.get d t n=v→aE.put d f t n v=t
 |0,t,n,h,_=>by omega
 |f+1,.nil,n,_,e=>absurd e.symm (by rw[aE.get_nil];exact D)
 |f+1,.nd w l r,0,_,e=>by unfold aE.get at e;simp only at e;rw[e];unfold aE.put;rfl
 |f+1,.nd w l r,k+1,h,e=>by
  unfold aE.get at e;simp only at e
  unfold aE.put;simp only
  have hk:k/2<f:=zV
  cases F:Nat.beq (k%2) 0 <;> rw[F]at e <;> simp only[cond_true,cond_false]at e ⊢ <;> rw[aE.put_self D hk e]
theorem TF{fr:Fr}{k:Nat}{v:T}(h:aa fr k=v)(r:v≠aU):cN fr k v=fr:=aE.put_self r (Nat.lt_succ_self k) h
def cJ{E:Env}{f:Nat}{a:List T}{sh r:List ah}{b:Bool}(h:ae E f a sh=some (.b b,r)):ae E f a sh=if b=true then some (.b true,r)else some (.b false,r):=by cases b <;> simpa using h
section
variable{I:St→Prop}{R:Out→St→Prop}{p:Prop}[Decidable p]{x y:Option (Out×St)}{st:St}{i:Nat}
def gdI:Gd I R (if p then x else y)=((p→Gd I R x)∧(¬p→Gd I R y)):=propext (by by_cases h:p <;> simp[h])
def gdN:Gd I R (some (.nrm,st))=I st:=propext ⟨fun⟨_,_,e,h⟩=>by cases e;exact h.elim (·.2) (fun h=>absurd rfl h.1),cZ⟩
def gdX:Gd I R (some (.ext i,st))=R (.ext i) st:=propext ⟨fun⟨_,_,e,h⟩=>by cases e;exact h.elim (fun h=>by cases h.1) (·.2),fA⟩
def gdR:Gd I R (some (.ret,st))=R .ret st:=propext ⟨fun⟨_,_,e,h⟩=>by cases e;exact h.elim (fun h=>by cases h.1) (·.2),ue⟩
end
theorem aHA{α β:Type}{p:Prop}[Decidable p]{x y:Option (α×β)}{v:α}:(∃s,(if p then x else y)=some (v,s))=((p→ ∃s,x=some (v,s))∧(¬p→ ∃s,y=some (v,s))):=propext (by by_cases h:p <;> simp[h])
theorem yy{α β:Type}{u v:α}{t:β}:(∃s,some (u,t)=some (v,s))=(u=v):=propext yv
theorem dx{lh:aE ah}{j:Nat}{e:ah}{v:T}{k sz n:Nat}{cs:List T}(h:k≠j):aW (jB lh j e) v k sz n cs=aW lh v k sz n cs:=by unfold aW;rw[bq lh e h]
section
variable{E:Env}{n:Nat}{a:ak}{m:Nat}{fr:Fr}{lh:aE ah}{sh:List ah}
abbrev Lp(E:Env)(n:Nat)(a:ak)(fr:Fr)(lh:aE ah)(sh:List ah)(o:Out)(P:Fr→aE ah→List ah→Prop):Prop:=DC E n (.loop a) ⟨fr,lh,sh⟩=some (o,⟨nM E n a fr lh sh,iL E n a fr lh sh,je E n a fr lh sh⟩)∧P (nM E n a fr lh sh) (iL E n a fr lh sh) (je E n a fr lh sh)
def aah{b:ak}{st r:St}{o:Out}(D:dR (bO (.loop b))=m)(h:DC E n b st=some (o,r)){s:Nat}(hs:(m >>> s)%2=0):aa r.fr s=aa st.fr s:=by
 refine fy h s ?_
 show(bO (.loop b)).contains s=false
 cases hc:(bO (.loop b)).contains s with
 |false=>rfl
 |true=>
  have h1:=GY s _ (List.contains_iff_mem.1 hc)
  rw[D,Nat.testBit,Nat.and_comm,Nat.and_one_is_mod,hs]at h1
  simp at h1
def bK(F:dR (bO (.loop a))=m)(I:Nat→Fr→aE ah→List ah→Prop){P:Fr→aE ah→List ah→Prop}{o:Out}(N:Nat)(h0:I 0 fr lh sh)
  (step: ∀k f l s,k<N→(∀j,(m >>> j)%2=0→aa f j=aa fr j)→I k f l s→Gd (fun t=>I (k+1) t.fr t.lh t.sh) (fun o' t=>o'=o∧P t.fr t.lh t.sh) (DC E n a ⟨f,l,s⟩))
  (r: ∀f l s,(∀j,(m >>> j)%2=0→aa f j=aa fr j)→I N f l s→Gd (fun _=>False) (fun o' t=>o'=o∧P t.fr t.lh t.sh) (DC E n a ⟨f,l,s⟩)):
  Lp E n a fr lh sh o P:=by
 refine eG (fun k st=>(∀j,(m >>> j)%2=0→aa st.fr j=aa fr j)∧I k st.fr st.lh st.sh) P o N (fun k st hk hi=> ?_) (fun st hi=>r _ _ _ hi.1 hi.2) fr lh sh ⟨fun _ _=>rfl,h0⟩
 obtain⟨o',H,e,h⟩:=step k _ _ _ hk hi.1 hi.2
 exact⟨o',H,e,h.imp (fun h=>⟨h.1,fun j D=>(aah F e D).trans (hi.1 j D),h.2⟩) id⟩
abbrev pN(E:Env)(n:Nat)(a:ak)(fr:Fr)(lh:aE ah)(sh:List ah)(e s:Nat)(r:Int)(Q:aE ah→List ah→Prop):Prop:=DC E n (.loop a) ⟨fr,lh,sh⟩=(if r=0 then some (.ext e,⟨nM E n a fr lh sh,iL E n a fr lh sh,je E n a fr lh sh⟩)else some (.ret,⟨cN (nM E n a fr lh sh) s (.i .i64 r),iL E n a fr lh sh,je E n a fr lh sh⟩))∧Q (iL E n a fr lh sh) (je E n a fr lh sh)
abbrev LpC(E:Env)(n:Nat)(a:ak)(fr:Fr)(lh:aE ah)(sh:List ah)(e s:Nat)(p:Prop)[Decidable p](v:T)(Q:aE ah→List ah→Prop):Prop:=DC E n (.loop a) ⟨fr,lh,sh⟩=(if p then some (.ext e,⟨nM E n a fr lh sh,iL E n a fr lh sh,je E n a fr lh sh⟩)else some (.ret,⟨cN (nM E n a fr lh sh) s v,iL E n a fr lh sh,je E n a fr lh sh⟩))∧Q (iL E n a fr lh sh) (je E n a fr lh sh)
def mn(D:dR (bO (.loop a))=m){e s:Nat}{p:Prop}[Decidable p]{v:T}(F:v≠aU)(I:Nat→Fr→aE ah→List ah→Prop){Q:aE ah→List ah→Prop}(N:Nat)(h0:I 0 fr lh sh)
  (step: ∀k f l h,k<N→(∀j,(m >>> j)%2=0→aa f j=aa fr j)→I k f l h→Gd (fun t=>I (k+1) t.fr t.lh t.sh) (fun o' t=>o'= .ret∧ ¬p∧aa t.fr s=v∧Q t.lh t.sh) (DC E n a ⟨f,l,h⟩))
  (r: ∀f l h,(∀j,(m >>> j)%2=0→aa f j=aa fr j)→I N f l h→Gd (fun _=>False) (fun o' t=>o'= .ext e∧p∧Q t.lh t.sh) (DC E n a ⟨f,l,h⟩)):
  LpC E n a fr lh sh e s p v Q:=by
 obtain⟨h1,h2,h3⟩:=bK D I (P:=fun f l h=>(¬p→aa f s=v)∧Q l h) (o:=if p then .ext e else .ret) N h0
  (fun k f l h hk p i=>by
    obtain⟨o',t,x,y⟩:=step k f l h hk p i
    exact⟨o',t,x,y.imp id fun⟨a,b,c,d,g⟩=>⟨a,by rw[if_neg c];exact b,fun _=>d,g⟩⟩)
  (fun f l h p i=>by
    obtain⟨o',t,x,y⟩:=r f l h p i
    exact⟨o',t,x,y.imp id fun⟨a,b,c,d⟩=>⟨a,by rw[if_pos c];exact b,fun z=>absurd c z,d⟩⟩)
 refine⟨?_,h3⟩
 rw[h1]
 split
 ·rfl
 ·rename_i hr;rw[TF (h2 hr) F]
def bW(F:dR (bO (.loop a))=m){e s:Nat}{r:Int}(I:Nat→Fr→aE ah→List ah→Prop){Q:aE ah→List ah→Prop}(N:Nat)(h0:I 0 fr lh sh)
  (step: ∀k f l h,k<N→(∀j,(m >>> j)%2=0→aa f j=aa fr j)→I k f l h→Gd (fun t=>I (k+1) t.fr t.lh t.sh) (fun o' t=>o'= .ret∧r≠0∧aa t.fr s= .i .i64 r∧Q t.lh t.sh) (DC E n a ⟨f,l,h⟩))
  (D: ∀f l h,(∀j,(m >>> j)%2=0→aa f j=aa fr j)→I N f l h→Gd (fun _=>False) (fun o' t=>o'= .ext e∧r=0∧Q t.lh t.sh) (DC E n a ⟨f,l,h⟩)):
  pN E n a fr lh sh e s r Q:=mn F (by simp[aU]) I N h0 step D
theorem TG{lh:aE ah}{k:Nat}{v:ah}(h:ab lh k=v)(r:v≠eS):jB lh k v=lh:=aE.put_self r (Nat.lt_succ_self k) h
def lpO{e s k:Nat}{r:Int}{x:ah}{Q:aE ah→List ah→Prop}(h:pN E n a fr lh sh e s r fun l h=>(r=0→ab l k=x)∧Q l h)(hx:x.ob≠ .none):
  DC E n (.loop a) ⟨fr,lh,sh⟩=(if r=0 then some (.ext e,⟨nM E n a fr lh sh,jB (iL E n a fr lh sh) k x,je E n a fr lh sh⟩)else some (.ret,⟨cN (nM E n a fr lh sh) s (.i .i64 r),iL E n a fr lh sh,je E n a fr lh sh⟩))∧Q (iL E n a fr lh sh) (je E n a fr lh sh):=by
 obtain⟨h1,h2,h3⟩:=h
 refine⟨?_,h3⟩
 rw[h1]
 split
 ·rename_i hr;rw[TG (h2 hr) (fun h=>hx (by rw[h];rfl))]
 ·rfl
end
end Go.Ev
