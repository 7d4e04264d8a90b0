/- A tree evaluator over the model, proved against it (part G): where it answers, the call returns that answer. Conditions: none beyond its theorems' own. -/
import Derived.Test.YtfenhjpkomldcaaGreatEvF
import GoSem.ClaimJoined
import Derived.ChangeArms
import Derived.DataShut
set_option linter.unusedSimpArgs false
set_option linter.unusedVariables false
namespace Go.Ev
open Go
def kept1:T→Bool
 | .isl .S .. | .ptr .S .. | .mp .S .. =>true
 |t=>froz1 t
def kept:T→Bool
 | .agg cs=>cs.all kept1
 | .tup cs=>cs.all kept1
 | .fn _ a c=>a.all kept1&&c.all kept1
 |t=>kept1 t
theorem A0{n:Nat}{t:T}(h:kept1 t=true):fz true (n+1) t= .ret (t,[]):=by
 cases t with
 |isl sp k g off len sz=>cases sp with|S=>rfl|L=>simp[kept1,froz1]at h
 |ptr sp k g off=>cases sp with|S=>rfl|L=>simp[kept1,froz1]at h
 |mp sp k g=>cases sp with|S=>rfl|L=>simp[kept1,froz1]at h
 |_=>exact mj h
theorem kK{n:Nat}: ∀(ts:List T),ts.all kept1=true→bC (fz true (n+1)) ts= .ret (ts,[])
 | [],_=>rfl
 |t::ts,h=>by
  simp only[List.all_cons,Bool.and_eq_true]at h
  simp only[bC,A0 h.1,kK ts h.2,Q.bind,List.append_nil]
theorem tI{n:Nat}{t:T}(h:kept t=true):fz true (n+2) t= .ret (t,[]):=by
 cases t with
 |agg cs=>simp only[kept]at h;rw[yB,kK cs h];rfl
 |tup cs=>simp only[kept]at h;rw[CS,kK cs h];rfl
 |fn f a c=>simp only[kept,Bool.and_eq_true]at h;rw[Rl,kK a h.1,kK c h.2];rfl
 |_=>exact A0 h
theorem rS{n:Nat}: ∀(ts:List T),ts.all kept=true→bC (fz true (n+2)) ts= .ret (ts,[])
 | [],_=>rfl
 |t::ts,h=>by
  simp only[List.all_cons,Bool.and_eq_true]at h
  simp only[bC,tI h.1,rS ts h.2,Q.bind,List.append_nil]
theorem TL{k:IntKind}{n:Int}:kept (.i k n)=true:=nr rfl
theorem TM{l:List Nat}:kept (.s l)=true:=nr rfl
theorem Kn{k g off:Nat}:kept (.ptr .S k g off)=true:=nr rfl
theorem A1{cs:List T}:kept (.agg cs)=cs.all kept1:=nr rfl
theorem Ol{k:IntKind}{n:Int}:kept1 (.i k n)=true:=nr rfl
theorem Om{l:List Nat}:kept1 (.s l)=true:=nr rfl
theorem A2{cs:List T}:kept1 (.vp cs)=true:=nr rfl
theorem Ko{cs:List T}{n:Nat}{e:Bool}:kept1 (.sl cs n e)=true:=nr rfl
theorem A3{k g:Nat}:kept1 (.mp .S k g)=true:=nr rfl
theorem A4{t:T}(h:froz1 t=true):kept1 t=true:=by cases t <;> first|rfl|(simp[froz1]at h)
section
variable{E:Env}{call:lj}{n:Nat}{fr:Fr}{lh:aQ aB}{sh:List aB}{os:List aT}{d:Nat}
theorem Kp{v:T}(h:kept v=true):fzV lh sh true v=some (v,[]):=by
 unfold fzV aU;rw[tI h];rfl
theorem eR{dd:Nat}{af:aE}{f:Nat}{args:List T}(hf:E.fn f=some af)(he:af.eff=true)(hz:args.all kept=true):ar E call dd ⟨fr,lh,sh⟩ f args=
  (call f args sh).bind fun r=>some (r.1,⟨fr,lh,r.2⟩):=by
 unfold ar
 simp only[hf,he,if_true]
 unfold aU
 rw[rS args hz]
 simp only[Q.run,tH]
 cases call f args sh <;> rfl
theorem TN{x:bq}(hd:d<n)(ht:noTup (rd fr x)=true)(hk:kept (rd fr x)=true):au E call n (⟨some d,.box x true,none⟩::os) ⟨fr,lh,sh⟩=au E call n os ⟨dp fr d (.ptr .S sh.length 1 0),lh,ky sh sh.length ⟨1,.cells (cellsOf (rd fr x)) 0 true⟩⟩:=by
 rw[lv (by rfl) (show yz n (some d)from hd)]
 unfold one
 simp only[bT,ht,Bool.not_true,Bool.false_eq_true,if_false,if_true]
 unfold aU
 rw[tI hk]
 simp only[Q.bind,List.isEmpty_nil,ht,Bool.and_self,if_true]
 rfl
theorem Kq{k g off m:Nat}{v:T}(e:aB)(hb: ∀cs wm bx,e.ob= .cells cs wm bx→bx=true)(h1:(cellsOf v).length=m)(h2:noTup v=true)(hz:kept v=true):dZ lh sh (Q.run (St.mk .nil lh sh).get sh.length (Oh k g off m v e))=vd lh sh k e g off v m:=by
 obtain⟨g',ob⟩:=e
 unfold vd Oh
 by_cases hg:g'=g
 ·subst hg
  cases ob with
  |none=>simp[Q.run,dZ]
  |map ks vs z=>simp[Q.run,dZ]
  |cells cs wm bx=>
   have LQ:=hb cs wm bx rfl
   subst LQ
   by_cases hb:wm≤off∧off+m≤cs.length
   ·have xf:(decide (wm≤off)&&decide (off+m≤cs.length))=true:=by simp[hb.1,hb.2]
    have LQ:(true&&Sp.S==Sp.L)=false:=rfl
    have hbs:(true&&Sp.S==Sp.S)=true:=rfl
    unfold aU
    simp only[if_true,xf,LQ,hbs,Bool.false_eq_true,if_false]
    rw[tI hz]
    have fh:(ib [] Sp.S k|| !noTup v||decide ((cellsOf v).length≠m))=false:=by simp[ib,h1,h2]
    simp only[Q.bind,fh,Bool.false_eq_true,if_false,Q.run,dZ]
    rw[if_pos ⟨trivial,h1,h2,hb⟩]
    rfl
   ·have xf:(decide (wm≤off)&&decide (off+m≤cs.length))=false:=by
     cases hx:(decide (wm≤off)&&decide (off+m≤cs.length))with
     |false=>rfl
     |true=>simp at hx;exact absurd hx hb
    simp only[if_true,xf,Bool.false_eq_true,if_false,Q.run,dZ]
    rw[if_neg (by rintro⟨_,_,_,a⟩;exact hb a)]
 ·cases ob with
  |none=>simp[hg,Q.run,dZ]
  |map ks vs z=>simp[hg,Q.run,dZ]
  |cells cs wm bx=>simp[hg,Q.run,dZ]
theorem TO{k g g' off m wm:Nat}{cs:List T}{v:T}(hz:kept v=true)(he:dg sh k=⟨g',.cells cs wm true⟩):CT lh sh (.ptr .S k g off) v m=vd lh sh k ⟨g',.cells cs wm true⟩ g off v m:=by
 by_cases h1:(cellsOf v).length=m
 ·cases h2:noTup v with
  |false=>
   unfold CT nS
   have:(decide ((cellsOf v).length≠m)|| !noTup v)=true:=by simp[h2]
   simp only[this,if_true,Q.run]
   unfold vd
   simp[h2]
  |true=>
   unfold CT nS
   have:(decide ((cellsOf v).length≠m)|| !noTup v)=false:=by simp[h1,h2]
   simp only[this,Bool.false_eq_true,if_false]
   have:=Kq (lh:=lh) (sh:=sh) (k:=k) (g:=g) (off:=off) ⟨g',.cells cs wm true⟩ (by intro a b c h;cases h;rfl) h1 h2 hz
   rw[←this,←he]
   rfl
 ·unfold CT nS
  have:(decide ((cellsOf v).length≠m)|| !noTup v)=true:=by simp[h1]
  simp only[this,if_true,Q.run]
  unfold vd
  simp[h1]
def C9(sh:List aB)(kk:Nat)(e:aB)(g:Nat)(ek:EK)(k v:T):Option (List aB):=
 match e with
 |⟨g',.map ks vs false⟩=>if g'=g∧isKey ek k=true then(mO ek k v ks vs).map fun q=>ky sh kk ⟨g,.map q.1 q.2 false⟩else none
 |_=>none
theorem Kr{kk g g':Nat}{ek:EK}{k v:T}{ks vs:List T}:C9 sh kk ⟨g',.map ks vs false⟩ g ek k v=if g'=g∧isKey ek k=true then(mO ek k v ks vs).map fun q=>ky sh kk ⟨g,.map q.1 q.2 false⟩else none:=rfl
def On(kk g:Nat)(ek:EK)(k v:T)(e:aB):Q wP:=if e.g=g&&isKey ek k then match e.ob with
      | .map ks vs false=>(fz false aU v).bind fun p=>match mO ek k p.1 ks vs with
        |some q=>if ib p.2 .S kk then .fail else .ret (.val bA (p.2++ [(.S,kk,⟨g,.map q.1 q.2 false⟩)]))
        |none=> .fail
      |_=> .fail
     else .fail
theorem Oo{kk g:Nat}{ek:EK}{k v:T}(e:aB)(hf:froz v=true):((iH (Q.run (St.mk fr lh sh).get sh.length (On kk g ek k v e))).bind fun r=>au E call n os {(St.mk fr lh sh).ups r.2 with fr:=fr})=
  (C9 sh kk e g ek k v).bind fun br=>au E call n os ⟨fr,lh,br⟩:=by
 obtain⟨g',ob⟩:=e
 unfold On C9
 by_cases hg:g'=g∧isKey ek k=true
 ·have:(decide (g'=g)&&isKey ek k)=true:=by simp[hg.1,hg.2]
  simp only[this,if_true]
  cases ob with
  |none=>rfl
  |cells cs wm bx=>rfl
  |map ks vs z=>
   cases z with
   |true=>rfl
   |false=>
    simp only[if_pos hg]
    unfold aU
    rw[lz hf]
    simp only[Q.bind]
    cases mO ek k v ks vs with
    |none=>rfl
    |some q=>simp only[ib,List.any_nil,Bool.false_eq_true,if_false,Q.run,List.nil_append];rfl
 ·have:(decide (g'=g)&&isKey ek k)=false:=by
   cases h:(decide (g'=g)&&isKey ek k)with
   |false=>rfl
   |true=>simp at h;exact absurd h hg
  simp only[this,Bool.false_eq_true,if_false,Q.run,iH]
  cases ob with
  |none=>rfl
  |cells cs wm bx=>rfl
  |map ks vs z=>
   cases z with
   |true=>rfl
   |false=>simp only[if_neg hg];rfl
theorem Yf{ek:EK}{m k v:bq}{kk g:Nat}(hm:rd fr m= .mp .S kk g)(hf:froz (rd fr v)=true):au E call n (⟨none,.mu ek m k v,none⟩::os) ⟨fr,lh,sh⟩=(C9 sh kk (dg sh kk) g ek (rd fr k) (rd fr v)).bind fun br=>au E call n os ⟨fr,lh,br⟩:=by
 rw[lv (by rfl) (show yz n none from trivial)]
 unfold one
 simp only[bT,hm]
 exact Oo (dg sh kk) hf
end
section
variable{E:Env}{call:lj}{n:Nat}{fr:Fr}{lh:aQ aB}{sh:List aB}{ds:List (List Nat×aT)}{bL:List FP}{u:List Nat}{d:Option Nat}
def Da:T→Bool
 | .mp .S .. =>true
 |_=>false
theorem Oq{k g:Nat}:Da (.mp .S k g)=true:=nr rfl
theorem Yg{ek:EK}{m k v:bq}(hx:Da (rd fr m)=true)(hz:froz (rd fr v)=true):aL E call n ((u,⟨none,.mu ek m k v,none⟩)::ds) bL ⟨fr,lh,sh⟩=
  if meets u bL ⟨false,pz (rd fr m),pz (rd fr m)⟩=true then ke E call n ds (bL++ [⟨false,pz (rd fr m),pz (rd fr m)⟩]) (au E call n [⟨none,.mu ek m k v,none⟩] ⟨fr,lh,sh⟩)else none:=by
 refine qO fun ev=> ?_
 cases wy:rd fr m with
 |mp sp kk g=>
  cases sp with
  |L=>rw[wy]at hx;simp[Da]at hx
  |S=>
   obtain⟨w,ups,hr,fZ⟩:=wx (q:= .rd .S kk (On kk g ek (rd fr k) (rd fr v))) (by rfl) (by rw[eY];simp only[bT,wy];rfl) ev
   simp only[Q.run,Q.log,Q.asks]at hr fZ
   have ZY:(St.mk fr lh sh).get .S kk=dg sh kk:=rfl
   rw[ZY]at hr fZ
   generalize he:dg sh kk=e at hr fZ
   obtain⟨g',ob⟩:=e
   unfold On at hr fZ
   by_cases hg:(decide (g'=g)&&isKey ek (rd fr k))=true
   ·simp only[hg,if_true]at hr fZ
    cases ob with
    |none=>simp[Q.run]at hr
    |cells cs wm bx=>simp[Q.run]at hr
    |map ks vs zz=>
     cases zz with
     |true=>simp[Q.run]at hr
     |false=>
      simp only[]at hr fZ
      unfold aU at hr fZ
      rw[lz hz]at hr fZ
      simp only[Q.bind]at hr fZ
      split at hr
      ·rename_i q hp
       simp only[ib,List.any_nil,Bool.false_eq_true,if_false,Q.run,Option.some.injEq,wP.val.injEq]at hr
       obtain⟨rfl,rfl⟩:=hr
       rw[hp]at fZ
       simp only[ib,List.any_nil,Bool.false_eq_true,if_false]at fZ
       refine fZ ?_
       simp only[Q.asks,Bool.false_or,pG,List.nil_append,List.all_cons,List.all_nil,Bool.and_true]
       rw[ZY,he]
       rfl
      ·simp[Q.run]at hr
   ·have UY:(decide (g'=g)&&isKey ek (rd fr k))=false:=by simpa using hg
    simp only[UY,Bool.false_eq_true,if_false,Q.run]at hr
    cases hr
 |_=>rw[wy]at hx;simp[Da]at hx
def np:FP:=⟨true,[],[]⟩
theorem x7{f:Nat}{af:aE}{as:List bq}(hf:E.fn f=some af)(he:af.eff=true)(hz:(as.map (rd fr)).all kept=true):
  aL E call n ((u,⟨d,.callf f as,none⟩)::ds) bL ⟨fr,lh,sh⟩=if meets u bL np=true then ke E call n ds (bL++ [np]) (au E call n [⟨d,.callf f as,none⟩] ⟨fr,lh,sh⟩)else none:=by
 refine qO fun ev=> ?_
 unfold cj
 have wu:bI (St.mk fr lh sh).rho (.callf f as)=some (some (f,as.map (rd fr))):=by rw[eY];rfl
 simp only[wu]
 unfold dV
 simp only[hf,he]
 unfold aU
 rw[rS _ hz]
 simp only[Q.run,Q.log,pG,List.all_nil,Bool.not_true,Bool.false_eq_true,if_false,if_true,cX,List.map_nil]
 rfl
theorem A5{rs ws:List (Sp×Nat)}:apart ⟨false,rs,ws⟩ np=(Cl rs&&Cl ws):=by
 unfold apart np fT
 have h1:(ws.all fun x=> !([]:List (Sp×Nat)).contains x)=true:=by rw[List.all_eq_true];intro x _;rfl
 have h2:(rs.all fun x=> !([]:List (Sp×Nat)).contains x)=true:=by rw[List.all_eq_true];intro x _;rfl
 simp[h1,h2]
theorem A6{rs ws:List (Sp×Nat)}:apart np ⟨false,rs,ws⟩=(Cl rs&&Cl ws):=by
 unfold apart np fT
 simp
theorem Ot:Cl []=true:=nr rfl
theorem Yh{k:Nat}{xs:List (Sp×Nat)}:Cl ((.L,k)::xs)=Cl xs:=nr rfl
end
end Go.Ev
namespace Go.Ev
open Go
section
variable{E:Env}{n:Nat}{a:aN}
theorem aI(I:Nat→St→Prop)(R:Out→St→Prop)(N:Nat)
  (step: ∀k st,k<N→I k st→(∃bD,DC E n a st=some (.nrm,bD)∧I (k+1) bD)∨(∃o bD,o≠ .nrm∧DC E n a st=some (o,bD)∧R o bD))
  (last: ∀st,I N st→ ∃o bD,o≠ .nrm∧DC E n a st=some (o,bD)∧R o bD):
  ∀(k:Nat) (st:St),k≤N→I k st→ ∃o bD,DC E n (.loop a) st=some (o,bD)∧R o bD:=by
 have leave: ∀{st o bD},o≠ .nrm→DC E n a st=some (o,bD)→DC E n (.loop a) st=some (o,bD):=by
  intro st o bD ho h
  rw[im,h]
  cases o with
  |nrm=>exact absurd rfl ho
  |ext id=>rfl
  |ret=>rfl
 have main: ∀(m k:Nat) (st:St),N-k=m→k≤N→I k st→ ∃o bD,DC E n (.loop a) st=some (o,bD)∧R o bD:=by
  intro m
  induction m with
  |zero=>
   intro k st hm hk h
   have:k=N:=by omega
   subst this
   obtain⟨o,bD,ho,h1,h2⟩:=last st h
   exact⟨o,bD,leave ho h1,h2⟩
  |succ m ih=>
   intro k st hm hk h
   rcases step k st (by omega) h with⟨bD,h1,h2⟩|⟨o,bD,ho,h1,h2⟩
   ·obtain⟨o,zD,h3,h4⟩:=ih (k+1) bD (by omega) (by omega) h2
    refine⟨o,zD, ?_,h4⟩
    rw[im,h1,sQ]
    exact h3
   ·exact⟨o,bD,leave ho h1,h2⟩
 intro k st hk h
 exact main (N-k) k st rfl hk h
theorem aD{fr:Fr}{lh:aQ aB}{sh:List aB}{o:Out}{P:Fr→aQ aB→List aB→Prop}
  (h: ∃o' bD,DC E n (.loop a) ⟨fr,lh,sh⟩=some (o',bD)∧o'=o∧P bD.fr bD.lh bD.sh):
  DC E n (.loop a) ⟨fr,lh,sh⟩=some (o,⟨cz E n a fr lh sh,bK E n a fr lh sh,cw E n a fr lh sh⟩)∧P (cz E n a fr lh sh) (bK E n a fr lh sh) (cw E n a fr lh sh):=by
 obtain⟨o',bD,h1,rfl,h2⟩:=h
 exact Gr ⟨bD.fr,bD.lh,bD.sh,h1,h2⟩
end
theorem aR.kept1{v:T}{n:Nat}{cs:List T}(h:aR v n cs):kept1 v=true:=A4 h.froz1
end Go.Ev
namespace Go.Ev
open Go
theorem tJ{st:St}{a b:List Up}:pG st (a++b)=(pG st a&&pG st b):=by unfold pG;rw[List.all_append]
theorem tK{st:St}{sp:Sp}{k:Nat}{e:aB}(h:Af (st.get sp k)=true):pG st [(sp,k,e)]=true:=by
 cases sp with
 |L=>rfl
 |S=>simp only[pG,List.all_cons,List.all_nil,Bool.and_true,h,Bool.or_true]
section
variable{st:St}{nx:Nat}
theorem ve{f:T→Q (T×List Up)}(hf: ∀t p,(f t).run st.get nx=some p→pG st p.2=true): ∀(ts:List T) (p:List T×List Up),(bC f ts).run st.get nx=some p→pG st p.2=true
 | [],p,h=>by simp[bC,Q.run]at h;subst h;rfl
 |t::ts,p,h=>by
  simp only[bC,cG]at h
  cases h1:(f t).run st.get nx with
  |none=>rw[h1]at h;cases h
  |some p1=>
   rw[h1]at h
   simp only[Option.bind_some]at h
   cases h2:(bC f ts).run st.get nx with
   |none=>rw[h2]at h;cases h
   |some p2=>
    rw[h2]at h
    simp only[Option.bind_some,Q.run,Option.some.injEq]at h
    subst h
    simp only[tJ,hf _ _ h1,ve hf ts _ h2,Bool.and_self]
theorem Ks: ∀(n:Nat) (keep:Bool) (t:T) (p:T×List Up),(fz keep n t).run st.get nx=some p→pG st p.2=true
 |0,keep,t,p,h=>by simp[fz,Q.run]at h
 |n+1,keep,t,p,h=>by
  have ih:=Ks n
  have hm:=fun(k:Bool) (ts:List T) (q:List T×List Up)=>ve (ih k) ts q
  cases t with
  |isl sp k g off len sz=>
   simp only[fz]at h
   split at h
   ·simp[Q.run]at h;subst h;rfl
   ·simp only[Q.run]at h
    cases he:st.get sp k with
    |mk g' ob=>
     have hl: ∀{o},ob=o→Af (st.get sp k)=Af ⟨g',o⟩:=fun e=>by rw[he,e]
     rw[he]at h
     simp only at h
     split at h
     ·split at h
      ·split at h
       ·simp only[Q.run,Option.some.injEq]at h;subst h;exact tK (by rw[he];rfl)
       ·simp[Q.run]at h
      ·split at h
       ·simp only[cG]at h
        cases h2:(bC (fz false n) (List.take (len*sz) (List.drop off ‹List T›))).run st.get nx with
        |none=>rw[h2]at h;cases h
        |some q=>
         rw[h2]at h
         simp only[Option.bind_some,Q.run,Option.some.injEq]at h
         subst h
         simp only[tJ,hm _ _ _ h2,Bool.true_and]
         exact tK (by rw[he];rfl)
       ·simp[Q.run]at h
      ·simp[Q.run]at h
     ·simp[Q.run]at h
  |mp sp k g=>
   simp only[fz]at h
   split at h
   ·simp[Q.run]at h;subst h;rfl
   ·simp only[Q.run]at h
    cases he:st.get sp k with
    |mk g' ob=>
     rw[he]at h
     simp only at h
     split at h
     ·split at h
      ·simp only[Q.run,Option.some.injEq]at h;subst h;exact tK (by rw[he];rfl)
      ·simp[Q.run]at h
     ·simp[Q.run]at h
  |ptr sp k g off=>
   simp only[fz]at h
   split at h
   ·simp[Q.run]at h;subst h;rfl
   ·simp only[Q.run]at h
    cases he:st.get sp k with
    |mk g' ob=>
     rw[he]at h
     simp only at h
     split at h
     ·split at h
      ·simp only[cG]at h
       cases h2:(bC (fz false n) (List.drop off ‹List T›)).run st.get nx with
       |none=>rw[h2]at h;cases h
       |some q=>
        rw[h2]at h
        simp only[Option.bind_some,Q.run,Option.some.injEq]at h
        subst h
        simp only[tJ,hm _ _ _ h2,Bool.true_and]
        exact tK (by rw[he];rfl)
      ·simp[Q.run]at h
     ·simp[Q.run]at h
  |fn f a c=>
   simp only[fz,cG]at h
   cases h1:(bC (fz keep n) a).run st.get nx with
   |none=>rw[h1]at h;cases h
   |some p1=>
    rw[h1]at h
    simp only[Option.bind_some]at h
    cases h2:(bC (fz keep n) c).run st.get nx with
    |none=>rw[h2]at h;cases h
    |some p2=>
     rw[h2]at h
     simp only[Option.bind_some,Q.run,Option.some.injEq]at h
     subst h
     simp only[tJ,hm _ _ _ h1,hm _ _ _ h2,Bool.and_self]
  |agg cs=>
   simp only[fz,cG]at h
   cases h1:(bC (fz keep n) cs).run st.get nx with
   |none=>rw[h1]at h;cases h
   |some p1=>
    rw[h1]at h
    simp only[Option.bind_some,Q.run,Option.some.injEq]at h
    subst h
    exact hm _ _ _ h1
  |tup cs=>
   simp only[fz,cG]at h
   cases h1:(bC (fz keep n) cs).run st.get nx with
   |none=>rw[h1]at h;cases h
   |some p1=>
    rw[h1]at h
    simp only[Option.bind_some,Q.run,Option.some.injEq]at h
    subst h
    exact hm _ _ _ h1
  |_=>simp[fz,Q.run]at h;subst h;rfl
end
section
variable{E:Env}{call:lj}{n:Nat}{fr:Fr}{lh:aQ aB}{sh:List aB}{ds:List (List Nat×aT)}{bL:List FP}{u:List Nat}{d:Option Nat}
theorem DS{f:Nat}{af:aE}{as:List bq}(hf:E.fn f=some af)(he:af.eff=false)(hw:af.own=none)(hu:Mf ds=true):
  aL E call n (([],⟨d,.callf f as,none⟩)::ds) bL ⟨fr,lh,sh⟩=ke E call n ds (bL++ [dB]) (au E call n [⟨d,.callf f as,none⟩] ⟨fr,lh,sh⟩):=by
 rw[qO (fp:=(cj E call ⟨d,.callf f as,none⟩ ⟨fr,lh,sh⟩).getD dB)]
 ·show ke _ _ _ _ _ _=_
  unfold ke
  cases au E call n [⟨d,.callf f as,none⟩] ⟨fr,lh,sh⟩with
  |none=>rfl
  |some s=>exact AZ ds _ _ s hu
 ·intro ev
  unfold bu at ev
  have wu:bI (St.mk fr lh sh).rho (.callf f as)=some (some (f,as.map (rd fr))):=by rw[eY];rfl
  simp only[wu]at ev
  suffices h: ∃fp,cj E call ⟨d,.callf f as,none⟩ ⟨fr,lh,sh⟩=some fp by
   obtain⟨fp,h⟩:=h;rw[h];rfl
  unfold cj dV
  simp only[wu,hf]
  unfold ar at ev
  simp only[hf,he]at ev ⊢
  cases hq:(bC (fz false aU) (as.map (rd fr))).run (St.mk fr lh sh).get sh.length with
  |none=>simp only[hq]at ev;exact absurd rfl ev
  |some q=>
   simp only[hq,Bool.false_eq_true,if_false]at ev ⊢
   have j1:pG (St.mk fr lh sh) q.2=true:=ve (fun t p h=>Ks _ _ t p h) _ _ hq
   simp only[j1,Bool.not_true,Bool.false_eq_true,if_false,hw]
   cases hc:call f q.1 []with
   |none=>simp only[hc]at ev;exact absurd rfl ev
   |some r=>exact⟨_,rfl⟩
def isNe:T→Bool
 | .sl _ (_+1) _=>true
 |_=>false
theorem Ou{cs:List T}{m:Nat}{ex:Bool}:isNe (.sl cs (m+1) ex)=true:=nr rfl
def rT(dd:Nat):T→List (Sp×Nat)
 | .isl .L k _ _ _ _=> [(.L,k)]
 |_=> [(.L,dd)]
theorem TP{dd sz bytes:Nat}{s x:bq}(hs:notS (rd fr s)=true)(hx:isNe (rd fr x)=true):aL E call n ((u,⟨some dd,.app sz bytes s x false false,none⟩)::ds) bL ⟨fr,lh,sh⟩=
  if meets u bL ⟨false,rT dd (rd fr s),rT dd (rd fr s)⟩=true then ke E call n ds (bL++ [⟨false,rT dd (rd fr s),rT dd (rd fr s)⟩]) (au E call n [⟨some dd,.app sz bytes s x false false,none⟩] ⟨fr,lh,sh⟩)else none:=by
 refine qO fun ev=> ?_
 cases wy:rd fr x with
 |sl cs m ex=>
  cases m with
  |zero=>rw[wy]at hx;simp[isNe]at hx
  |succ m=>
   by_cases hc:cs.length=(m+1)*sz
   ·have jx:dF sz (rd fr x)= .ret (m+1,cs):=by rw[wy];simp only[dF,hc,if_true]
    obtain⟨v,ups,hr,fZ⟩:=wx (q:=qh dd sz bytes (rd fr s) (rd fr x) false false) (by rfl) (by rw[eY];rfl) ev
    have j1:=Oj hs hr
    have fZ:=fZ (by rw[j1];simp)
    rw[fZ]
    unfold qh at hr ⊢
    rw[jx]at hr ⊢
    simp only[Q.bind,Nat.add_one_ne_zero,if_false]at hr ⊢
    cases CU:rd fr s with
    |nilsl=>
     rw[CU]at hr
     simp only at hr ⊢
     split at hr
     ·rename_i hb
      rw[if_pos hb]
      simp[kz,Q.run]at hr
      obtain⟨rfl,rfl⟩:=hr
      rfl
     ·simp[Q.run]at hr
    |sl c2 l2 e2=>
     rw[CU]at hr
     cases e2 with
     |false=>simp[Q.run]at hr
     |true=>
      simp only at hr ⊢
      split at hr
      ·rename_i hb
       rw[if_pos hb]
       simp[kz,Q.run]at hr
       obtain⟨rfl,rfl⟩:=hr
       rfl
      ·simp[Q.run]at hr
    |isl sp k g off len mb=>
     cases sp with
     |S=>rw[CU]at hs;simp[notS]at hs
     |L=>
      rw[CU]at hr
      simp only at hr ⊢
      split at hr
      ·rename_i hb
       rw[if_pos hb]
       simp only[Q.run]at hr
       generalize he:(St.mk fr lh sh).get .L k=e at hr
       obtain⟨g',ob⟩:=e
       simp only at hr
       split at hr
       ·rename_i hg
        cases ob with
        |none=>simp[Q.run]at hr
        |map a b c=>simp[Q.run]at hr
        |cells qB wm bx=>
         cases bx with
         |true=>simp[Q.run]at hr
         |false=>
          simp only at hr
          split at hr
          ·rename_i hl
           simp only[Q.run,Option.some.injEq,wP.val.injEq]at hr
           obtain⟨rfl,rfl⟩:=hr
           simp only[Q.asks,Q.log,he,hg,hl,if_true,cX,List.map_cons,List.map_nil,rT]
          ·simp[Q.run]at hr
       ·simp[Q.run]at hr
      ·simp[Q.run]at hr
    |_=>rw[CU]at hr;simp[Q.run]at hr
   ·obtain⟨v,ups,hr,fZ⟩:=wx (q:=qh dd sz bytes (rd fr s) (rd fr x) false false) (by rfl) (by rw[eY];rfl) ev
    unfold qh at hr
    rw[wy]at hr
    simp only[dF,hc,if_false,Q.bind,Q.run]at hr
    cases hr
 |_=>rw[wy]at hx;simp[isNe]at hx
def rU:aB→Bool
 |⟨_,.cells _ _ bx⟩=>bx
 |_=>false
def A7(lh:aQ aB):T→Bool
 | .ptr .L k _ _=>rU (aq lh k)
 |_=>false
theorem GH{k g off:Nat}:A7 lh (.ptr .L k g off)=rU (aq lh k):=nr rfl
theorem yF{g wm:Nat}{cs:List T}{bx:Bool}:rU ⟨g,.cells cs wm bx⟩=bx:=nr rfl
theorem Yi{x v:bq}{m:Nat}(hx:A7 lh (rd fr x)=true):aL E call n ((u,⟨none,.st x v m,none⟩)::ds) bL ⟨fr,lh,sh⟩=
  if meets u bL ⟨false,lA (rd fr x),lA (rd fr x)⟩=true then ke E call n ds (bL++ [⟨false,lA (rd fr x),lA (rd fr x)⟩]) (au E call n [⟨none,.st x v m,none⟩] ⟨fr,lh,sh⟩)else none:=by
 refine qO fun ev=> ?_
 cases wy:rd fr x with
 |ptr sp k g off=>
  cases sp with
  |S=>rw[wy]at hx;simp[A7]at hx
  |L=>
   obtain⟨w,ups,hr,fZ⟩:=wx (q:=nS (rd fr x) (rd fr v) m) (by rfl) (by rw[eY];rfl) ev
   rw[wy]at hx hr fZ
   simp only[A7]at hx
   unfold nS at hr fZ
   split at hr
   ·simp[Q.run]at hr
   ·rename_i hb
    rw[if_neg hb]at fZ
    simp only[Q.run,Q.asks,Q.log]at hr fZ
    have ZY:(St.mk fr lh sh).get .L k=aq lh k:=rfl
    rw[ZY]at hr fZ
    generalize aq lh k=e at hx hr fZ
    obtain⟨g',ob⟩:=e
    cases ob with
    |none=>simp[rU]at hx
    |map a b c=>simp[rU]at hx
    |cells cs wm bx=>
     simp only[rU]at hx
     subst hx
     simp only at hr fZ
     split at hr
     ·rename_i hg
      rw[if_pos hg]at fZ
      split at hr
      ·rename_i hc
       rw[if_pos hc]at fZ
       have FV:(true&&Sp.L==Sp.L)=true:=rfl
       simp only[FV,if_true,Q.run,Option.some.injEq,wP.val.injEq]at hr fZ
       obtain⟨rfl,rfl⟩:=hr
       exact fZ rfl
      ·simp[Q.run]at hr
     ·simp[Q.run]at hr
 |_=>rw[wy]at hx;simp[A7]at hx
end
section
variable{α β:Type}[DecidableEq α]
def bU:List (α×β)→α→Option β
 | [],_=>none
 |p::m,a=>if a=p.1 then some p.2 else bU m a
def iR:List (α×β)→α→Option Nat
 | [],_=>none
 |p::m,a=>if a=p.1 then some 0 else(iR m a).map (· +1)
variable{ek:EK}{kT:α→T}{vT:β→T}
theorem yG(heq: ∀a b,mN ek (kT a) (kT b)=some (decide (a=b)))(a:α): ∀m:List (α×β),eM ek (kT a) (m.map fun p=>kT p.1)=some (iR m a)
 | []=>rfl
 |p::m=>by
  rw[List.map_cons,GA,heq,yG heq a m,iR]
  by_cases h:a=p.1
  ·rw[decide_eq_true h,if_pos h];rfl
  ·rw[decide_eq_false h,if_neg h];rfl
theorem m5(a:α): ∀m:List (α×β),bU m a=(iR m a).bind fun i=>(m[i]?).map (·.2)
 | []=>rfl
 |p::m=>by
  rw[bU,iR]
  by_cases h:a=p.1
  ·rw[if_pos h,if_pos h];rfl
  ·rw[if_neg h,if_neg h,m5 a m]
   cases iR m a <;> rfl
theorem qQ(a:α): ∀(m:List (α×β)) (i:Nat),iR m a=some i→i<m.length
 | [],i,h=>by simp[iR]at h
 |p::m,i,h=>by
  rw[iR]at h
  split at h
  ·simp at h;subst h;simp
  ·cases hp:iR m a with
   |none=>rw[hp]at h;simp at h
   |some j=>
    rw[hp]at h
    simp at h
    have:=qQ a m j hp
    subst h;simpa using this
theorem TQ(heq: ∀a b,mN ek (kT a) (kT b)=some (decide (a=b)))(hk: ∀a,isKey ek (kT a)=true)(m:List (α×β))(a:α)(z:T):
  lN ek (m.map fun p=>kT p.1) (m.map fun p=>vT p.2) (kT a) z true=some (match bU m a with|some v=> .tup [vT v,.b true]|none=> .tup [z,.b false]):=by
 rw[EH (hk a),yG heq,m5]
 cases hp:iR m a with
 |none=>rfl
 |some i=>
  have:=qQ a m i hp
  rw[AY]
  simp[List.getElem?_eq_getElem this]
theorem Ro(heq: ∀a b,mN ek (kT a) (kT b)=some (decide (a=b)))(hk: ∀a,isKey ek (kT a)=true)(m:List (α×β))(a:α)(z:T):
  lN ek (m.map fun p=>kT p.1) (m.map fun p=>vT p.2) (kT a) z false=some (match bU m a with|some v=>vT v|none=>z):=by
 rw[EH (hk a),yG heq,m5]
 cases hp:iR m a with
 |none=>rfl
 |some i=>
  have:=qQ a m i hp
  rw[AY]
  simp[List.getElem?_eq_getElem this]
theorem A8(heq: ∀a b,mN ek (kT a) (kT b)=some (decide (a=b)))(m:List (α×β))(a:α)(v:β)(h:bU m a=none):
  mO ek (kT a) (vT v) (m.map fun p=>kT p.1) (m.map fun p=>vT p.2)=some ((m++ [(a,v)]).map (fun p=>kT p.1),(m++ [(a,v)]).map (fun p=>vT p.2)):=by
 rw[Og,yG heq]
 rw[m5]at h
 cases hp:iR m a with
 |none=>simp[GB]
 |some i=>
  have:=qQ a m i hp
  rw[hp]at h
  simp[List.getElem?_eq_getElem this]at h
theorem kf(a b:α)(v:β): ∀m:List (α×β),bU (m++ [(b,v)]) a=match bU m a with|some u=>some u|none=>if a=b then some v else none
 | []=>by simp[bU]
 |p::m=>by
  rw[List.cons_append,bU,bU,kf a b v m]
  by_cases h:a=p.1 <;> simp[h]
end
end Go.Ev
namespace Go.Ev
open Go
theorem Db{vs:List T}:scalar (.tup vs)=vs.all uu:=by
 unfold scalar
 congr 1
theorem Ov{k:IntKind}{n:Int}:uu (.i k n)=true:=nr rfl
def A9(sh:List aB):List Up→List aB
 | []=>sh
 |(.L,_,_)::us=>A9 sh us
 |(.S,k,e)::us=>A9 (ky sh k e) us
theorem Kt{sh:List aB}:A9 sh []=sh:=nr rfl
theorem vf: ∀(a:List Up) (sh:List aB) (b:List Up),A9 sh (a++b)=A9 (A9 sh a) b
 | [],sh,b=>rfl
 |(.L,k,e)::a,sh,b=>vf a sh b
 |(.S,k,e)::a,sh,b=>vf a (ky sh k e) b
theorem yH: ∀(us:List Up) (fr:Fr) (lh:aQ aB) (sh:List aB),((St.mk fr lh sh).ups us).sh=A9 sh us
 | [],_,_,_=>rfl
 |(.L,k,e)::us,fr,lh,sh=>yH us fr (cM lh k e) sh
 |(.S,k,e)::us,fr,lh,sh=>yH us fr lh (ky sh k e)
def be(lh:aQ aB)(v:T)(k sz n:Nat)(cs:List T):Prop:=
 (n=0∧v= .nilsl∧cs= [])∨(∃g wm,v= .isl .L k g 0 n sz∧aq lh k=⟨g,.cells cs wm false⟩∧cs.length=n*sz∧0<n)
def kY(n:Nat)(cs:List T):T:=if n=0 then .nilsl else .sl cs n false
theorem jr{n:Nat}{cs:List T}(h:n=0→cs= []):aR (kY n cs) n cs:=by
 unfold kY
 split
 ·rename_i h0;exact Or.inl ⟨rfl,h0,h h0⟩
 ·exact Or.inr ⟨false,rfl⟩
section
variable{lh:aQ aB}{sh:List aB}{v:T}{k sz n:Nat}{cs:List T}
theorem be.nil:be lh .nilsl k sz 0 []:=Or.inl ⟨rfl,rfl,rfl⟩
theorem be.len(h:be lh v k sz n cs):cs.length=n*sz:=by
 rcases h with⟨rfl,_,rfl⟩|⟨g,wm,_,_,h,_⟩
 ·simp
 ·exact h
theorem be.isl(h:be lh v k sz n cs):aR (kY n cs) n cs:=jr fun h0=>by
 have:=h.len;rw[h0,Nat.zero_mul]at this;exact List.length_eq_zero_iff.1 this
theorem be.congr{bp:aQ aB}(h:be lh v k sz n cs)(e:aq bp k=aq lh k):be bp v k sz n cs:=by
 rcases h with h|⟨g,wm,h1,h2,h3,h4⟩
 ·exact Or.inl h
 ·exact Or.inr ⟨g,wm,h1,by rw[e,h2],h3,h4⟩
theorem be.notS(h:be lh v k sz n cs):Ev.notS v=true:=by
 rcases h with⟨_,rfl,_⟩|⟨g,wm,rfl,_⟩ <;> rfl
theorem be.lenI(h:be lh v k sz n cs):Ev.lenI v=some (.i .i64 (n:Int)):=by
 rcases h with⟨rfl,rfl,_⟩|⟨g,wm,rfl,_⟩ <;> rfl
theorem be.noTup(h:be lh v k sz n cs):Ev.noTup v=true:=by
 rcases h with⟨_,rfl,_⟩|⟨g,wm,rfl,_⟩ <;> rfl
theorem be.cells(h:be lh v k sz n cs):cellsOf v= [v]:=by
 rcases h with⟨_,rfl,_⟩|⟨g,wm,rfl,_⟩ <;> rfl
def vS(lh:aQ aB)(sh:List aB)(d sz bytes:Nat)(s x:T):T:=match Ev.appW lh sh d sz bytes s x with|some p=>p.1|none=>bA
def pA(lh:aQ aB)(sh:List aB)(d sz bytes:Nat)(s x:T):aQ aB:=match Ev.appW lh sh d sz bytes s x with|some p=>p.2|none=>lh
theorem be.appW{m bytes:Nat}{ps:List T}{x:T}(h:be lh v k sz n cs)(hx:Ev.slC lh sh sz x=some (m+1,ps))(yq:ps.length=(m+1)*sz)(hr:(n+(m+1))*bytes≤roomy):
  Ev.appW lh sh k sz bytes v x=some (vS lh sh k sz bytes v x,pA lh sh k sz bytes v x)∧be (pA lh sh k sz bytes v x) (vS lh sh k sz bytes v x) k sz (n+(m+1)) (cs++ps)∧ ∀j,j≠k→aq (pA lh sh k sz bytes v x) j=aq lh j:=by
 have key: ∃v' bp,Ev.appW lh sh k sz bytes v x=some (v',bp)∧be bp v' k sz (n+(m+1)) (cs++ps)∧ ∀j,j≠k→aq bp j=aq lh j:=by
  unfold Ev.appW
  rw[hx,Option.bind_some]
  rcases h with⟨rfl,rfl,rfl⟩|⟨g,wm,rfl,h2,h3,h4⟩
  ·rw[AU,if_pos (by simpa using hr)]
   refine⟨_,_,rfl,Or.inr ⟨_,_,by rw[Nat.zero_add],bV _ _ _,by simpa using yq,by omega⟩,fun j hj=>aO _ _ hj⟩
  ·rw[AV,h2,u7,if_pos ⟨rfl,rfl,hr,rfl,h3.symm⟩]
   refine⟨_,_,rfl,Or.inr ⟨_,_,rfl,bV _ _ _,by rw[List.length_append,h3,yq,Nat.add_mul n (m+1)],by omega⟩,fun j hj=>aO _ _ hj⟩
 obtain⟨v',bp,h1,h2,h3⟩:=key
 have e1:vS lh sh k sz bytes v x=v':=by unfold vS;rw[h1]
 have e2:pA lh sh k sz bytes v x=bp:=by unfold pA;rw[h1]
 rw[e1,e2]
 exact⟨h1,h2,h3⟩
def Rp(lh:aQ aB):T→List Up
 | .isl .L k g _ _ _=>match aq lh k with|⟨_,.cells cs _ _⟩=> [(.L,k,⟨g,.cells cs cs.length false⟩)]|_=> []
 |_=> []
theorem Ku{sh:List aB}{lh:aQ aB}{v:T}:A9 sh (Rp lh v)=sh:=by
 unfold Rp
 split
 ·split <;> rfl
 ·rfl
theorem be.fzW{m:Nat}{keep:Bool}(h:be lh v k sz n cs):Ev.fzW m lh sh keep v=some (kY n cs,Rp lh v):=by
 rcases h with⟨rfl,rfl,rfl⟩|⟨g,wm,rfl,h2,h3,h4⟩
 ·rfl
 ·rw[EF,h2,pM,if_pos ⟨rfl,by omega⟩,List.drop_zero,←h3,List.take_length]
  unfold kY Rp
  rw[if_neg (by omega)]
  simp only[h2]
theorem be.fzV{keep:Bool}(h:be lh v k sz n cs):Ev.fzV lh sh keep v=some (kY n cs,Rp lh v):=by
 rcases h with⟨rfl,rfl,rfl⟩|⟨g,wm,rfl,h2,h3,h4⟩
 ·rfl
 ·rw[EB,h2,pM,if_pos ⟨rfl,by omega⟩,List.drop_zero,←h3,List.take_length]
  unfold kY Rp
  rw[if_neg (by omega)]
  simp only[h2]
theorem kL{d:Nat}(h:be lh v k sz n cs)(hd:d=k):rT d v= [(.L,k)]:=by
 subst hd
 rcases h with⟨_,rfl,_⟩|⟨g,wm,rfl,_⟩ <;> rfl
end
def dr(lh:aQ aB)(k i:Nat):T:=match aq lh k with|⟨_,.cells cs _ _⟩=>cs.getD i bA|_=>bA
theorem lB{lh:aQ aB}{k g wm i:Nat}{cs:List T}{bx:Bool}(h:aq lh k=⟨g,.cells cs wm bx⟩):dr lh k i=cs.getD i bA:=by unfold dr;rw[h]
theorem yI{lh:aQ aB}{k g wm:Nat}{bx:Bool}{P:T→T→Prop}(h: ∃v1 v2,aq lh k=⟨g,.cells [v1,v2] wm bx⟩∧P v1 v2):aq lh k=⟨g,.cells [dr lh k 0,dr lh k 1] wm bx⟩∧P (dr lh k 0) (dr lh k 1):=by
 obtain⟨v1,v2,h1,h2⟩:=h
 rw[lB h1,lB h1]
 exact⟨h1,h2⟩
def Yj(sh:List aB)(ek:EK)(m k v:T):Option (List aB):=match m with| .mp .S kk g=>C9 sh kk (dg sh kk) g ek k v|_=>none
theorem EJ{sh:List aB}{ek:EK}{kk g:Nat}{k v:T}:Yj sh ek (.mp .S kk g) k v=C9 sh kk (dg sh kk) g ek k v:=nr rfl
theorem Yk{E:Env}{call:lj}{n:Nat}{fr:Fr}{lh:aQ aB}{sh:List aB}{os:List aT}{ek:EK}{m k v:bq}(hm:Da (rd fr m)=true)(hf:froz (rd fr v)=true):au E call n (⟨none,.mu ek m k v,none⟩::os) ⟨fr,lh,sh⟩=ks (au E call n os) fr ((Yj sh ek (rd fr m) (rd fr k) (rd fr v)).map fun br=>(lh,br)):=by
 cases h:rd fr m with
 |mp sp kk g=>
  cases sp with
  |L=>rw[h]at hm;simp[Da]at hm
  |S=>
   rw[Yf h hf,EJ]
   cases C9 sh kk (dg sh kk) g ek (rd fr k) (rd fr v) <;> rfl
 |_=>rw[h]at hm;simp[Da]at hm
theorem aR.kept{v:T}{n:Nat}{cs:List T}(h:aR v n cs):kept v=true:=by
 rcases h with⟨rfl,_,_⟩|⟨ex,rfl⟩ <;> rfl
end Go.Ev
namespace Go.Ev
open Go
theorem GI(m:Nat)(hm:m≤62)(a:Int):Ev.bin .and (.i .u64 a) (.i .u64 (2 ^ m-1))=some (.i .u64 (a%2 ^ m)):=by
 have h2:(2:Int) ^ m=((2 ^ m:Nat):Int):=by norm_cast
 have I0:0<2 ^ m:=Nat.two_pow_pos m
 have hle:2 ^ m≤2 ^ 62:=Nat.pow_le_pow_right (by omega) hm
 have Yl:(BitVec.ofInt 64 ((2:Int) ^ m-1)).toNat=2 ^ m-1:=by
  rw[BitVec.toNat_ofInt,h2]
  have:((2 ^ m:Nat):Int)-1=((2 ^ m-1:Nat):Int):=by omega
  rw[this]
  have h3:((2 ^ m-1:Nat):Int)%((2 ^ 64:Nat):Int)=((2 ^ m-1:Nat):Int):=Int.emod_eq_of_lt (by omega) (by omega)
  rw[h3];rfl
 have hand:(BitVec.ofInt 64 a &&& BitVec.ofInt 64 ((2:Int) ^ m-1)).toNat=(a%2 ^ m).toNat:=by
  rw[BitVec.toNat_and,Yl,Nat.and_two_pow_sub_one_eq_mod,BitVec.toNat_ofInt]
  have hnn:0≤a%((2 ^ 64:Nat):Int):=Int.emod_nonneg _ (by omega)
  have h4:(a%((2 ^ 64:Nat):Int))%((2 ^ m:Nat):Int)=a%((2 ^ m:Nat):Int):=Int.emod_emod_of_dvd a (by
   have:(2 ^ m:Nat)∣2 ^ 64:=Nat.pow_dvd_pow 2 (by omega)
   exact Int.natCast_dvd_natCast.2 this)
  have h5:(((a%((2 ^ 64:Nat):Int)).toNat%2 ^ m:Nat):Int)=a%((2 ^ m:Nat):Int):=by
   rw[Int.natCast_emod,Int.toNat_of_nonneg hnn,h4]
  rw[h2,←h5];exact(Int.toNat_natCast _).symm
 have hb:(IntKind.u64).bits=64:=rfl
 simp only[Ev.bin,if_true,mM]
 have Rq:0≤a%2 ^ m:=by rw[h2];exact Int.emod_nonneg _ (by omega)
 have dA:a%2 ^ m<2 ^ m:=by rw[h2];exact Int.emod_lt_of_pos _ (by omega)
 have hw:IntKind.wrap .u64 ((BitVec.ofInt (IntKind.u64).bits a &&& BitVec.ofInt (IntKind.u64).bits ((2:Int) ^ m-1)).toNat:Int)=a%2 ^ m:=by
  show IntKind.wrap .u64 (((BitVec.ofInt 64 a &&& BitVec.ofInt 64 ((2:Int) ^ m-1)).toNat:Nat):Int)=_
  rw[hand,Int.toNat_of_nonneg Rq]
  unfold IntKind.wrap
  simp only[hb]
  have h6:(a%2 ^ m)%(2 ^ 64:Int)=a%2 ^ m:=Int.emod_eq_of_lt Rq (by
   have:(2:Int) ^ m≤2 ^ 62:=by rw[h2];exact_mod_cast hle
   omega)
  rw[h6,if_neg]
  intro hc
  simp only[Bool.and_eq_true,decide_eq_true_eq,ge_iff_le]at hc
  have:(2:Int) ^ m≤2 ^ 62:=by rw[h2];exact_mod_cast hle
  have h7:=hc.2
  omega
 rw[hw]
theorem Ow{a:Int}:Ev.bin .and (.i .u64 a) (.i .u64 4294967295)=some (.i .u64 (a%4294967296)):=GI 32 (by omega) a
theorem Kv{k':IntKind}{a:Int}{b:Nat}(h:b≤64):Ev.bin .shr (.i .u64 a) (.i k' (b:Int))=some (.i .u64 (a/2 ^ b)):=by
 rw[N1,if_neg (by omega),Int.toNat_natCast]
 have:min b (IntKind.u64).bits=b:=Nat.min_eq_left h
 rw[this,Int.fdiv_eq_ediv_of_nonneg]
 exact Int.le_of_lt (Int.pow_pos (by omega))
theorem Ox{k':IntKind}{a:Int}:Ev.bin .shr (.i .u64 a) (.i k' 32)=some (.i .u64 (a/4294967296)):=Kv (b:=32) (by omega)
theorem Oy{a b:Int}(ha:a=0∨a=1)(hb:b=0∨b=1):Ev.bin .and (.i .i64 a) (.i .i64 b)=some (.i .i64 (min a b)):=by
 rcases ha with rfl|rfl <;> rcases hb with rfl|rfl <;> rfl
theorem Kw{a b:Int}(ha:a=0∨a=1)(hb:b=0∨b=1):Ev.bin .or (.i .i64 a) (.i .i64 b)=some (.i .i64 (max a b)):=by
 rcases ha with rfl|rfl <;> rcases hb with rfl|rfl <;> rfl
def Dc(lh:aQ aB)(k:Nat):List T:=match aq lh k with|⟨_,.cells cs _ _⟩=>cs|_=> []
theorem yJ{lh:aQ aB}{k g wm:Nat}{cs:List T}{bx:Bool}(h:aq lh k=⟨g,.cells cs wm bx⟩):Dc lh k=cs:=by unfold Dc;rw[h]
theorem yK{lh:aQ aB}{k g wm:Nat}{bx:Bool}{P:List T→Prop}(h: ∃cs,aq lh k=⟨g,.cells cs wm bx⟩∧P cs):aq lh k=⟨g,.cells (Dc lh k) wm bx⟩∧P (Dc lh k):=by
 obtain⟨cs,h1,h2⟩:=h
 rw[yJ h1];exact⟨h1,h2⟩
end Go.Ev
set_option autoImplicit false
namespace Go.Ev
def vg(R:List T→Prop):Nat→List T→Prop
 |0,ts=>ts= []
 |n+1,ts=> ∃p r,ts=p++r∧R p∧vg R n r
def Oz(R:TypeId→List T→Prop):List TypeId→List T→Prop
 | [],ts=>ts= []
 |f::fs,ts=> ∃p r,ts=p++r∧R f p∧Oz R fs r
def iu(P:Program):Nat→TypeId→List T→Prop
 |0,_,_=>False
 |n+1,t,ts=>match P.underlying t with
  |some (.int k)=> ∃x,ts= [.i k x]
  |some .string=> ∃s,ts= [.s s]∧s.length≤reachBytes
  |some (.slice e)=> ∃v len cc,ts= [v]∧aR v len cc∧len*P.bytesOf e≤reachBytes∧vg (iu P n e) len cc
  |some (.struct fs)=>Oz (iu P n) (fs.toList.map (·.type)) ts
  |_=>False
def Ba(P:Program)(S:List TypeId):List Field→Nat→Nat→Bool
 | [],o,n=>o==n
 |f::fs,o,n=>f.offset==o&&S.contains f.type&&Ba P S fs (o+P.cellsOf f.type) n
def TR(P:Program)(S:List TypeId)(t:TypeId):Bool:=match P.underlying t with
 |some (.int _)=>true
 |some .string=>true
 |some (.slice e)=>S.contains e&&decide (0<P.cellsOf e)
 |some (.struct fs)=>Ba P S fs.toList 0 (P.cellsOf t)
 |_=>false
def M0:aM:=fun _ _=>False
theorem PList.cat{w:World}{M:aM}: ∀{ts us:List T} {vs xs:List Value},PList w M ts vs→PList w M us xs→PList w M (ts++us) (vs++xs)
 | [],us,vs,xs,h1,h2=>by simp only[PList]at h1;subst h1;exact h2
 |t::ts,us,vs,xs,h1,h2=>by
  simp only[PList]at h1
  obtain⟨u,r,rfl,h3,h4⟩:=h1
  simp only[List.cons_append,PList]
  exact⟨u,_,rfl,h3,PList.cat h4 h2⟩
variable{H:Type}{zM:TypeId×Value→H}{P:Program}{w:World}{base:Nat}{held:Bool}
def Tree(P:Program)(w:World)(n:Nat)(t:TypeId)(cs:List Value):Prop:= ∃ts,PList w M0 ts cs∧ts.all single=true∧iu P n t ts
theorem sT{n:Nat}{S:List TypeId}{sp:Nat→Bool}
  (ih: ∀t cs d ps,t∈S→DataW.trod zM P w base sp held n t cs=some (d,ps)→(∀x∈d.weights P t,x≤reachBytes)→Tree P w n t cs):
  ∀(fs:List Field) (o m:Nat) (cs:List Value) (xs:List (DataW H×List MemPlace)),Ba P S fs o m=true→cs.length=m→
   (fs.mapM fun f=>DataW.trod zM P w base sp held n f.type ((cs.drop f.offset).take (P.cellsOf f.type)))=some xs→
   (∀x∈DataW.weightsEach P (fs.map (·.type)) (xs.map (·.1)),x≤reachBytes)→
   ∃ts,PList w M0 ts (cs.drop o)∧ts.all single=true∧Oz (iu P n) (fs.map (·.type)) ts
 | [],o,m,cs,xs,hl,hc,hx,hw=>by
   simp[Ba]at hl
   refine⟨[], ?_,rfl,rfl⟩
   simp only[PList]
   rw[hl,←hc,List.drop_length]
 |f::fs,o,m,cs,xs,hl,hc,hx,hw=>by
  simp only[Ba,Bool.and_eq_true,beq_iff_eq,List.contains_iff_mem]at hl
  obtain⟨⟨h1,h2⟩,h3⟩:=hl
  rw[List.mapM_cons]at hx
  simp only[Option.bind_eq_bind,Option.bind_eq_some_iff,Option.pure_def,Option.some.injEq]at hx
  obtain⟨⟨d,ps⟩,hd,ys,hy,rfl⟩:=hx
  simp only[List.map_cons,DataW.weightsEach,List.mem_append]at hw
  obtain⟨ts,t1,t2,t3⟩:=ih _ _ _ _ h2 hd fun x hx=>hw x (.inl hx)
  obtain⟨us,u1,u2,u3⟩:=sT ih fs _ m cs ys h3 hc hy fun x hx=>hw x (.inr hx)
  refine⟨ts++us, ?_,by rw[List.all_append,t2,u2];rfl,ts,us,rfl,t3,u3⟩
  have:=t1.cat u1
  rwa [h1,←List.drop_drop,List.take_append_drop]at this
theorem xm(b o i:Nat):(Addr.mk b o none).add i=⟨b,o+i,none⟩:=by
 unfold Addr.add
 split
 ·rename_i h0;rw[h0];rfl
 ·rfl
theorem xo{w:World}{blk:Nat}: ∀(ts:List T) (cs:List Value) (off:Nat),PList w M0 ts cs→ts.all single=true→(∀i v,cs[i]? =some v→w.cell? ⟨blk,off+i,none⟩=some v)→aY w M0 blk off ts
 | [],_,_,_,_,_=>by simp only[aY]
 |t::ts,cs,off,h,hs,hc=>by
  simp only[PList]at h
  obtain⟨u,us,rfl,h1,h2⟩:=h
  simp only[List.all_cons,Bool.and_eq_true]at hs
  simp only[aY]
  refine⟨⟨u,hc 0 u rfl,fun h=>h,h1,hs.1⟩,xo ts us (off+1) h2 hs.2 fun i v hv=> ?_⟩
  have:=hc (i+1) v (by simpa using hv)
  rwa [Nat.add_assoc,Nat.add_comm 1 i]
theorem vh{w:World}{blk:Nat}: ∀{ts us:List T} {off:Nat},aY w M0 blk off ts→aY w M0 blk (off+ts.length) us→aY w M0 blk off (ts++us)
 | [],_,_,_,h2=>h2
 |t::ts,us,off,h1,h2=>by
  simp only[aY]at h1
  simp only[List.cons_append,aY]
  refine⟨h1.1,vh h1.2 ?_⟩
  rwa [List.length_cons,Nat.add_comm ts.length 1,←Nat.add_assoc]at h2
theorem Kx{b o n:Nat}{cs:List Value}(h:w.cells? base ⟨b,o,none⟩ n=some cs):cs.length=n∧ ∀i v,cs[i]? =some v→w.cell? ⟨b,o+i,none⟩=some v:=by
 unfold World.cells? at h
 split at h
 ·have hl:=mapM_some_length h
  rw[List.length_range]at hl
  refine⟨hl,fun i v hv=> ?_⟩
  have hi:i<n:=by rw[←hl];exact(List.getElem?_eq_some_iff.1 hv).1
  have:=mapM_some_get h i i (by rw[List.getElem?_range hi])
  rw[xm]at this
  rw[this,hv]
 ·cases h
theorem xp{n:Nat}{e:TypeId}{c:Nat}{sp:Nat→Bool}{b o:Nat}
  (ih: ∀cs d ps,DataW.trod zM P w base sp held n e cs=some (d,ps)→(∀x∈d.weights P e,x≤reachBytes)→Tree P w n e cs):
  ∀(len i:Nat) (xs:List (DataW H×List MemPlace)),
   ((List.range' i len).mapM fun i=>(w.cells? base ((Addr.mk b o none).add (i*c)) c).bind (DataW.trod zM P w base sp held n e))=some xs→
   (∀x∈DataW.weightsAll P e (xs.map (·.1)),x≤reachBytes)→ ∃cc,aY w M0 b (o+i*c) cc∧vg (iu P n e) len cc
 |0,i,xs,h,hw=>⟨[],by simp only[aY],rfl⟩
 |len+1,i,xs,h,hw=>by
  rw[List.range'_succ,List.mapM_cons]at h
  simp only[Option.bind_eq_bind,Option.bind_eq_some_iff,Option.pure_def,Option.some.injEq]at h
  obtain⟨⟨d,ps⟩,⟨cs,hc,hd⟩,ys,hy,rfl⟩:=h
  simp only[List.map_cons,DataW.weightsAll,List.mem_append]at hw
  obtain⟨ts,t1,t2,t3⟩:=ih _ _ _ hd fun x hx=>hw x (.inl hx)
  obtain⟨us,u1,u3⟩:=xp ih len (i+1) ys hy fun x hx=>hw x (.inr hx)
  rw[xm]at hc
  obtain⟨c1,c2⟩:=Kx hc
  have hl:ts.length=c:=by rw[←c1];exact PList.length _ _ t1
  refine⟨ts++us,vh (xo ts cs _ t1 t2 c2) ?_,ts,us,rfl,t3,u3⟩
  rwa [hl,Nat.add_assoc,←Nat.succ_mul]
theorem xq{a:Addr}{n:Nat}{cs:List Value}(h:w.cells? base a n=some cs)(hn:0<n):a.spot=none:=by
 unfold World.cells? at h
 split at h
 ·have hl:=mapM_some_length h
  rw[List.length_range]at hl
  have:=mapM_some_get h 0 0 (by rw[List.getElem?_range hn])
  rw[List.getElem?_eq_getElem (by omega)]at this
  exact World.cell?_spot (a:=a) (by simpa[Addr.add]using this)
 ·cases h
theorem trees_of{S:List TypeId}(hS: ∀t∈S,TR P S t=true): ∀(n:Nat) (t:TypeId) (cs:List Value) (d:DataW H) (ps:List MemPlace),t∈S→
  DataW.trod zM P w base (fun _=>true) held n t cs=some (d,ps)→(∀x∈d.weights P t,x≤reachBytes)→Tree P w n t cs
 |0,t,cs,d,ps,_,h,_=>by simp[DataW.trod]at h
 |n+1,t,cs,d,ps,ht,h,hw=>by
  have ok:=hS t ht
  have ih:=fun t cs d ps=>trees_of hS n t cs d ps
  unfold TR at ok
  unfold Tree iu
  cases hu:P.underlying t with
  |none=>rw[hu]at ok;cases ok
  |some u=>
  rw[hu]at ok
  cases u with
  |int k=>
   obtain⟨x,rfl,_⟩:=DataW.trod_int hu h
   exact⟨[.i k x],by simp only[PList,PRel];exact⟨_,_,rfl,rfl,rfl⟩,rfl,x,rfl⟩
  |string=>
   obtain⟨s,rfl,e,_⟩:=DataW.trod_string hu h
   injection e with e1 e2
   subst e1
   refine⟨[.s (cR s)],by simp only[PList,PRel];exact⟨_,_,rfl,⟨s,rfl,rfl⟩,rfl⟩,rfl,_,rfl, ?_⟩
   have:=hw s.data.toList.length (by simp[DataW.weights])
   unfold cR
   rwa [List.length_map]
  |slice e=>
   simp only[Bool.and_eq_true,List.contains_iff_mem,decide_eq_true_eq]at ok
   obtain⟨he,hc⟩:=ok
   rcases DataW.trod_slice hu h with⟨rfl,_⟩|⟨⟨b,o,sp⟩,len,cap,elems,rest,n',hn,rfl,hx,_,hl,_,hlen,hel,hre,_⟩
   ·exact⟨[.nilsl],by simp only[PList,PRel];exact⟨_,_,rfl,rfl,rfl⟩,rfl,.nilsl,0,[],rfl,.inl ⟨rfl,rfl,rfl⟩,by simp,rfl⟩
   ·injection hn with hn
    subst hn
    injection hx with hx _
    subst hx
    simp only[DataW.weights,hu,List.mem_cons,List.mem_append,List.length_map]at hw
    obtain⟨dA,eO⟩:=hre rfl
    have Rr:sp=none∨cap=0:=by
     by_cases h0:cap=0
     ·exact .inr h0
     ·left
      by_cases h1:len=0
      ·have:=eO 0 (by omega)
       rw[h1,List.getElem?_eq_getElem (by omega)]at this
       simp only[Nat.add_zero,Nat.zero_mul,Option.bind_eq_some_iff]at this
       obtain⟨c,GJ,_⟩:=this
       exact xq (a:=⟨b,o,sp⟩) (by simpa[Addr.add]using GJ) hc
      ·have:=hel 0 (by omega)
       rw[List.getElem?_eq_getElem (by omega)]at this
       simp only[Nat.zero_mul,Option.bind_eq_some_iff]at this
       obtain⟨c,GJ,_⟩:=this
       exact xq (a:=⟨b,o,sp⟩) (by simpa[Addr.add]using GJ) hc
    have ada: ∃cc,aY w M0 b o cc∧vg (iu P n e) len cc:=by
     rcases Rr with rfl|h0
     ·have:=xp (base:=base) (zM:=zM) (held:=held) (c:=P.cellsOf e) (b:=b) (o:=o) (fun cs d ps=>ih e cs d ps he) len 0 elems
       (mapM_some_of_get _ _ (by rw[hlen,List.length_range']) fun i x hx=>by
         obtain⟨h1,h2⟩:=List.getElem?_eq_some_iff.1 hx
         rw[List.length_range']at h1
         rw[List.getElem_range',Nat.zero_add,Nat.one_mul]at h2
         subst h2
         exact hel i h1) fun x hx=>hw x (.inr (.inl hx))
      simpa using this
     ·have:len=0:=by omega
      subst this
      exact⟨[],by simp only[aY],rfl⟩
    obtain⟨cc,k1,k2⟩:=ada
    refine⟨[.sl cc len false], ?_,rfl,_,len,cc,rfl,.inr ⟨false,rfl⟩, ?_,k2⟩
    ·simp only[PList,PRel]
     exact⟨_,_,rfl,⟨b,o,cap,sp,rfl,hl,(fun h=>by cases h),Rr,k1⟩,rfl⟩
    ·refine Nat.le_trans (Nat.mul_le_mul_right _ ?_) (hw _ (.inl rfl))
     omega
  |struct fs=>
   obtain⟨xs,n',hn,hx,hlen,hxl,hf⟩:=DataW.trod_struct hu h
   injection hn with hn
   subst hn
   injection hx with hx _
   subst hx
   simp only[DataW.weights,hu]at hw
   have:=sT (zM:=zM) (base:=base) (held:=held) ih fs.toList 0 _ cs xs ok hlen (mapM_some_of_get _ _ (by rw[hxl,Array.length_toList]) fun i x hx=>hf i x (by simpa using hx)) hw
   simpa using this
  |_=>cases ok
def iv(P:Program)(t:TypeId):Option (List TypeId):=match P.underlying t with
 |some (.struct fs)=>some (fs.toList.map (·.type))
 |_=>none
def yL(P:Program)(t:TypeId):Option TypeId:=match P.underlying t with
 |some (.slice e)=>some e
 |_=>none
theorem iu.st{n:Nat}{t:TypeId}{l:List TypeId}{ts:List T}(h:iu P (n+1) t ts)(hf:iv P t=some l):Oz (iu P n) l ts:=by
 unfold iv at hf
 unfold iu at h
 split at hf
 ·rename_i fs hu;rw[hu]at h;injection hf with hf;subst hf;exact h
 ·cases hf
theorem iu.row{n:Nat}{t e:TypeId}{ts:List T}(h:iu P (n+1) t ts)(hf:yL P t=some e): ∃v len cc,ts= [v]∧aR v len cc∧len*P.bytesOf e≤reachBytes∧vg (iu P n e) len cc:=by
 unfold yL at hf
 unfold iu at h
 split at hf
 ·rename_i hu;rw[hu]at h;injection hf with hf;subst hf;exact h
 ·cases hf
end Go.Ev
