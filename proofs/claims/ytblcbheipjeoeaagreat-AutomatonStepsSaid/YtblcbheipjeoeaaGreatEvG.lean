/- A tree evaluator over the model, proved against it (part G): where it answers, the call returns that answer. Conditions: none beyond its theorems' own. -/
import Derived.Test.YtblcbheipjeoeaaGreatEvF
import GoSem.ClaimJoined
import Derived.ChangeArms
import Derived.DataShut
import Derived.OpenShut
set_option linter.unusedSimpArgs false
set_option linter.unusedVariables false
namespace Go.Ev
open Go
def kept1:T→Bool
 | .isl .S .. | .ptr .S .. | .mp .S .. =>true
 |t=>froz1 t
def kept:T→Bool
 | .agg cs=>cs.all kept1
 | .tup cs=>cs.all kept1
 | .fn _ a c=>a.all kept1&&c.all kept1
 |t=>kept1 t
theorem Gt{n:Nat}{t:T}(h:kept1 t=true):fz true (n+1) t= .ret (t,[]):=by
 cases t with
 |isl sp k g off len sz=>cases sp with|S=>rfl|L=>simp[kept1,froz1]at h
 |ptr sp k g off=>cases sp with|S=>rfl|L=>simp[kept1,froz1]at h
 |mp sp k g=>cases sp with|S=>rfl|L=>simp[kept1,froz1]at h
 |_=>exact tK h
theorem qp{n:Nat}: ∀(ts:List T),ts.all kept1=true→gk (fz true (n+1)) ts= .ret (ts,[])
 | [],_=>rfl
 |t::ts,h=>by
  simp only[List.all_cons,Bool.and_eq_true]at h
  simp only[gk,Gt h.1,qp ts h.2,Q.bind,List.append_nil]
theorem zr{n:Nat}{t:T}(h:kept t=true):fz true (n+2) t= .ret (t,[]):=by
 cases t with
 |agg cs=>simp only[kept]at h;rw[DY,qp cs h];rfl
 |tup cs=>simp only[kept]at h;rw[Ip,qp cs h];rfl
 |fn f a c=>simp only[kept,Bool.and_eq_true]at h;rw[Yi,qp a h.1,qp c h.2];rfl
 |_=>exact Gt h
theorem xP{n:Nat}: ∀(ts:List T),ts.all kept=true→gk (fz true (n+2)) ts= .ret (ts,[])
 | [],_=>rfl
 |t::ts,h=>by
  simp only[List.all_cons,Bool.and_eq_true]at h
  simp only[gk,zr h.1,xP ts h.2,Q.bind,List.append_nil]
theorem aaI{k:IntKind}{n:Int}:kept (.i k n)=true:=nr rfl
theorem aaJ{l:List Nat}:kept (.s l)=true:=nr rfl
theorem Qw{k g off:Nat}:kept (.ptr .S k g off)=true:=nr rfl
theorem wO{k g:Nat}:kept (.mp .S k g)=true:=nr rfl
theorem Qx{cs:List T}:kept (.agg cs)=cs.all kept1:=nr rfl
theorem U4{k:IntKind}{n:Int}:kept1 (.i k n)=true:=nr rfl
theorem U5{l:List Nat}:kept1 (.s l)=true:=nr rfl
theorem Gu:kept1 .nilmp=true:=nr rfl
theorem Qy{k g:Nat}:kept1 (.mp .S k g)=true:=nr rfl
theorem Qz{t:T}(h:froz1 t=true):kept1 t=true:=by cases t <;> first|rfl|(simp[froz1]at h)
section
variable{E:Env}{call:qz}{n:Nat}{fr:Fr}{lh:fC fg}{sh:List fg}{os:List fe}{d:Nat}
theorem QA{v:T}(h:kept v=true):fzV lh sh true v=some (v,[]):=by
 unfold fzV fJ;rw[zr h];rfl
theorem LR{dd:Nat}{af:fv}{f:Nat}{args:List T}(hf:E.fn f=some af)(he:af.eff=true)(hz:args.all kept=true):gq E call dd ⟨fr,lh,sh⟩ f args=
  (call f args sh).bind fun r=>some (r.1,⟨fr,lh,r.2⟩):=by
 unfold gq
 simp only[hf,he,if_true]
 unfold fJ
 rw[xP args hz]
 simp only[Q.run,zq]
 cases call f args sh <;> rfl
theorem aaK{x:fM}(hd:d<n)(ht:noTup (rd fr x)=true)(hk:kept (rd fr x)=true):fi E call n (⟨some d,.box x true,none⟩::os) ⟨fr,lh,sh⟩=fi E call n os ⟨iG fr d (.ptr .S sh.length 1 0),lh,il sh sh.length ⟨1,.cells (cellsOf (rd fr x)) 0 true⟩⟩:=by
 rw[qn (by rfl) (show CI n (some d)from hd)]
 unfold one
 simp only[gA,ht,Bool.not_true,Bool.false_eq_true,if_false,if_true]
 unfold fJ
 rw[zr hk]
 simp only[Q.bind,List.isEmpty_nil,ht,Bool.and_self,if_true]
 rfl
theorem QB{k g off m:Nat}{v:T}(e:fg)(hb: ∀cs wm bx,e.ob= .cells cs wm bx→bx=true)(h1:(cellsOf v).length=m)(h2:noTup v=true)(hz:kept v=true):jP lh sh (Q.run (St.mk .nil lh sh).get sh.length (ME k g off m v e))=AS lh sh k e g off v m:=by
 obtain⟨g',ob⟩:=e
 unfold AS ME
 by_cases hg:g'=g
 ·subst hg
  cases ob with
  |none=>simp[Q.run,jP]
  |map ks vs z=>simp[Q.run,jP]
  |cells cs wm bx=>
   have SK:=hb cs wm bx rfl
   subst SK
   by_cases hb:wm≤off∧off+m≤cs.length
   ·have Nx:(decide (wm≤off)&&decide (off+m≤cs.length))=true:=by simp[hb.1,hb.2]
    have SK:(true&&Sp.S==Sp.L)=false:=rfl
    have hbs:(true&&Sp.S==Sp.S)=true:=rfl
    unfold fJ
    simp only[if_true,Nx,SK,hbs,Bool.false_eq_true,if_false]
    rw[zr hz]
    have lU:(mM [] Sp.S k|| !noTup v||decide ((cellsOf v).length≠m))=false:=by simp[mM,h1,h2]
    simp only[Q.bind,lU,Bool.false_eq_true,if_false,Q.run,jP]
    rw[if_pos ⟨trivial,h1,h2,hb⟩]
    rfl
   ·have Nx:(decide (wm≤off)&&decide (off+m≤cs.length))=false:=by
     cases hx:(decide (wm≤off)&&decide (off+m≤cs.length))with
     |false=>rfl
     |true=>simp at hx;exact absurd hx hb
    simp only[if_true,Nx,Bool.false_eq_true,if_false,Q.run,jP]
    rw[if_neg (by rintro⟨_,_,_,a⟩;exact hb a)]
 ·cases ob with
  |none=>simp[hg,Q.run,jP]
  |map ks vs z=>simp[hg,Q.run,jP]
  |cells cs wm bx=>simp[hg,Q.run,jP]
theorem D5{k g g' off m wm:Nat}{cs:List T}{v:T}(hz:kept v=true)(he:gC sh k=⟨g',.cells cs wm true⟩):sI lh sh (.ptr .S k g off) v m=AS lh sh k ⟨g',.cells cs wm true⟩ g off v m:=by
 by_cases h1:(cellsOf v).length=m
 ·cases h2:noTup v with
  |false=>
   unfold sI sr
   have:(decide ((cellsOf v).length≠m)|| !noTup v)=true:=by simp[h2]
   simp only[this,if_true,Q.run]
   unfold AS
   simp[h2]
  |true=>
   unfold sI sr
   have:(decide ((cellsOf v).length≠m)|| !noTup v)=false:=by simp[h1,h2]
   simp only[this,Bool.false_eq_true,if_false]
   have:=QB (lh:=lh) (sh:=sh) (k:=k) (g:=g) (off:=off) ⟨g',.cells cs wm true⟩ (by intro a b c h;cases h;rfl) h1 h2 hz
   rw[←this,←he]
   rfl
 ·unfold sI sr
  have:(decide ((cellsOf v).length≠m)|| !noTup v)=true:=by simp[h1]
  simp only[this,if_true,Q.run]
  unfold AS
  simp[h1]
def IB(sh:List fg)(kk:Nat)(e:fg)(g:Nat)(ek:EK)(k v:T):Option (List fg):=
 match e with
 |⟨g',.map ks vs false⟩=>if g'=g∧isKey ek k=true then(pH ek k v ks vs).map fun q=>il sh kk ⟨g,.map q.1 q.2 false⟩else none
 |_=>none
theorem QC{kk g g':Nat}{ek:EK}{k v:T}{ks vs:List T}:IB sh kk ⟨g',.map ks vs false⟩ g ek k v=if g'=g∧isKey ek k=true then(pH ek k v ks vs).map fun q=>il sh kk ⟨g,.map q.1 q.2 false⟩else none:=rfl
def U6(kk g:Nat)(ek:EK)(k v:T)(e:fg):Q zl:=if e.g=g&&isKey ek k then match e.ob with
      | .map ks vs false=>(fz false fJ v).bind fun p=>match pH ek k p.1 ks vs with
        |some q=>if mM p.2 .S kk then .fail else .ret (.val gf (p.2++ [(.S,kk,⟨g,.map q.1 q.2 false⟩)]))
        |none=> .fail
      |_=> .fail
     else .fail
theorem U7{kk g:Nat}{ek:EK}{k v:T}(e:fg)(hf:froz v=true):((nQ (Q.run (St.mk fr lh sh).get sh.length (U6 kk g ek k v e))).bind fun r=>fi E call n os {(St.mk fr lh sh).ups r.2 with fr:=fr})=
  (IB sh kk e g ek k v).bind fun fL=>fi E call n os ⟨fr,lh,fL⟩:=by
 obtain⟨g',ob⟩:=e
 unfold U6 IB
 by_cases hg:g'=g∧isKey ek k=true
 ·have:(decide (g'=g)&&isKey ek k)=true:=by simp[hg.1,hg.2]
  simp only[this,if_true]
  cases ob with
  |none=>rfl
  |cells cs wm bx=>rfl
  |map ks vs z=>
   cases z with
   |true=>rfl
   |false=>
    simp only[if_pos hg]
    unfold fJ
    rw[oC hf]
    simp only[Q.bind]
    cases pH ek k v ks vs with
    |none=>rfl
    |some q=>simp only[mM,List.any_nil,Bool.false_eq_true,if_false,Q.run,List.nil_append];rfl
 ·have:(decide (g'=g)&&isKey ek k)=false:=by
   cases h:(decide (g'=g)&&isKey ek k)with
   |false=>rfl
   |true=>simp at h;exact absurd h hg
  simp only[this,Bool.false_eq_true,if_false,Q.run,nQ]
  cases ob with
  |none=>rfl
  |cells cs wm bx=>rfl
  |map ks vs z=>
   cases z with
   |true=>rfl
   |false=>simp only[if_neg hg];rfl
theorem ahV{ek:EK}{m k v:fM}{kk g:Nat}(hm:rd fr m= .mp .S kk g)(hf:froz (rd fr v)=true):fi E call n (⟨none,.mu ek m k v,none⟩::os) ⟨fr,lh,sh⟩=(IB sh kk (gC sh kk) g ek (rd fr k) (rd fr v)).bind fun fL=>fi E call n os ⟨fr,lh,fL⟩:=by
 rw[qn (by rfl) (show CI n none from trivial)]
 unfold one
 simp only[gA,hm]
 exact U7 (gC sh kk) hf
end
section
variable{E:Env}{call:qz}{n:Nat}{fr:Fr}{lh:fC fg}{sh:List fg}{ds:List (List Nat×fe)}{g8:List FP}{u:List Nat}{d:Option Nat}
def IC:T→Bool
 | .mp .S .. =>true
 |_=>false
theorem U8{k g:Nat}:IC (.mp .S k g)=true:=nr rfl
theorem ahW{ek:EK}{m k v:fM}(hx:IC (rd fr m)=true)(hz:froz (rd fr v)=true):fN E call n ((u,⟨none,.mu ek m k v,none⟩)::ds) g8 ⟨fr,lh,sh⟩=
  if meets u g8 ⟨false,qT (rd fr m),qT (rd fr m)⟩=true then ke E call n ds (g8++ [⟨false,qT (rd fr m),qT (rd fr m)⟩]) (fi E call n [⟨none,.mu ek m k v,none⟩] ⟨fr,lh,sh⟩)else none:=by
 refine tn fun jC=> ?_
 cases vf:rd fr m with
 |mp sp kk g=>
  cases sp with
  |L=>rw[vf]at hx;simp[IC]at hx
  |S=>
   obtain⟨w,ups,hr,iJ⟩:=vD (q:= .rd .S kk (U6 kk g ek (rd fr k) (rd fr v))) (by rfl) (by rw[jE];simp only[gA,vf];rfl) jC
   simp only[Q.run,Q.log,Q.asks]at hr iJ
   have hge:(St.mk fr lh sh).get .S kk=gC sh kk:=rfl
   rw[hge]at hr iJ
   generalize he:gC sh kk=e at hr iJ
   obtain⟨g',ob⟩:=e
   unfold U6 at hr iJ
   by_cases hg:(decide (g'=g)&&isKey ek (rd fr k))=true
   ·simp only[hg,if_true]at hr iJ
    cases ob with
    |none=>simp[Q.run]at hr
    |cells cs wm bx=>simp[Q.run]at hr
    |map ks vs zz=>
     cases zz with
     |true=>simp[Q.run]at hr
     |false=>
      simp only[]at hr iJ
      unfold fJ at hr iJ
      rw[oC hz]at hr iJ
      simp only[Q.bind]at hr iJ
      split at hr
      ·rename_i q hp
       simp only[mM,List.any_nil,Bool.false_eq_true,if_false,Q.run,Option.some.injEq,zl.val.injEq]at hr
       obtain⟨rfl,rfl⟩:=hr
       rw[hp]at iJ
       simp only[mM,List.any_nil,Bool.false_eq_true,if_false]at iJ
       refine iJ ?_
       simp only[Q.asks,Bool.false_or,uk,List.nil_append,List.all_cons,List.all_nil,Bool.and_true]
       rw[hge,he]
       rfl
      ·simp[Q.run]at hr
   ·have X6:(decide (g'=g)&&isKey ek (rd fr k))=false:=by simpa using hg
    simp only[X6,Bool.false_eq_true,if_false,Q.run]at hr
    cases hr
 |_=>rw[vf]at hx;simp[IC]at hx
def Cm:FP:=⟨true,[],[]⟩
theorem Te{f:Nat}{af:fv}{as:List fM}(hf:E.fn f=some af)(he:af.eff=true)(hz:(as.map (rd fr)).all kept=true):
  fN E call n ((u,⟨d,.callf f as,none⟩)::ds) g8 ⟨fr,lh,sh⟩=if meets u g8 Cm=true then ke E call n ds (g8++ [Cm]) (fi E call n [⟨d,.callf f as,none⟩] ⟨fr,lh,sh⟩)else none:=by
 refine tn fun jC=> ?_
 unfold gK
 have AH:gD (St.mk fr lh sh).rho (.callf f as)=some (some (f,as.map (rd fr))):=by rw[jE];rfl
 simp only[AH]
 unfold jJ
 simp only[hf,he]
 unfold fJ
 rw[xP _ hz]
 simp only[Q.run,Q.log,uk,List.all_nil,Bool.not_true,Bool.false_eq_true,if_false,if_true,iB,List.map_nil]
 rfl
theorem Gv{rs ws:List (Sp×Nat)}:apart ⟨false,rs,ws⟩ Cm=(Hz rs&&Hz ws):=by
 unfold apart Cm lq
 have h1:(ws.all fun x=> !([]:List (Sp×Nat)).contains x)=true:=by rw[List.all_eq_true];intro x _;rfl
 have h2:(rs.all fun x=> !([]:List (Sp×Nat)).contains x)=true:=by rw[List.all_eq_true];intro x _;rfl
 simp[h1,h2]
theorem U9:Hz []=true:=nr rfl
theorem ahX{k:Nat}{xs:List (Sp×Nat)}:Hz ((.L,k)::xs)=Hz xs:=nr rfl
end
end Go.Ev
namespace Go.Ev
open Go
section
variable{E:Env}{n:Nat}{a:fm}
theorem fw(I:Nat→St→Prop)(R:Out→St→Prop)(N:Nat)
  (step: ∀k st,k<N→I k st→(∃gj,DC E n a st=some (.nrm,gj)∧I (k+1) gj)∨(∃o gj,o≠ .nrm∧DC E n a st=some (o,gj)∧R o gj))
  (last: ∀st,I N st→ ∃o gj,o≠ .nrm∧DC E n a st=some (o,gj)∧R o gj):
  ∀(k:Nat) (st:St),k≤N→I k st→ ∃o gj,DC E n (.loop a) st=some (o,gj)∧R o gj:=by
 have leave: ∀{st o gj},o≠ .nrm→DC E n a st=some (o,gj)→DC E n (.loop a) st=some (o,gj):=by
  intro st o gj ho h
  rw[oA,h]
  cases o with
  |nrm=>exact absurd rfl ho
  |ext id=>rfl
  |ret=>rfl
 have main: ∀(m k:Nat) (st:St),N-k=m→k≤N→I k st→ ∃o gj,DC E n (.loop a) st=some (o,gj)∧R o gj:=by
  intro m
  induction m with
  |zero=>
   intro k st hm hk h
   have:k=N:=by omega
   subst this
   obtain⟨o,gj,ho,h1,h2⟩:=last st h
   exact⟨o,gj,leave ho h1,h2⟩
  |succ m ih=>
   intro k st hm hk h
   rcases step k st (by omega) h with⟨gj,h1,h2⟩|⟨o,gj,ho,h1,h2⟩
   ·obtain⟨o,wF,h3,h4⟩:=ih (k+1) gj (by omega) (by omega) h2
    refine⟨o,wF, ?_,h4⟩
    rw[oA,h1,yJ]
    exact h3
   ·exact⟨o,gj,leave ho h1,h2⟩
 intro k st hk h
 exact main (N-k) k st rfl hk h
theorem fq{fr:Fr}{lh:fC fg}{sh:List fg}{o:Out}{P:Fr→fC fg→List fg→Prop}
  (h: ∃o' gj,DC E n (.loop a) ⟨fr,lh,sh⟩=some (o',gj)∧o'=o∧P gj.fr gj.lh gj.sh):
  DC E n (.loop a) ⟨fr,lh,sh⟩=some (o,⟨gr E n a fr lh sh,gp E n a fr lh sh,gn E n a fr lh sh⟩)∧P (gr E n a fr lh sh) (gp E n a fr lh sh) (gn E n a fr lh sh):=by
 obtain⟨o',gj,h1,rfl,h2⟩:=h
 exact Ms ⟨gj.fr,gj.lh,gj.sh,h1,h2⟩
end
theorem fD.kept1{v:T}{n:Nat}{cs:List T}(h:fD v n cs):kept1 v=true:=Qz h.froz1
end Go.Ev
namespace Go.Ev
open Go
theorem zt{st:St}{a b:List Up}:uk st (a++b)=(uk st a&&uk st b):=by unfold uk;rw[List.all_append]
theorem zu{st:St}{sp:Sp}{k:Nat}{e:fg}(h:Ab (st.get sp k)=true):uk st [(sp,k,e)]=true:=by
 cases sp with
 |L=>rfl
 |S=>simp only[uk,List.all_cons,List.all_nil,Bool.and_true,h,Bool.or_true]
section
variable{st:St}{nx:Nat}
theorem AU{f:T→Q (T×List Up)}(hf: ∀t p,(f t).run st.get nx=some p→uk st p.2=true): ∀(ts:List T) (p:List T×List Up),(gk f ts).run st.get nx=some p→uk st p.2=true
 | [],p,h=>by simp[gk,Q.run]at h;subst h;rfl
 |t::ts,p,h=>by
  simp only[gk,gJ]at h
  cases h1:(f t).run st.get nx with
  |none=>rw[h1]at h;cases h
  |some p1=>
   rw[h1]at h
   simp only[Option.bind_some]at h
   cases h2:(gk f ts).run st.get nx with
   |none=>rw[h2]at h;cases h
   |some p2=>
    rw[h2]at h
    simp only[Option.bind_some,Q.run,Option.some.injEq]at h
    subst h
    simp only[zt,hf _ _ h1,AU hf ts _ h2,Bool.and_self]
theorem QD: ∀(n:Nat) (keep:Bool) (t:T) (p:T×List Up),(fz keep n t).run st.get nx=some p→uk st p.2=true
 |0,keep,t,p,h=>by simp[fz,Q.run]at h
 |n+1,keep,t,p,h=>by
  have ih:=QD n
  have hm:=fun(k:Bool) (ts:List T) (q:List T×List Up)=>AU (ih k) ts q
  cases t with
  |isl sp k g off len sz=>
   simp only[fz]at h
   split at h
   ·simp[Q.run]at h;subst h;rfl
   ·simp only[Q.run]at h
    cases he:st.get sp k with
    |mk g' ob=>
     have hl: ∀{o},ob=o→Ab (st.get sp k)=Ab ⟨g',o⟩:=fun e=>by rw[he,e]
     rw[he]at h
     simp only at h
     split at h
     ·split at h
      ·split at h
       ·simp only[Q.run,Option.some.injEq]at h;subst h;exact zu (by rw[he];rfl)
       ·simp[Q.run]at h
      ·split at h
       ·simp only[gJ]at h
        cases h2:(gk (fz false n) (List.take (len*sz) (List.drop off ‹List T›))).run st.get nx with
        |none=>rw[h2]at h;cases h
        |some q=>
         rw[h2]at h
         simp only[Option.bind_some,Q.run,Option.some.injEq]at h
         subst h
         simp only[zt,hm _ _ _ h2,Bool.true_and]
         exact zu (by rw[he];rfl)
       ·simp[Q.run]at h
      ·simp[Q.run]at h
     ·simp[Q.run]at h
  |mp sp k g=>
   simp only[fz]at h
   split at h
   ·simp[Q.run]at h;subst h;rfl
   ·simp only[Q.run]at h
    cases he:st.get sp k with
    |mk g' ob=>
     rw[he]at h
     simp only at h
     split at h
     ·split at h
      ·simp only[Q.run,Option.some.injEq]at h;subst h;exact zu (by rw[he];rfl)
      ·simp[Q.run]at h
     ·simp[Q.run]at h
  |ptr sp k g off=>
   simp only[fz]at h
   split at h
   ·simp[Q.run]at h;subst h;rfl
   ·simp only[Q.run]at h
    cases he:st.get sp k with
    |mk g' ob=>
     rw[he]at h
     simp only at h
     split at h
     ·split at h
      ·simp only[gJ]at h
       cases h2:(gk (fz false n) (List.drop off ‹List T›)).run st.get nx with
       |none=>rw[h2]at h;cases h
       |some q=>
        rw[h2]at h
        simp only[Option.bind_some,Q.run,Option.some.injEq]at h
        subst h
        simp only[zt,hm _ _ _ h2,Bool.true_and]
        exact zu (by rw[he];rfl)
      ·simp[Q.run]at h
     ·simp[Q.run]at h
  |fn f a c=>
   simp only[fz,gJ]at h
   cases h1:(gk (fz keep n) a).run st.get nx with
   |none=>rw[h1]at h;cases h
   |some p1=>
    rw[h1]at h
    simp only[Option.bind_some]at h
    cases h2:(gk (fz keep n) c).run st.get nx with
    |none=>rw[h2]at h;cases h
    |some p2=>
     rw[h2]at h
     simp only[Option.bind_some,Q.run,Option.some.injEq]at h
     subst h
     simp only[zt,hm _ _ _ h1,hm _ _ _ h2,Bool.and_self]
  |agg cs=>
   simp only[fz,gJ]at h
   cases h1:(gk (fz keep n) cs).run st.get nx with
   |none=>rw[h1]at h;cases h
   |some p1=>
    rw[h1]at h
    simp only[Option.bind_some,Q.run,Option.some.injEq]at h
    subst h
    exact hm _ _ _ h1
  |tup cs=>
   simp only[fz,gJ]at h
   cases h1:(gk (fz keep n) cs).run st.get nx with
   |none=>rw[h1]at h;cases h
   |some p1=>
    rw[h1]at h
    simp only[Option.bind_some,Q.run,Option.some.injEq]at h
    subst h
    exact hm _ _ _ h1
  |_=>simp[fz,Q.run]at h;subst h;rfl
end
section
variable{E:Env}{call:qz}{n:Nat}{fr:Fr}{lh:fC fg}{sh:List fg}{ds:List (List Nat×fe)}{g8:List FP}{u:List Nat}{d:Option Nat}
theorem Tf{f:Nat}{af:fv}{as:List fM}(hf:E.fn f=some af)(he:af.eff=false)(hw:af.own=none)(hu:Wu ds=true):
  fN E call n (([],⟨d,.callf f as,none⟩)::ds) g8 ⟨fr,lh,sh⟩=ke E call n ds (g8++ [mL]) (fi E call n [⟨d,.callf f as,none⟩] ⟨fr,lh,sh⟩):=by
 rw[tn (fp:=(gK E call ⟨d,.callf f as,none⟩ ⟨fr,lh,sh⟩).getD mL)]
 ·show ke _ _ _ _ _ _=_
  unfold ke
  cases fi E call n [⟨d,.callf f as,none⟩] ⟨fr,lh,sh⟩with
  |none=>rfl
  |some s=>exact Gs ds _ _ s hu
 ·intro jC
  unfold gh at jC
  have AH:gD (St.mk fr lh sh).rho (.callf f as)=some (some (f,as.map (rd fr))):=by rw[jE];rfl
  simp only[AH]at jC
  suffices h: ∃fp,gK E call ⟨d,.callf f as,none⟩ ⟨fr,lh,sh⟩=some fp by
   obtain⟨fp,h⟩:=h;rw[h];rfl
  unfold gK jJ
  simp only[AH,hf]
  unfold gq at jC
  simp only[hf,he]at jC ⊢
  cases hq:(gk (fz false fJ) (as.map (rd fr))).run (St.mk fr lh sh).get sh.length with
  |none=>simp only[hq]at jC;exact absurd rfl jC
  |some q=>
   simp only[hq,Bool.false_eq_true,if_false]at jC ⊢
   have tp:uk (St.mk fr lh sh) q.2=true:=AU (fun t p h=>QD _ _ t p h) _ _ hq
   simp only[tp,Bool.not_true,Bool.false_eq_true,if_false,hw]
   cases hc:call f q.1 []with
   |none=>simp only[hc]at jC;exact absurd rfl jC
   |some r=>exact⟨_,rfl⟩
def isNe:T→Bool
 | .sl _ (_+1) _=>true
 |_=>false
theorem Va{cs:List T}{m:Nat}{ex:Bool}:isNe (.sl cs (m+1) ex)=true:=nr rfl
def tO(dd:Nat):T→List (Sp×Nat)
 | .isl .L k _ _ _ _=> [(.L,k)]
 |_=> [(.L,dd)]
theorem ID{dd k g off len sz:Nat}:tO dd (.isl .L k g off len sz)= [(.L,k)]:=nr rfl
theorem IE{dd:Nat}:tO dd .nilsl= [(.L,dd)]:=nr rfl
theorem aaM{dd sz bytes:Nat}{s x:fM}(hs:notS (rd fr s)=true)(hx:isNe (rd fr x)=true):fN E call n ((u,⟨some dd,.app sz bytes s x false false,none⟩)::ds) g8 ⟨fr,lh,sh⟩=
  if meets u g8 ⟨false,tO dd (rd fr s),tO dd (rd fr s)⟩=true then ke E call n ds (g8++ [⟨false,tO dd (rd fr s),tO dd (rd fr s)⟩]) (fi E call n [⟨some dd,.app sz bytes s x false false,none⟩] ⟨fr,lh,sh⟩)else none:=by
 refine tn fun jC=> ?_
 cases vf:rd fr x with
 |sl cs m ex=>
  cases m with
  |zero=>rw[vf]at hx;simp[isNe]at hx
  |succ m=>
   by_cases hc:cs.length=(m+1)*sz
   ·have k6:gU sz (rd fr x)= .ret (m+1,cs):=by rw[vf];simp only[gU,hc,if_true]
    obtain⟨v,ups,hr,iJ⟩:=vD (q:=qe dd sz bytes (rd fr s) (rd fr x) false false) (by rfl) (by rw[jE];rfl) jC
    have tp:=U2 hs hr
    have iJ:=iJ (by rw[tp];simp)
    rw[iJ]
    unfold qe at hr ⊢
    rw[k6]at hr ⊢
    simp only[Q.bind,Nat.add_one_ne_zero,if_false]at hr ⊢
    cases SR:rd fr s with
    |nilsl=>
     rw[SR]at hr
     simp only at hr ⊢
     split at hr
     ·rename_i hb
      rw[if_pos hb]
      simp[nP,Q.run]at hr
      obtain⟨rfl,rfl⟩:=hr
      rfl
     ·simp[Q.run]at hr
    |sl c2 l2 e2=>
     rw[SR]at hr
     cases e2 with
     |false=>simp[Q.run]at hr
     |true=>
      simp only at hr ⊢
      split at hr
      ·rename_i hb
       rw[if_pos hb]
       simp[nP,Q.run]at hr
       obtain⟨rfl,rfl⟩:=hr
       rfl
      ·simp[Q.run]at hr
    |isl sp k g off len pn=>
     cases sp with
     |S=>rw[SR]at hs;simp[notS]at hs
     |L=>
      rw[SR]at hr
      simp only at hr ⊢
      split at hr
      ·rename_i hb
       rw[if_pos hb]
       simp only[Q.run]at hr
       generalize he:(St.mk fr lh sh).get .L k=e at hr
       obtain⟨g',ob⟩:=e
       simp only at hr
       split at hr
       ·rename_i hg
        cases ob with
        |none=>simp[Q.run]at hr
        |map a b c=>simp[Q.run]at hr
        |cells LY wm bx=>
         cases bx with
         |true=>simp[Q.run]at hr
         |false=>
          simp only at hr
          split at hr
          ·rename_i hl
           simp only[Q.run,Option.some.injEq,zl.val.injEq]at hr
           obtain⟨rfl,rfl⟩:=hr
           simp only[Q.asks,Q.log,he,hg,hl,if_true,iB,List.map_cons,List.map_nil,tO]
          ·simp[Q.run]at hr
       ·simp[Q.run]at hr
      ·simp[Q.run]at hr
    |_=>rw[SR]at hr;simp[Q.run]at hr
   ·obtain⟨v,ups,hr,iJ⟩:=vD (q:=qe dd sz bytes (rd fr s) (rd fr x) false false) (by rfl) (by rw[jE];rfl) jC
    unfold qe at hr
    rw[vf]at hr
    simp only[gU,hc,if_false,Q.bind,Q.run]at hr
    cases hr
 |_=>rw[vf]at hx;simp[isNe]at hx
def xQ:fg→Bool
 |⟨_,.cells _ _ bx⟩=>bx
 |_=>false
def Gw(lh:fC fg):T→Bool
 | .ptr .L k _ _=>xQ (be lh k)
 |_=>false
theorem MF{k g off:Nat}:Gw lh (.ptr .L k g off)=xQ (be lh k):=nr rfl
theorem D6{g wm:Nat}{cs:List T}{bx:Bool}:xQ ⟨g,.cells cs wm bx⟩=bx:=nr rfl
theorem ahY{x v:fM}{m:Nat}(hx:Gw lh (rd fr x)=true):fN E call n ((u,⟨none,.st x v m,none⟩)::ds) g8 ⟨fr,lh,sh⟩=
  if meets u g8 ⟨false,qS (rd fr x),qS (rd fr x)⟩=true then ke E call n ds (g8++ [⟨false,qS (rd fr x),qS (rd fr x)⟩]) (fi E call n [⟨none,.st x v m,none⟩] ⟨fr,lh,sh⟩)else none:=by
 refine tn fun jC=> ?_
 cases vf:rd fr x with
 |ptr sp k g off=>
  cases sp with
  |S=>rw[vf]at hx;simp[Gw]at hx
  |L=>
   obtain⟨w,ups,hr,iJ⟩:=vD (q:=sr (rd fr x) (rd fr v) m) (by rfl) (by rw[jE];rfl) jC
   rw[vf]at hx hr iJ
   simp only[Gw]at hx
   unfold sr at hr iJ
   split at hr
   ·simp[Q.run]at hr
   ·rename_i hb
    rw[if_neg hb]at iJ
    simp only[Q.run,Q.asks,Q.log]at hr iJ
    have hge:(St.mk fr lh sh).get .L k=be lh k:=rfl
    rw[hge]at hr iJ
    generalize be lh k=e at hx hr iJ
    obtain⟨g',ob⟩:=e
    cases ob with
    |none=>simp[xQ]at hx
    |map a b c=>simp[xQ]at hx
    |cells cs wm bx=>
     simp only[xQ]at hx
     subst hx
     simp only at hr iJ
     split at hr
     ·rename_i hg
      rw[if_pos hg]at iJ
      split at hr
      ·rename_i hc
       rw[if_pos hc]at iJ
       have EY:(true&&Sp.L==Sp.L)=true:=rfl
       simp only[EY,if_true,Q.run,Option.some.injEq,zl.val.injEq]at hr iJ
       obtain⟨rfl,rfl⟩:=hr
       exact iJ rfl
      ·simp[Q.run]at hr
     ·simp[Q.run]at hr
 |_=>rw[vf]at hx;simp[Gw]at hx
end
section
variable{α β:Type}[DecidableEq α]
def fO:List (α×β)→α→Option β
 | [],_=>none
 |p::m,a=>if a=p.1 then some p.2 else fO m a
def oj:List (α×β)→α→Option Nat
 | [],_=>none
 |p::m,a=>if a=p.1 then some 0 else(oj m a).map (· +1)
variable{ek:EK}{kT:α→T}{vT:β→T}
theorem D7(heq: ∀a b,tB ek (kT a) (kT b)=some (decide (a=b)))(a:α): ∀m:List (α×β),kB ek (kT a) (m.map fun p=>kT p.1)=some (oj m a)
 | []=>rfl
 |p::m=>by
  rw[List.map_cons,MA,heq,D7 heq a m,oj]
  by_cases h:a=p.1
  ·rw[decide_eq_true h,if_pos h];rfl
  ·rw[decide_eq_false h,if_neg h];rfl
theorem sL(a:α): ∀m:List (α×β),fO m a=(oj m a).bind fun i=>(m[i]?).map (·.2)
 | []=>rfl
 |p::m=>by
  rw[fO,oj]
  by_cases h:a=p.1
  ·rw[if_pos h,if_pos h];rfl
  ·rw[if_neg h,if_neg h,sL a m]
   cases oj m a <;> rfl
theorem wP(a:α): ∀(m:List (α×β)) (i:Nat),oj m a=some i→i<m.length
 | [],i,h=>by simp[oj]at h
 |p::m,i,h=>by
  rw[oj]at h
  split at h
  ·simp at h;subst h;simp
  ·cases hp:oj m a with
   |none=>rw[hp]at h;simp at h
   |some j=>
    rw[hp]at h
    simp at h
    have:=wP a m j hp
    subst h;simpa using this
theorem aaN(heq: ∀a b,tB ek (kT a) (kT b)=some (decide (a=b)))(hk: ∀a,isKey ek (kT a)=true)(m:List (α×β))(a:α)(z:T):
  mX ek (m.map fun p=>kT p.1) (m.map fun p=>vT p.2) (kT a) z true=some (match fO m a with|some v=> .tup [vT v,.b true]|none=> .tup [z,.b false]):=by
 rw[Ku (hk a),D7 heq,sL]
 cases hp:oj m a with
 |none=>rfl
 |some i=>
  have:=wP a m i hp
  rw[Gr]
  simp[List.getElem?_eq_getElem this]
theorem QE(heq: ∀a b,tB ek (kT a) (kT b)=some (decide (a=b)))(hk: ∀a,isKey ek (kT a)=true)(m:List (α×β))(a:α)(z:T):
  mX ek (m.map fun p=>kT p.1) (m.map fun p=>vT p.2) (kT a) z false=some (match fO m a with|some v=>vT v|none=>z):=by
 rw[Ku (hk a),D7 heq,sL]
 cases hp:oj m a with
 |none=>rfl
 |some i=>
  have:=wP a m i hp
  rw[Gr]
  simp[List.getElem?_eq_getElem this]
theorem wQ(heq: ∀a b,tB ek (kT a) (kT b)=some (decide (a=b)))(m:List (α×β))(a:α)(v:β)(h:fO m a=none):
  pH ek (kT a) (vT v) (m.map fun p=>kT p.1) (m.map fun p=>vT p.2)=some ((m++ [(a,v)]).map (fun p=>kT p.1),(m++ [(a,v)]).map (fun p=>vT p.2)):=by
 rw[UY,D7 heq]
 rw[sL]at h
 cases hp:oj m a with
 |none=>simp[MB]
 |some i=>
  have:=wP a m i hp
  rw[hp]at h
  simp[List.getElem?_eq_getElem this]at h
theorem pU(a b:α)(v:β): ∀m:List (α×β),fO (m++ [(b,v)]) a=match fO m a with|some u=>some u|none=>if a=b then some v else none
 | []=>by simp[fO]
 |p::m=>by
  rw[List.cons_append,fO,fO,pU a b v m]
  by_cases h:a=p.1 <;> simp[h]
end
end Go.Ev
namespace Go.Ev
open Go
theorem IF{vs:List T}:scalar (.tup vs)=vs.all FB:=by
 unfold scalar
 congr 1
theorem Vb{k:IntKind}{n:Int}:FB (.i k n)=true:=nr rfl
def IG(sh:List fg):List Up→List fg
 | []=>sh
 |(.L,_,_)::us=>IG sh us
 |(.S,k,e)::us=>IG (il sh k e) us
theorem AV: ∀(a:List Up) (sh:List fg) (b:List Up),IG sh (a++b)=IG (IG sh a) b
 | [],sh,b=>rfl
 |(.L,k,e)::a,sh,b=>AV a sh b
 |(.S,k,e)::a,sh,b=>AV a (il sh k e) b
theorem D8: ∀(us:List Up) (fr:Fr) (lh:fC fg) (sh:List fg),((St.mk fr lh sh).ups us).sh=IG sh us
 | [],_,_,_=>rfl
 |(.L,k,e)::us,fr,lh,sh=>D8 us fr (qm lh k e) sh
 |(.S,k,e)::us,fr,lh,sh=>D8 us fr lh (il sh k e)
def jk(lh:fC fg)(v:T)(k sz n:Nat)(cs:List T):Prop:=
 (n=0∧v= .nilsl∧cs= [])∨(∃g wm,v= .isl .L k g 0 n sz∧be lh k=⟨g,.cells cs wm false⟩∧cs.length=n*sz∧0<n)
def wR(n:Nat)(cs:List T):T:=if n=0 then .nilsl else .sl cs n false
theorem wS{n:Nat}{cs:List T}(h:n=0→cs= []):fD (wR n cs) n cs:=by
 unfold wR
 split
 ·rename_i h0;exact Or.inl ⟨rfl,h0,h h0⟩
 ·exact Or.inr ⟨false,rfl⟩
section
variable{lh:fC fg}{sh:List fg}{v:T}{k sz n:Nat}{cs:List T}
theorem jk.nil:jk lh .nilsl k sz 0 []:=Or.inl ⟨rfl,rfl,rfl⟩
theorem jk.len(h:jk lh v k sz n cs):cs.length=n*sz:=by
 rcases h with⟨rfl,_,rfl⟩|⟨g,wm,_,_,h,_⟩
 ·simp
 ·exact h
theorem jk.isl(h:jk lh v k sz n cs):fD (wR n cs) n cs:=wS fun h0=>by
 have:=h.len;rw[h0,Nat.zero_mul]at this;exact List.length_eq_zero_iff.1 this
theorem jk.congr{fH:fC fg}(h:jk lh v k sz n cs)(e:be fH k=be lh k):jk fH v k sz n cs:=by
 rcases h with h|⟨g,wm,h1,h2,h3,h4⟩
 ·exact Or.inl h
 ·exact Or.inr ⟨g,wm,h1,by rw[e,h2],h3,h4⟩
theorem jk.notS(h:jk lh v k sz n cs):Ev.notS v=true:=by
 rcases h with⟨_,rfl,_⟩|⟨g,wm,rfl,_⟩ <;> rfl
theorem jk.noTup(h:jk lh v k sz n cs):Ev.noTup v=true:=by
 rcases h with⟨_,rfl,_⟩|⟨g,wm,rfl,_⟩ <;> rfl
theorem jk.cells(h:jk lh v k sz n cs):cellsOf v= [v]:=by
 rcases h with⟨_,rfl,_⟩|⟨g,wm,rfl,_⟩ <;> rfl
def SS(lh:fC fg)(sh:List fg)(d sz bytes:Nat)(s x:T):T:=match Ev.appW lh sh d sz bytes s x with|some p=>p.1|none=>gf
def EZ(lh:fC fg)(sh:List fg)(d sz bytes:Nat)(s x:T):fC fg:=match Ev.appW lh sh d sz bytes s x with|some p=>p.2|none=>lh
theorem jk.appW{m bytes:Nat}{ps:List T}{x:T}(h:jk lh v k sz n cs)(hx:Ev.slC lh sh sz x=some (m+1,ps))(yE:ps.length=(m+1)*sz)(hr:(n+(m+1))*bytes≤roomy):
  Ev.appW lh sh k sz bytes v x=some (SS lh sh k sz bytes v x,EZ lh sh k sz bytes v x)∧jk (EZ lh sh k sz bytes v x) (SS lh sh k sz bytes v x) k sz (n+(m+1)) (cs++ps)∧ ∀j,j≠k→be (EZ lh sh k sz bytes v x) j=be lh j:=by
 have key: ∃v' fH,Ev.appW lh sh k sz bytes v x=some (v',fH)∧jk fH v' k sz (n+(m+1)) (cs++ps)∧ ∀j,j≠k→be fH j=be lh j:=by
  unfold Ev.appW
  rw[hx,Option.bind_some]
  rcases h with⟨rfl,rfl,rfl⟩|⟨g,wm,rfl,h2,h3,h4⟩
  ·rw[Gn,if_pos (by simpa using hr)]
   refine⟨_,_,rfl,Or.inr ⟨_,_,by rw[Nat.zero_add],xN _ _ _,by simpa using yE,by omega⟩,fun j hj=>gO _ _ hj⟩
  ·rw[Gp,h2,AP,if_pos ⟨rfl,rfl,hr,rfl,h3.symm⟩]
   refine⟨_,_,rfl,Or.inr ⟨_,_,rfl,xN _ _ _,by rw[List.length_append,h3,yE,Nat.add_mul n (m+1)],by omega⟩,fun j hj=>gO _ _ hj⟩
 obtain⟨v',fH,h1,h2,h3⟩:=key
 have e1:SS lh sh k sz bytes v x=v':=by unfold SS;rw[h1]
 have e2:EZ lh sh k sz bytes v x=fH:=by unfold EZ;rw[h1]
 rw[e1,e2]
 exact⟨h1,h2,h3⟩
def fzU(lh:fC fg):T→List Up
 | .isl .L k g _ _ _=>match be lh k with|⟨_,.cells cs _ _⟩=> [(.L,k,⟨g,.cells cs cs.length false⟩)]|_=> []
 |_=> []
theorem QF{sh:List fg}{lh:fC fg}{v:T}:IG sh (fzU lh v)=sh:=by
 unfold fzU
 split
 ·split <;> rfl
 ·rfl
theorem jk.fzW{m:Nat}{keep:Bool}(h:jk lh v k sz n cs):Ev.fzW m lh sh keep v=some (wR n cs,fzU lh v):=by
 rcases h with⟨rfl,rfl,rfl⟩|⟨g,wm,rfl,h2,h3,h4⟩
 ·rfl
 ·rw[Kt,h2,vC,if_pos ⟨rfl,by omega⟩,List.drop_zero,←h3,List.take_length]
  unfold wR fzU
  rw[if_neg (by omega)]
  simp only[h2]
theorem jk.fzV{keep:Bool}(h:jk lh v k sz n cs):Ev.fzV lh sh keep v=some (wR n cs,fzU lh v):=by
 rcases h with⟨rfl,rfl,rfl⟩|⟨g,wm,rfl,h2,h3,h4⟩
 ·rfl
 ·rw[Kl,h2,vC,if_pos ⟨rfl,by omega⟩,List.drop_zero,←h3,List.take_length]
  unfold wR fzU
  rw[if_neg (by omega)]
  simp only[h2]
theorem sM{d:Nat}(h:jk lh v k sz n cs)(hd:d=k):tO d v= [(.L,k)]:=by
 subst hd
 rcases h with⟨_,rfl,_⟩|⟨g,wm,rfl,_⟩ <;> rfl
end
def MG(lh:fC fg)(k i:Nat):T:=match be lh k with|⟨_,.cells cs _ _⟩=>cs.getD i gf|_=>gf
theorem Kw{lh:fC fg}{k g wm i:Nat}{cs:List T}{bx:Bool}(h:be lh k=⟨g,.cells cs wm bx⟩):MG lh k i=cs.getD i gf:=by unfold MG;rw[h]
theorem D9{lh:fC fg}{k g wm:Nat}{bx:Bool}{P:T→T→Prop}(h: ∃v1 v2,be lh k=⟨g,.cells [v1,v2] wm bx⟩∧P v1 v2):be lh k=⟨g,.cells [MG lh k 0,MG lh k 1] wm bx⟩∧P (MG lh k 0) (MG lh k 1):=by
 obtain⟨v1,v2,h1,h2⟩:=h
 rw[Kw h1,Kw h1]
 exact⟨h1,h2⟩
def ahZ(sh:List fg)(ek:EK)(m k v:T):Option (List fg):=match m with| .mp .S kk g=>IB sh kk (gC sh kk) g ek k v|_=>none
theorem Kx{sh:List fg}{ek:EK}{kk g:Nat}{k v:T}:ahZ sh ek (.mp .S kk g) k v=IB sh kk (gC sh kk) g ek k v:=nr rfl
theorem ah0{E:Env}{call:qz}{n:Nat}{fr:Fr}{lh:fC fg}{sh:List fg}{os:List fe}{ek:EK}{m k v:fM}(hm:IC (rd fr m)=true)(hf:froz (rd fr v)=true):fi E call n (⟨none,.mu ek m k v,none⟩::os) ⟨fr,lh,sh⟩=ks (fi E call n os) fr ((ahZ sh ek (rd fr m) (rd fr k) (rd fr v)).map fun fL=>(lh,fL)):=by
 cases h:rd fr m with
 |mp sp kk g=>
  cases sp with
  |L=>rw[h]at hm;simp[IC]at hm
  |S=>
   rw[ahV h hf,Kx]
   cases IB sh kk (gC sh kk) g ek (rd fr k) (rd fr v) <;> rfl
 |_=>rw[h]at hm;simp[IC]at hm
theorem fD.kept{v:T}{n:Nat}{cs:List T}(h:fD v n cs):kept v=true:=by
 rcases h with⟨rfl,_,_⟩|⟨ex,rfl⟩ <;> rfl
end Go.Ev
namespace Go.Ev
open Go
theorem MH(m:Nat)(hm:m≤62)(a:Int):Ev.bin .and (.i .u64 a) (.i .u64 (2 ^ m-1))=some (.i .u64 (a%2 ^ m)):=by
 have h2:(2:Int) ^ m=((2 ^ m:Nat):Int):=by norm_cast
 have ZL:0<2 ^ m:=Nat.two_pow_pos m
 have hle:2 ^ m≤2 ^ 62:=Nat.pow_le_pow_right (by omega) hm
 have ah1:(BitVec.ofInt 64 ((2:Int) ^ m-1)).toNat=2 ^ m-1:=by
  rw[BitVec.toNat_ofInt,h2]
  have:((2 ^ m:Nat):Int)-1=((2 ^ m-1:Nat):Int):=by omega
  rw[this]
  have h3:((2 ^ m-1:Nat):Int)%((2 ^ 64:Nat):Int)=((2 ^ m-1:Nat):Int):=Int.emod_eq_of_lt (by omega) (by omega)
  rw[h3];rfl
 have hand:(BitVec.ofInt 64 a &&& BitVec.ofInt 64 ((2:Int) ^ m-1)).toNat=(a%2 ^ m).toNat:=by
  rw[BitVec.toNat_and,ah1,Nat.and_two_pow_sub_one_eq_mod,BitVec.toNat_ofInt]
  have Wq:0≤a%((2 ^ 64:Nat):Int):=Int.emod_nonneg _ (by omega)
  have h4:(a%((2 ^ 64:Nat):Int))%((2 ^ m:Nat):Int)=a%((2 ^ m:Nat):Int):=Int.emod_emod_of_dvd a (by
   have:(2 ^ m:Nat)∣2 ^ 64:=Nat.pow_dvd_pow 2 (by omega)
   exact Int.natCast_dvd_natCast.2 this)
  have h5:(((a%((2 ^ 64:Nat):Int)).toNat%2 ^ m:Nat):Int)=a%((2 ^ m:Nat):Int):=by
   rw[Int.natCast_emod,Int.toNat_of_nonneg Wq,h4]
  rw[h2,←h5];exact(Int.toNat_natCast _).symm
 have hb:(IntKind.u64).bits=64:=rfl
 simp only[Ev.bin,if_true,tA]
 have hr0:0≤a%2 ^ m:=by rw[h2];exact Int.emod_nonneg _ (by omega)
 have X3:a%2 ^ m<2 ^ m:=by rw[h2];exact Int.emod_lt_of_pos _ (by omega)
 have hw:IntKind.wrap .u64 ((BitVec.ofInt (IntKind.u64).bits a &&& BitVec.ofInt (IntKind.u64).bits ((2:Int) ^ m-1)).toNat:Int)=a%2 ^ m:=by
  show IntKind.wrap .u64 (((BitVec.ofInt 64 a &&& BitVec.ofInt 64 ((2:Int) ^ m-1)).toNat:Nat):Int)=_
  rw[hand,Int.toNat_of_nonneg hr0]
  unfold IntKind.wrap
  simp only[hb]
  have h6:(a%2 ^ m)%(2 ^ 64:Int)=a%2 ^ m:=Int.emod_eq_of_lt hr0 (by
   have:(2:Int) ^ m≤2 ^ 62:=by rw[h2];exact_mod_cast hle
   omega)
  rw[h6,if_neg]
  intro hc
  simp only[Bool.and_eq_true,decide_eq_true_eq,ge_iff_le]at hc
  have:(2:Int) ^ m≤2 ^ 62:=by rw[h2];exact_mod_cast hle
  have h7:=hc.2
  omega
 rw[hw]
theorem Vc{a:Int}:Ev.bin .and (.i .u64 a) (.i .u64 4294967295)=some (.i .u64 (a%4294967296)):=MH 32 (by omega) a
theorem QG{k':IntKind}{a:Int}{b:Nat}(h:b≤64):Ev.bin .shr (.i .u64 a) (.i k' (b:Int))=some (.i .u64 (a/2 ^ b)):=by
 rw[UN,if_neg (by omega),Int.toNat_natCast]
 have:min b (IntKind.u64).bits=b:=Nat.min_eq_left h
 rw[this,Int.fdiv_eq_ediv_of_nonneg]
 exact Int.le_of_lt (Int.pow_pos (by omega))
theorem Vd{k':IntKind}{a:Int}:Ev.bin .shr (.i .u64 a) (.i k' 32)=some (.i .u64 (a/4294967296)):=QG (b:=32) (by omega)
theorem Ve{a b:Int}(ha:a=0∨a=1)(hb:b=0∨b=1):Ev.bin .and (.i .i64 a) (.i .i64 b)=some (.i .i64 (min a b)):=by
 rcases ha with rfl|rfl <;> rcases hb with rfl|rfl <;> rfl
theorem QH{a b:Int}(ha:a=0∨a=1)(hb:b=0∨b=1):Ev.bin .or (.i .i64 a) (.i .i64 b)=some (.i .i64 (max a b)):=by
 rcases ha with rfl|rfl <;> rcases hb with rfl|rfl <;> rfl
def QI(lh:fC fg)(k:Nat):List T:=match be lh k with|⟨_,.cells cs _ _⟩=>cs|_=> []
theorem Vf{lh:fC fg}{k g wm:Nat}{cs:List T}{bx:Bool}(h:be lh k=⟨g,.cells cs wm bx⟩):QI lh k=cs:=by unfold QI;rw[h]
theorem QJ{lh:fC fg}{k g wm:Nat}{bx:Bool}{P:List T→Prop}(h: ∃cs,be lh k=⟨g,.cells cs wm bx⟩∧P cs):be lh k=⟨g,.cells (QI lh k) wm bx⟩∧P (QI lh k):=by
 obtain⟨cs,h1,h2⟩:=h
 rw[Vf h1];exact⟨h1,h2⟩
end Go.Ev
set_option autoImplicit false
namespace Go.Ev
def uY(R:List T→Prop):Nat→List T→Prop
 |0,ts=>ts= []
 |n+1,ts=> ∃p r,ts=p++r∧R p∧uY R n r
def Vg(R:TypeId→List T→Prop):List TypeId→List T→Prop
 | [],ts=>ts= []
 |f::fs,ts=> ∃p r,ts=p++r∧R f p∧Vg R fs r
def iT(P:Program):Nat→TypeId→List T→Prop
 |0,_,_=>False
 |n+1,t,ts=>match P.underlying t with
  |some .bool=> ∃b,ts= [.b b]
  |some (.int k)=> ∃x,ts= [.i k x]
  |some .string=> ∃s,ts= [.s s]∧s.length≤reachBytes
  |some (.slice e)=> ∃v len cc,ts= [v]∧fD v len cc∧len*P.bytesOf e≤reachBytes∧uY (iT P n e) len cc
  |some (.struct fs)=>Vg (iT P n) (fs.toList.map (·.type)) ts
  |some (.array m e)=>uY (iT P n e) m ts
  |_=>False
def Gx(P:Program)(S:List TypeId):List Field→Nat→Nat→Bool
 | [],o,n=>o==n
 |f::fs,o,n=>f.offset==o&&S.contains f.type&&Gx P S fs (o+P.cellsOf f.type) n
def aaO(P:Program)(S:List TypeId)(t:TypeId):Bool:=match P.underlying t with
 |some .bool=>true
 |some (.int _)=>true
 |some .string=>true
 |some (.slice e)=>S.contains e&&decide (0<P.cellsOf e)
 |some (.struct fs)=>Gx P S fs.toList 0 (P.cellsOf t)
 |some (.array m e)=>S.contains e&&m*P.cellsOf e==P.cellsOf t
 |_=>false
def M0:fE:=fun _ _=>False
theorem PList.cat{w:World}{M:fE}: ∀{ts us:List T} {vs xs:List Value},PList w M ts vs→PList w M us xs→PList w M (ts++us) (vs++xs)
 | [],us,vs,xs,h1,h2=>by simp only[PList]at h1;subst h1;exact h2
 |t::ts,us,vs,xs,h1,h2=>by
  simp only[PList]at h1
  obtain⟨u,r,rfl,h3,h4⟩:=h1
  simp only[List.cons_append,PList]
  exact⟨u,_,rfl,h3,PList.cat h4 h2⟩
variable{H:Type}{enc:TypeId×Value→H}{P:Program}{w:World}{base:Nat}{held:Bool}
def Tree(P:Program)(w:World)(n:Nat)(t:TypeId)(cs:List Value):Prop:= ∃ts,PList w M0 ts cs∧ts.all single=true∧iT P n t ts
theorem yN{n:Nat}{S:List TypeId}{sp:Nat→Bool}
  (ih: ∀t cs d ps,t∈S→DataW.trod enc P w base sp held n t cs=some (d,ps)→(∀x∈d.weights P t,x≤reachBytes)→Tree P w n t cs):
  ∀(fs:List Field) (o m:Nat) (cs:List Value) (xs:List (DataW H×List MemPlace)),Gx P S fs o m=true→cs.length=m→
   (fs.mapM fun f=>DataW.trod enc P w base sp held n f.type ((cs.drop f.offset).take (P.cellsOf f.type)))=some xs→
   (∀x∈DataW.weightsEach P (fs.map (·.type)) (xs.map (·.1)),x≤reachBytes)→
   ∃ts,PList w M0 ts (cs.drop o)∧ts.all single=true∧Vg (iT P n) (fs.map (·.type)) ts
 | [],o,m,cs,xs,hl,hc,hx,hw=>by
   simp[Gx]at hl
   refine⟨[], ?_,rfl,rfl⟩
   simp only[PList]
   rw[hl,←hc,List.drop_length]
 |f::fs,o,m,cs,xs,hl,hc,hx,hw=>by
  simp only[Gx,Bool.and_eq_true,beq_iff_eq,List.contains_iff_mem]at hl
  obtain⟨⟨h1,h2⟩,h3⟩:=hl
  rw[List.mapM_cons]at hx
  simp only[Option.bind_eq_bind,Option.bind_eq_some_iff,Option.pure_def,Option.some.injEq]at hx
  obtain⟨⟨d,ps⟩,hd,ys,hy,rfl⟩:=hx
  simp only[List.map_cons,DataW.weightsEach,List.mem_append]at hw
  obtain⟨ts,t1,t2,t3⟩:=ih _ _ _ _ h2 hd fun x hx=>hw x (.inl hx)
  obtain⟨us,u1,u2,u3⟩:=yN ih fs _ m cs ys h3 hc hy fun x hx=>hw x (.inr hx)
  refine⟨ts++us, ?_,by rw[List.all_append,t2,u2];rfl,ts,us,rfl,t3,u3⟩
  have:=t1.cat u1
  rwa [h1,←List.drop_drop,List.take_append_drop]at this
theorem CT(b o i:Nat):(Addr.mk b o none).add i=⟨b,o+i,none⟩:=by
 unfold Addr.add
 split
 ·rename_i h0;rw[h0];rfl
 ·rfl
theorem CU{w:World}{blk:Nat}: ∀(ts:List T) (cs:List Value) (off:Nat),PList w M0 ts cs→ts.all single=true→(∀i v,cs[i]? =some v→w.cell? ⟨blk,off+i,none⟩=some v)→fI w M0 blk off ts
 | [],_,_,_,_,_=>by simp only[fI]
 |t::ts,cs,off,h,hs,hc=>by
  simp only[PList]at h
  obtain⟨u,us,rfl,h1,h2⟩:=h
  simp only[List.all_cons,Bool.and_eq_true]at hs
  simp only[fI]
  refine⟨⟨u,hc 0 u rfl,fun h=>h,h1,hs.1⟩,CU ts us (off+1) h2 hs.2 fun i v hv=> ?_⟩
  have:=hc (i+1) v (by simpa using hv)
  rwa [Nat.add_assoc,Nat.add_comm 1 i]
theorem AW{w:World}{blk:Nat}: ∀{ts us:List T} {off:Nat},fI w M0 blk off ts→fI w M0 blk (off+ts.length) us→fI w M0 blk off (ts++us)
 | [],_,_,_,h2=>h2
 |t::ts,us,off,h1,h2=>by
  simp only[fI]at h1
  simp only[List.cons_append,fI]
  refine⟨h1.1,AW h1.2 ?_⟩
  rwa [List.length_cons,Nat.add_comm ts.length 1,←Nat.add_assoc]at h2
theorem QK{b o n:Nat}{cs:List Value}(h:w.cells? base ⟨b,o,none⟩ n=some cs):cs.length=n∧ ∀i v,cs[i]? =some v→w.cell? ⟨b,o+i,none⟩=some v:=by
 unfold World.cells? at h
 split at h
 ·have hl:=mapM_some_length h
  rw[List.length_range]at hl
  refine⟨hl,fun i v hv=> ?_⟩
  have hi:i<n:=by rw[←hl];exact(List.getElem?_eq_some_iff.1 hv).1
  have:=mapM_some_get h i i (by rw[List.getElem?_range hi])
  rw[CT]at this
  rw[this,hv]
 ·cases h
theorem CV{n:Nat}{e:TypeId}{c:Nat}{sp:Nat→Bool}{b o:Nat}
  (ih: ∀cs d ps,DataW.trod enc P w base sp held n e cs=some (d,ps)→(∀x∈d.weights P e,x≤reachBytes)→Tree P w n e cs):
  ∀(len i:Nat) (xs:List (DataW H×List MemPlace)),
   ((List.range' i len).mapM fun i=>(w.cells? base ((Addr.mk b o none).add (i*c)) c).bind (DataW.trod enc P w base sp held n e))=some xs→
   (∀x∈DataW.weightsAll P e (xs.map (·.1)),x≤reachBytes)→ ∃cc,fI w M0 b (o+i*c) cc∧uY (iT P n e) len cc
 |0,i,xs,h,hw=>⟨[],by simp only[fI],rfl⟩
 |len+1,i,xs,h,hw=>by
  rw[List.range'_succ,List.mapM_cons]at h
  simp only[Option.bind_eq_bind,Option.bind_eq_some_iff,Option.pure_def,Option.some.injEq]at h
  obtain⟨⟨d,ps⟩,⟨cs,hc,hd⟩,ys,hy,rfl⟩:=h
  simp only[List.map_cons,DataW.weightsAll,List.mem_append]at hw
  obtain⟨ts,t1,t2,t3⟩:=ih _ _ _ hd fun x hx=>hw x (.inl hx)
  obtain⟨us,u1,u3⟩:=CV ih len (i+1) ys hy fun x hx=>hw x (.inr hx)
  rw[CT]at hc
  obtain⟨c1,c2⟩:=QK hc
  have hl:ts.length=c:=by rw[←c1];exact PList.length _ _ t1
  refine⟨ts++us,AW (CU ts cs _ t1 t2 c2) ?_,ts,us,rfl,t3,u3⟩
  rwa [hl,Nat.add_assoc,←Nat.succ_mul]
theorem CW{a:Addr}{n:Nat}{cs:List Value}(h:w.cells? base a n=some cs)(hn:0<n):a.spot=none:=by
 unfold World.cells? at h
 split at h
 ·have hl:=mapM_some_length h
  rw[List.length_range]at hl
  have:=mapM_some_get h 0 0 (by rw[List.getElem?_range hn])
  rw[List.getElem?_eq_getElem (by omega)]at this
  exact World.cell?_spot (a:=a) (by simpa[Addr.add]using this)
 ·cases h
theorem Gy{n:Nat}{e:TypeId}{c:Nat}{sp:Nat→Bool}
  (ih: ∀cs d ps,DataW.trod enc P w base sp held n e cs=some (d,ps)→(∀x∈d.weights P e,x≤reachBytes)→Tree P w n e cs):
  ∀(len i:Nat) (cs:List Value) (xs:List (DataW H×List MemPlace)),cs.length=(i+len)*c→
   ((List.range' i len).mapM fun i=>DataW.trod enc P w base sp held n e ((cs.drop (i*c)).take c))=some xs→
   (∀x∈DataW.weightsAll P e (xs.map (·.1)),x≤reachBytes)→ ∃ts,PList w M0 ts (cs.drop (i*c))∧ts.all single=true∧uY (iT P n e) len ts
 |0,i,cs,xs,hl,h,hw=>⟨[],by simp only[PList];rw[Nat.add_zero]at hl;rw[←hl,List.drop_length],rfl,rfl⟩
 |len+1,i,cs,xs,hl,h,hw=>by
  rw[List.range'_succ,List.mapM_cons]at h
  simp only[Option.bind_eq_bind,Option.bind_eq_some_iff,Option.pure_def,Option.some.injEq]at h
  obtain⟨⟨d,ps⟩,hd,ys,hy,rfl⟩:=h
  simp only[List.map_cons,DataW.weightsAll,List.mem_append]at hw
  obtain⟨ts,t1,t2,t3⟩:=ih _ _ _ hd fun x hx=>hw x (.inl hx)
  obtain⟨us,u1,u2,u3⟩:=Gy ih len (i+1) cs ys (by rw[hl];congr 1;omega) hy fun x hx=>hw x (.inr hx)
  refine⟨ts++us, ?_,by rw[List.all_append,t2,u2];rfl,ts,us,rfl,t3,u3⟩
  have:=t1.cat u1
  rwa [Nat.succ_mul,←List.drop_drop,List.take_append_drop]at this
theorem trees_of{S:List TypeId}(hS: ∀t∈S,aaO P S t=true): ∀(n:Nat) (t:TypeId) (cs:List Value) (d:DataW H) (ps:List MemPlace),t∈S→
  DataW.trod enc P w base (fun _=>true) held n t cs=some (d,ps)→(∀x∈d.weights P t,x≤reachBytes)→Tree P w n t cs
 |0,t,cs,d,ps,_,h,_=>by simp[DataW.trod]at h
 |n+1,t,cs,d,ps,ht,h,hw=>by
  have ok:=hS t ht
  have ih:=fun t cs d ps=>trees_of hS n t cs d ps
  unfold aaO at ok
  unfold Tree iT
  cases hu:P.underlying t with
  |none=>rw[hu]at ok;cases ok
  |some u=>
  rw[hu]at ok
  cases u with
  |int k=>
   obtain⟨x,rfl,_⟩:=DataW.trod_int hu h
   exact⟨[.i k x],by simp only[PList,PRel];exact⟨_,_,rfl,rfl,rfl⟩,rfl,x,rfl⟩
  |bool=>
   obtain⟨b,rfl,_⟩:=DataW.trod_bool hu h
   exact⟨[.b b],by simp only[PList,PRel];exact⟨_,_,rfl,rfl,rfl⟩,rfl,b,rfl⟩
  |array m e=>
   simp only[Bool.and_eq_true,List.contains_iff_mem,beq_iff_eq]at ok
   obtain⟨xs,n',hn,hx,hlen,hxl,hf⟩:=DataW.trod_array hu h
   injection hn with hn
   subst hn
   injection hx with hx _
   subst hx
   simp only[DataW.weights,hu]at hw
   have:=Gy (enc:=enc) (base:=base) (held:=held) (c:=P.cellsOf e) (fun cs d ps=>ih e cs d ps ok.1) m 0 cs xs (by rw[Nat.zero_add,hlen,ok.2]) (mapM_some_of_get _ _ (by rw[hxl,List.length_range']) fun i x hx=>by
    obtain⟨h1,h2⟩:=List.getElem?_eq_some_iff.1 hx
    rw[List.length_range']at h1
    rw[List.getElem_range',Nat.zero_add,Nat.one_mul]at h2
    subst h2
    exact hf i h1) hw
   simpa using this
  |string=>
   obtain⟨s,rfl,e,_⟩:=DataW.trod_string hu h
   injection e with e1 e2
   subst e1
   refine⟨[.s (ga s)],by simp only[PList,PRel];exact⟨_,_,rfl,⟨s,rfl,rfl⟩,rfl⟩,rfl,_,rfl, ?_⟩
   have:=hw s.data.toList.length (by simp[DataW.weights])
   unfold ga
   rwa [List.length_map]
  |slice e=>
   simp only[Bool.and_eq_true,List.contains_iff_mem,decide_eq_true_eq]at ok
   obtain⟨he,hc⟩:=ok
   rcases DataW.trod_slice hu h with⟨rfl,_⟩|⟨⟨b,o,sp⟩,len,cap,elems,rest,n',hn,rfl,hx,_,hl,_,hlen,hel,hre,_⟩
   ·exact⟨[.nilsl],by simp only[PList,PRel];exact⟨_,_,rfl,rfl,rfl⟩,rfl,.nilsl,0,[],rfl,.inl ⟨rfl,rfl,rfl⟩,by simp,rfl⟩
   ·injection hn with hn
    subst hn
    injection hx with hx _
    subst hx
    simp only[DataW.weights,hu,List.mem_cons,List.mem_append,List.length_map]at hw
    obtain⟨X3,ZO⟩:=hre rfl
    have Nq:sp=none∨cap=0:=by
     by_cases h0:cap=0
     ·exact .inr h0
     ·left
      by_cases h1:len=0
      ·have:=ZO 0 (by omega)
       rw[h1,List.getElem?_eq_getElem (by omega)]at this
       simp only[Nat.add_zero,Nat.zero_mul,Option.bind_eq_some_iff]at this
       obtain⟨c,hc',_⟩:=this
       exact CW (a:=⟨b,o,sp⟩) (by simpa[Addr.add]using hc') hc
      ·have:=hel 0 (by omega)
       rw[List.getElem?_eq_getElem (by omega)]at this
       simp only[Nat.zero_mul,Option.bind_eq_some_iff]at this
       obtain⟨c,hc',_⟩:=this
       exact CW (a:=⟨b,o,sp⟩) (by simpa[Addr.add]using hc') hc
    have am3: ∃cc,fI w M0 b o cc∧uY (iT P n e) len cc:=by
     rcases Nq with rfl|h0
     ·have:=CV (base:=base) (enc:=enc) (held:=held) (c:=P.cellsOf e) (b:=b) (o:=o) (fun cs d ps=>ih e cs d ps he) len 0 elems
       (mapM_some_of_get _ _ (by rw[hlen,List.length_range']) fun i x hx=>by
         obtain⟨h1,h2⟩:=List.getElem?_eq_some_iff.1 hx
         rw[List.length_range']at h1
         rw[List.getElem_range',Nat.zero_add,Nat.one_mul]at h2
         subst h2
         exact hel i h1) fun x hx=>hw x (.inr (.inl hx))
      simpa using this
     ·have:len=0:=by omega
      subst this
      exact⟨[],by simp only[fI],rfl⟩
    obtain⟨cc,k1,k2⟩:=am3
    refine⟨[.sl cc len false], ?_,rfl,_,len,cc,rfl,.inr ⟨false,rfl⟩, ?_,k2⟩
    ·simp only[PList,PRel]
     exact⟨_,_,rfl,⟨b,o,cap,sp,rfl,hl,(fun h=>by cases h),Nq,k1⟩,rfl⟩
    ·refine Nat.le_trans (Nat.mul_le_mul_right _ ?_) (hw _ (.inl rfl))
     omega
  |struct fs=>
   obtain⟨xs,n',hn,hx,hlen,hxl,hf⟩:=DataW.trod_struct hu h
   injection hn with hn
   subst hn
   injection hx with hx _
   subst hx
   simp only[DataW.weights,hu]at hw
   have:=yN (enc:=enc) (base:=base) (held:=held) ih fs.toList 0 _ cs xs ok hlen (mapM_some_of_get _ _ (by rw[hxl,Array.length_toList]) fun i x hx=>hf i x (by simpa using hx)) hw
   simpa using this
  |_=>cases ok
def jb(P:Program)(t:TypeId):Option (List TypeId):=match P.underlying t with
 |some (.struct fs)=>some (fs.toList.map (·.type))
 |_=>none
def Ea(P:Program)(t:TypeId):Option TypeId:=match P.underlying t with
 |some (.slice e)=>some e
 |_=>none
theorem iT.st{n:Nat}{t:TypeId}{l:List TypeId}{ts:List T}(h:iT P (n+1) t ts)(hf:jb P t=some l):Vg (iT P n) l ts:=by
 unfold jb at hf
 unfold iT at h
 split at hf
 ·rename_i fs hu;rw[hu]at h;injection hf with hf;subst hf;exact h
 ·cases hf
def QL(P:Program)(t:TypeId):Option (Nat×TypeId):=match P.underlying t with
 |some (.array m e)=>some (m,e)
 |_=>none
theorem iT.arr{n m:Nat}{t e:TypeId}{ts:List T}(h:iT P (n+1) t ts)(hf:QL P t=some (m,e)):uY (iT P n e) m ts:=by
 unfold QL at hf
 unfold iT at h
 split at hf
 ·rename_i a b hu;rw[hu]at h;injection hf with hf;injection hf with h1 h2;subst h1 h2;exact h
 ·cases hf
theorem iT.row{n:Nat}{t e:TypeId}{ts:List T}(h:iT P (n+1) t ts)(hf:Ea P t=some e): ∃v len cc,ts= [v]∧fD v len cc∧len*P.bytesOf e≤reachBytes∧uY (iT P n e) len cc:=by
 unfold Ea at hf
 unfold iT at h
 split at hf
 ·rename_i hu;rw[hu]at h;injection hf with hf;subst hf;exact h
 ·cases hf
end Go.Ev
namespace Go.Ev
open Go
theorem Vh{E:Env}{n:Nat}{os BP:List fe}{b:fm}{st s1 s2 t1 t2:St}{o:Out}(h1:fi E (fj E) n os st=some s1)(h2:fi E (fj E) n BP st=some s2)(g1:DC E n b s1=some (o,t1))(g2:DC E n b s2=some (o,t2))(hs:Ad (xG os++gY b) t1 t2):DC E n (.fork os BP b) st=some (o,rH (xG os++gY b) t1 t2):=by
 rw[iC]
 obtain⟨m1,h1⟩:=uy os h1
 obtain⟨m2,h2⟩:=uy BP h2
 obtain⟨m3,g1⟩:=iC.1 g1
 obtain⟨m4,g2⟩:=iC.1 g2
 have l1:m1≤m1+m2+m3+m4:=by omega
 have l2:m2≤m1+m2+m3+m4:=by omega
 have l3:m3≤m1+m2+m3+m4:=by omega
 have l4:m4≤m1+m2+m3+m4:=by omega
 refine⟨m1+m2+m3+m4, ?_⟩
 simp only[la,ls (gL l1) os h1,ls (gL l2) BP h2,iH (gL l3) l3 b g1,iH (gL l4) l4 b g2,JS]
 rw[if_pos ⟨rfl,hs⟩]
theorem QM{E:Env}{n:Nat}{os BP:List fe}{b:fm}{fr f1 f2:Fr}{lh l1 l2:fC fg}{sh fL:List fg}{s1 s2:St}(hw:xG BP=xG os)(h1:fi E (fj E) n os ⟨fr,lh,sh⟩=some s1)(h2:fi E (fj E) n BP ⟨fr,lh,sh⟩=some s2)(g1:DC E n b s1=some (.nrm,⟨f1,l1,fL⟩))(g2:DC E n b s2=some (.nrm,⟨f2,l2,fL⟩))(hO: ∀k,k∉xG os++gY b→be l1 k=be l2 k):
  ∃(fR:Fr) (fH:fC fg),DC E n (.fork os BP b) ⟨fr,lh,sh⟩=some (.nrm,⟨fR,fH,fL⟩)∧(∀k,k∉xG os++gY b→an fR k=an fr k)∧ ∀k,k∉xG os++gY b→be fH k=be l1 k:=by
 have p: ∀{os2:List fe} {s:St} {f:Fr} {l:fC fg},xG os2=xG os→fi E (fj E) n os2 ⟨fr,lh,sh⟩=some s→DC E n b s=some (.nrm,⟨f,l,fL⟩)→ ∀k,k∉xG os++gY b→an f k=an fr k:=by
  intro os2 s f l hw h g k hk
  simp only[List.mem_append,not_or]at hk
  have a:=pL g k (by simpa using hk.2)
  have c:=sJ os2 h k (by rw[hw];exact hk.1)
  exact a.trans c
 have AX:=p rfl h1 g1
 have hf2:=p hw h2 g2
 refine⟨_,_,Vh h1 h2 g1 g2 ⟨rfl,fun k hk=>(AX k hk).trans (hf2 k hk).symm,hO⟩,fun k hk=> ?_,fun k hk=> ?_⟩
 ·rw[rP,if_neg hk];exact AX k hk
 ·show fC.get jq (Ac _ l1 l2) k=_
  rw[CF,if_neg hk];rfl
def qU:fm→fm
 | .fork os _ b=> .seq (.region os) b
 |c=>c
def qV:fm→fm
 | .fork _ BP b=> .seq (.region BP) b
 |c=>c
def Vi:fm→Bool
 | .fork os BP _=>decide (xG BP=xG os)
 |_=>false
theorem AY{E:Env}{n:Nat}{os:List fe}{b:fm}{st t:St}{o:Out}(h:DC E n (.seq (.region os) b) st=some (o,t)): ∃s,fi E (fj E) n os st=some s∧DC E n b s=some (o,t):=by
 rw[Py,CH]at h
 cases hs:fi E (fj E) n os st with
 |none=>rw[hs]at h;cases h
 |some s=>rw[hs]at h;exact⟨s,rfl,h⟩
theorem Vj{E:Env}{n:Nat}{c:fm}{fr f1 f2:Fr}{lh l1 l2:fC fg}{sh fL:List fg}(hc:Vi c=true)(g1:DC E n (qU c) ⟨fr,lh,sh⟩=some (.nrm,⟨f1,l1,fL⟩))(g2:DC E n (qV c) ⟨fr,lh,sh⟩=some (.nrm,⟨f2,l2,fL⟩))(hO: ∀k,(gY c).contains k=false→be l1 k=be l2 k):
  ∃(fR:Fr) (fH:fC fg),DC E n c ⟨fr,lh,sh⟩=some (.nrm,⟨fR,fH,fL⟩)∧(∀k,(gY c).contains k=false→an fR k=an fr k)∧ ∀k,(gY c).contains k=false→be fH k=be l1 k:=by
 cases c with
 |fork os BP b=>
  obtain⟨s1,e1,g1⟩:=AY g1
  obtain⟨s2,e2,g2⟩:=AY g2
  have key: ∀k,(gY (.fork os BP b)).contains k=false↔k∉xG os++gY b:=by
   intro k
   show(xG os++gY b).contains k=false↔_
   simp
  obtain⟨fR,fH,q1,q2,q3⟩:=QM (of_decide_eq_true hc) e1 e2 g1 g2 (fun k hk=>hO k ((key k).2 hk))
  exact⟨fR,fH,q1,fun k hk=>q2 k ((key k).1 hk),fun k hk=>q3 k ((key k).1 hk)⟩
 |_=>cases hc
section
variable{k:IntKind}{a b:Int}{s t:List Nat}
theorem bnd{p:Prop}[Decidable p]:(some (T.b (decide p)):Option T)=if p then some (.b true)else some (.b false):=by by_cases h:p <;> simp[h]
theorem QN:Ev.bin .lss (.i k a) (.i k b)=if a<b then some (.b true)else some (.b false):=Kn.trans bnd
theorem QO:Ev.bin .leq (.i k a) (.i k b)=if a≤b then some (.b true)else some (.b false):=Ko.trans bnd
theorem QP:Ev.bin .gtr (.i k a) (.i k b)=if b<a then some (.b true)else some (.b false):=Kp.trans bnd
theorem QQ:Ev.bin .geq (.i k a) (.i k b)=if b≤a then some (.b true)else some (.b false):=Kq.trans bnd
theorem MI:Ev.bin .eql (.s s) (.s t)=if s=t then some (.b true)else some (.b false):=Gk.trans bnd
end
theorem ifl{α:Type}{p:Prop}[Decidable p]{a b c:α}(h1:p→a=c)(h2: ¬p→b=c):(if p then a else b)=c:=by by_cases h:p <;> simp[h,h1,h2]
def Gd(I:St→Prop)(R:Out→St→Prop)(x:Option (Out×St)):Prop:= ∃o st,x=some (o,st)∧((o= .nrm∧I st)∨(o≠ .nrm∧R o st))
section
variable{I:St→Prop}{R:Out→St→Prop}{p:Prop}[Decidable p]{x y:Option (Out×St)}{st:St}{i:Nat}
theorem QR(h1:p→Gd I R x)(h2: ¬p→Gd I R y):Gd I R (if p then x else y):=by by_cases h:p <;> simp[h,h1,h2]
theorem qq(h:I st):Gd I R (some (.nrm,st)):=⟨_,_,rfl,.inl ⟨rfl,h⟩⟩
theorem po(h:R (.ext i) st):Gd I R (some (.ext i,st)):=⟨_,_,rfl,.inr ⟨by simp,h⟩⟩
theorem xR(h:R .ret st):Gd I R (some (.ret,st)):=⟨_,_,rfl,.inr ⟨by simp,h⟩⟩
end
theorem oD{E:Env}{n:Nat}{a:fm}(I:Nat→St→Prop)(P:Fr→fC fg→List fg→Prop)(o:Out)(N:Nat)
  (step: ∀k st,k<N→I k st→Gd (I (k+1)) (fun o' gj=>o'=o∧P gj.fr gj.lh gj.sh) (DC E n a st))
  (last: ∀st,I N st→Gd (fun _=>False) (fun o' gj=>o'=o∧P gj.fr gj.lh gj.sh) (DC E n a st)) (fr:Fr) (lh:fC fg) (sh:List fg) (h0:I 0 ⟨fr,lh,sh⟩):
  DC E n (.loop a) ⟨fr,lh,sh⟩=some (o,⟨gr E n a fr lh sh,gp E n a fr lh sh,gn E n a fr lh sh⟩)∧P (gr E n a fr lh sh) (gp E n a fr lh sh) (gn E n a fr lh sh):=by
 refine fq (fw I _ N (fun k st hk hi=> ?_) (fun st hi=> ?_) 0 _ (Nat.zero_le _) h0)
 ·obtain⟨o',gj,e,h|h⟩:=step k st hk hi
  ·obtain⟨rfl,h⟩:=h;exact .inl ⟨_,e,h⟩
  ·exact .inr ⟨_,_,h.1,e,h.2⟩
 ·obtain⟨o',gj,e,h|h⟩:=last st hi
  ·exact h.2.elim
  ·exact⟨_,_,h.1,e,h.2⟩
end Go.Ev
