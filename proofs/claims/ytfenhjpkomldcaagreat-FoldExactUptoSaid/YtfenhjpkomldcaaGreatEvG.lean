/- A tree evaluator over the model, proved against it (part G): where it answers, the call returns that answer. Conditions: none beyond its theorems' own. -/
import Derived.Test.YtfenhjpkomldcaaGreatEvF
import GoSem.ClaimJoined
import Derived.ChangeArms
import Derived.DataShut
set_option linter.unusedSimpArgs false
set_option linter.unusedVariables false
namespace Go.Ev
open Go
def kept1:T→Bool
 | .isl .S .. | .ptr .S .. | .mp .S .. =>true
 |t=>froz1 t
def kept:T→Bool
 | .agg cs=>cs.all kept1
 | .tup cs=>cs.all kept1
 | .fn _ a c=>a.all kept1&&c.all kept1
 |t=>kept1 t
theorem xJ{n:Nat}{t:T}(h:kept1 t=true):fz true (n+1) t= .ret (t,[]):=by
 cases t with
 |isl sp k g off len sz=>cases sp with|S=>rfl|L=>simp[kept1,froz1]at h
 |ptr sp k g off=>cases sp with|S=>rfl|L=>simp[kept1,froz1]at h
 |mp sp k g=>cases sp with|S=>rfl|L=>simp[kept1,froz1]at h
 |_=>exact j0 h
theorem ja{n:Nat}: ∀(ts:List T),ts.all kept1=true→bl (fz true (n+1)) ts= .ret (ts,[])
 | [],_=>rfl
 |t::ts,h=>by
  simp only[List.all_cons,Bool.and_eq_true]at h
  simp only[bl,xJ h.1,ja ts h.2,Q.bind,List.append_nil]
theorem l9{n:Nat}{t:T}(h:kept t=true):fz true (n+2) t= .ret (t,[]):=by
 cases t with
 |agg cs=>simp only[kept]at h;rw[vh,ja cs h];rfl
 |tup cs=>simp only[kept]at h;rw[zN,ja cs h];rfl
 |fn f a c=>simp only[kept,Bool.and_eq_true]at h;rw[ND,ja a h.1,ja c h.2];rfl
 |_=>exact xJ h
theorem pd{n:Nat}: ∀(ts:List T),ts.all kept=true→bl (fz true (n+2)) ts= .ret (ts,[])
 | [],_=>rfl
 |t::ts,h=>by
  simp only[List.all_cons,Bool.and_eq_true]at h
  simp only[bl,l9 h.1,pd ts h.2,Q.bind,List.append_nil]
theorem P2{k:IntKind}{n:Int}:kept (.i k n)=true:=nr rfl
theorem P3{l:List Nat}:kept (.s l)=true:=nr rfl
theorem G3{k g off:Nat}:kept (.ptr .S k g off)=true:=nr rfl
theorem xK{cs:List T}:kept (.agg cs)=cs.all kept1:=nr rfl
theorem KR{k:IntKind}{n:Int}:kept1 (.i k n)=true:=nr rfl
theorem KS{l:List Nat}:kept1 (.s l)=true:=nr rfl
theorem xL{cs:List T}:kept1 (.vp cs)=true:=nr rfl
theorem G4{cs:List T}{n:Nat}{e:Bool}:kept1 (.sl cs n e)=true:=nr rfl
theorem xM{k g:Nat}:kept1 (.mp .S k g)=true:=nr rfl
theorem xN{t:T}(h:froz1 t=true):kept1 t=true:=by cases t <;> first|rfl|(simp[froz1]at h)
section
variable{E:Env}{call:jk}{n:Nat}{fr:Fr}{lh:aQ aA}{sh:List aA}{os:List aJ}{d:Nat}
theorem G5{v:T}(h:kept v=true):fzV lh sh true v=some (v,[]):=by
 unfold fzV aM;rw[l9 h];rfl
theorem ef{dd:Nat}{af:aC}{f:Nat}{args:List T}(hf:E.fn f=some af)(he:af.eff=true)(hz:args.all kept=true):ar E call dd ⟨fr,lh,sh⟩ f args=
  (call f args sh).bind fun r=>some (r.1,⟨fr,lh,r.2⟩):=by
 unfold ar
 simp only[hf,he,if_true]
 unfold aM
 rw[pd args hz]
 simp only[Q.run,qD]
 cases call f args sh <;> rfl
theorem P4{x:aZ}(hd:d<n)(ht:noTup (rd fr x)=true)(hk:kept (rd fr x)=true):aq E call n (⟨some d,.box x true,none⟩::os) ⟨fr,lh,sh⟩=aq E call n os ⟨cS fr d (.ptr .S sh.length 1 0),lh,fO sh sh.length ⟨1,.cells (cellsOf (rd fr x)) 0 true⟩⟩:=by
 rw[k5 (by rfl) (show xA n (some d)from hd)]
 unfold one
 simp only[bC,ht,Bool.not_true,Bool.false_eq_true,if_false,if_true]
 unfold aM
 rw[l9 hk]
 simp only[Q.bind,List.isEmpty_nil,ht,Bool.and_self,if_true]
 rfl
theorem G6{k g off m:Nat}{v:T}(e:aA)(hb: ∀cs wm bx,e.ob= .cells cs wm bx→bx=true)(h1:(cellsOf v).length=m)(h2:noTup v=true)(hz:kept v=true):dD lh sh (Q.run (St.mk .nil lh sh).get sh.length (KN k g off m v e))=rS lh sh k e g off v m:=by
 obtain⟨g',ob⟩:=e
 unfold rS KN
 by_cases hg:g'=g
 ·subst hg
  cases ob with
  |none=>simp[Q.run,dD]
  |map ks vs z=>simp[Q.run,dD]
  |cells cs wm bx=>
   have ID:=hb cs wm bx rfl
   subst ID
   by_cases hb:wm≤off∧off+m≤cs.length
   ·have yZ:(decide (wm≤off)&&decide (off+m≤cs.length))=true:=by simp[hb.1,hb.2]
    have ID:(true&&Sp.S==Sp.L)=false:=rfl
    have hbs:(true&&Sp.S==Sp.S)=true:=rfl
    unfold aM
    simp only[if_true,yZ,ID,hbs,Bool.false_eq_true,if_false]
    rw[l9 hz]
    have iE:(fP [] Sp.S k|| !noTup v||decide ((cellsOf v).length≠m))=false:=by simp[fP,h1,h2]
    simp only[Q.bind,iE,Bool.false_eq_true,if_false,Q.run,dD]
    rw[if_pos ⟨trivial,h1,h2,hb⟩]
    rfl
   ·have yZ:(decide (wm≤off)&&decide (off+m≤cs.length))=false:=by
     cases hx:(decide (wm≤off)&&decide (off+m≤cs.length))with
     |false=>rfl
     |true=>simp at hx;exact absurd hx hb
    simp only[if_true,yZ,Bool.false_eq_true,if_false,Q.run,dD]
    rw[if_neg (by rintro⟨_,_,_,a⟩;exact hb a)]
 ·cases ob with
  |none=>simp[hg,Q.run,dD]
  |map ks vs z=>simp[hg,Q.run,dD]
  |cells cs wm bx=>simp[hg,Q.run,dD]
theorem vo{k g g' off m wm:Nat}{cs:List T}{v:T}(hz:kept v=true)(he:ch sh k=⟨g',.cells cs wm true⟩):tK lh sh (.ptr .S k g off) v m=rS lh sh k ⟨g',.cells cs wm true⟩ g off v m:=by
 by_cases h1:(cellsOf v).length=m
 ·cases h2:noTup v with
  |false=>
   unfold tK jm
   have:(decide ((cellsOf v).length≠m)|| !noTup v)=true:=by simp[h2]
   simp only[this,if_true,Q.run]
   unfold rS
   simp[h2]
  |true=>
   unfold tK jm
   have:(decide ((cellsOf v).length≠m)|| !noTup v)=false:=by simp[h1,h2]
   simp only[this,Bool.false_eq_true,if_false]
   have:=G6 (lh:=lh) (sh:=sh) (k:=k) (g:=g) (off:=off) ⟨g',.cells cs wm true⟩ (by intro a b c h;cases h;rfl) h1 h2 hz
   rw[←this,←he]
   rfl
 ·unfold tK jm
  have:(decide ((cellsOf v).length≠m)|| !noTup v)=true:=by simp[h1]
  simp only[this,if_true,Q.run]
  unfold rS
  simp[h1]
def Ac(sh:List aA)(kk:Nat)(e:aA)(g:Nat)(ek:EK)(k v:T):Option (List aA):=
 match e with
 |⟨g',.map ks vs false⟩=>if g'=g∧isKey ek k=true then(nl ek k v ks vs).map fun q=>fO sh kk ⟨g,.map q.1 q.2 false⟩else none
 |_=>none
theorem G7{kk g g':Nat}{ek:EK}{k v:T}{ks vs:List T}:Ac sh kk ⟨g',.map ks vs false⟩ g ek k v=if g'=g∧isKey ek k=true then(nl ek k v ks vs).map fun q=>fO sh kk ⟨g,.map q.1 q.2 false⟩else none:=rfl
def KT(kk g:Nat)(ek:EK)(k v:T)(e:aA):Q sL:=if e.g=g&&isKey ek k then match e.ob with
      | .map ks vs false=>(fz false aM v).bind fun p=>match nl ek k p.1 ks vs with
        |some q=>if fP p.2 .S kk then .fail else .ret (.val bm (p.2++ [(.S,kk,⟨g,.map q.1 q.2 false⟩)]))
        |none=> .fail
      |_=> .fail
     else .fail
theorem KU{kk g:Nat}{ek:EK}{k v:T}(e:aA)(hf:froz v=true):((iz (Q.run (St.mk fr lh sh).get sh.length (KT kk g ek k v e))).bind fun r=>aq E call n os {(St.mk fr lh sh).ups r.2 with fr:=fr})=
  (Ac sh kk e g ek k v).bind fun cq=>aq E call n os ⟨fr,lh,cq⟩:=by
 obtain⟨g',ob⟩:=e
 unfold KT Ac
 by_cases hg:g'=g∧isKey ek k=true
 ·have:(decide (g'=g)&&isKey ek k)=true:=by simp[hg.1,hg.2]
  simp only[this,if_true]
  cases ob with
  |none=>rfl
  |cells cs wm bx=>rfl
  |map ks vs z=>
   cases z with
   |true=>rfl
   |false=>
    simp only[if_pos hg]
    unfold aM
    rw[kF hf]
    simp only[Q.bind]
    cases nl ek k v ks vs with
    |none=>rfl
    |some q=>simp only[fP,List.any_nil,Bool.false_eq_true,if_false,Q.run,List.nil_append];rfl
 ·have:(decide (g'=g)&&isKey ek k)=false:=by
   cases h:(decide (g'=g)&&isKey ek k)with
   |false=>rfl
   |true=>simp at h;exact absurd h hg
  simp only[this,Bool.false_eq_true,if_false,Q.run,iz]
  cases ob with
  |none=>rfl
  |cells cs wm bx=>rfl
  |map ks vs z=>
   cases z with
   |true=>rfl
   |false=>simp only[if_neg hg];rfl
theorem Uv{ek:EK}{m k v:aZ}{kk g:Nat}(hm:rd fr m= .mp .S kk g)(hf:froz (rd fr v)=true):aq E call n (⟨none,.mu ek m k v,none⟩::os) ⟨fr,lh,sh⟩=(Ac sh kk (ch sh kk) g ek (rd fr k) (rd fr v)).bind fun cq=>aq E call n os ⟨fr,lh,cq⟩:=by
 rw[k5 (by rfl) (show xA n none from trivial)]
 unfold one
 simp only[bC,hm]
 exact KU (ch sh kk) hf
end
section
variable{E:Env}{call:jk}{n:Nat}{fr:Fr}{lh:aQ aA}{sh:List aA}{ds:List (List Nat×aJ)}{bo:List FP}{u:List Nat}{d:Option Nat}
def Ad:T→Bool
 | .mp .S .. =>true
 |_=>false
theorem KV{k g:Nat}:Ad (.mp .S k g)=true:=nr rfl
theorem Uw{ek:EK}{m k v:aZ}(hx:Ad (rd fr m)=true)(hz:froz (rd fr v)=true):aH E call n ((u,⟨none,.mu ek m k v,none⟩)::ds) bo ⟨fr,lh,sh⟩=
  if meets u bo ⟨false,mM (rd fr m),mM (rd fr m)⟩=true then ke E call n ds (bo++ [⟨false,mM (rd fr m),mM (rd fr m)⟩]) (aq E call n [⟨none,.mu ek m k v,none⟩] ⟨fr,lh,sh⟩)else none:=by
 refine lG fun dr=> ?_
 cases qE:rd fr m with
 |mp sp kk g=>
  cases sp with
  |L=>rw[qE]at hx;simp[Ad]at hx
  |S=>
   obtain⟨w,ups,hr,eb⟩:=pc (q:= .rd .S kk (KT kk g ek (rd fr k) (rd fr v))) (by rfl) (by rw[dA];simp only[bC,qE];rfl) dr
   simp only[Q.run,Q.log,Q.asks]at hr eb
   have G8:(St.mk fr lh sh).get .S kk=ch sh kk:=rfl
   rw[G8]at hr eb
   generalize he:ch sh kk=e at hr eb
   obtain⟨g',ob⟩:=e
   unfold KT at hr eb
   by_cases hg:(decide (g'=g)&&isKey ek (rd fr k))=true
   ·simp only[hg,if_true]at hr eb
    cases ob with
    |none=>simp[Q.run]at hr
    |cells cs wm bx=>simp[Q.run]at hr
    |map ks vs zz=>
     cases zz with
     |true=>simp[Q.run]at hr
     |false=>
      simp only[]at hr eb
      unfold aM at hr eb
      rw[kF hz]at hr eb
      simp only[Q.bind]at hr eb
      split at hr
      ·rename_i q hp
       simp only[fP,List.any_nil,Bool.false_eq_true,if_false,Q.run,Option.some.injEq,sL.val.injEq]at hr
       obtain⟨rfl,rfl⟩:=hr
       rw[hp]at eb
       simp only[fP,List.any_nil,Bool.false_eq_true,if_false]at eb
       refine eb ?_
       simp only[Q.asks,Bool.false_or,lV,List.nil_append,List.all_cons,List.all_nil,Bool.and_true]
       rw[G8,he]
       rfl
      ·simp[Q.run]at hr
   ·have Q8:(decide (g'=g)&&isKey ek (rd fr k))=false:=by simpa using hg
    simp only[Q8,Bool.false_eq_true,if_false,Q.run]at hr
    cases hr
 |_=>rw[qE]at hx;simp[Ad]at hx
def kP:FP:=⟨true,[],[]⟩
theorem uM{f:Nat}{af:aC}{as:List aZ}(hf:E.fn f=some af)(he:af.eff=true)(hz:(as.map (rd fr)).all kept=true):
  aH E call n ((u,⟨d,.callf f as,none⟩)::ds) bo ⟨fr,lh,sh⟩=if meets u bo kP=true then ke E call n ds (bo++ [kP]) (aq E call n [⟨d,.callf f as,none⟩] ⟨fr,lh,sh⟩)else none:=by
 refine lG fun dr=> ?_
 unfold bD
 have vb:bq (St.mk fr lh sh).rho (.callf f as)=some (some (f,as.map (rd fr))):=by rw[dA];rfl
 simp only[vb]
 unfold dy
 simp only[hf,he]
 unfold aM
 rw[pd _ hz]
 simp only[Q.run,Q.log,lV,List.all_nil,Bool.not_true,Bool.false_eq_true,if_false,if_true,cH,List.map_nil]
 rfl
theorem xO{rs ws:List (Sp×Nat)}:apart ⟨false,rs,ws⟩ kP=(zh rs&&zh ws):=by
 unfold apart kP eY
 have h1:(ws.all fun x=> !([]:List (Sp×Nat)).contains x)=true:=by rw[List.all_eq_true];intro x _;rfl
 have h2:(rs.all fun x=> !([]:List (Sp×Nat)).contains x)=true:=by rw[List.all_eq_true];intro x _;rfl
 simp[h1,h2]
theorem xP{rs ws:List (Sp×Nat)}:apart kP ⟨false,rs,ws⟩=(zh rs&&zh ws):=by
 unfold apart kP eY
 simp
theorem KW:zh []=true:=nr rfl
theorem Ux{k:Nat}{xs:List (Sp×Nat)}:zh ((.L,k)::xs)=zh xs:=nr rfl
end
end Go.Ev
namespace Go.Ev
open Go
section
variable{E:Env}{n:Nat}{a:ba}
theorem bt(I:Nat→St→Prop)(R:Out→St→Prop)(N:Nat)
  (step: ∀k st,k<N→I k st→(∃bn,DC E n a st=some (.nrm,bn)∧I (k+1) bn)∨(∃o bn,o≠ .nrm∧DC E n a st=some (o,bn)∧R o bn))
  (last: ∀st,I N st→ ∃o bn,o≠ .nrm∧DC E n a st=some (o,bn)∧R o bn):
  ∀(k:Nat) (st:St),k≤N→I k st→ ∃o bn,DC E n (.loop a) st=some (o,bn)∧R o bn:=by
 have leave: ∀{st o bn},o≠ .nrm→DC E n a st=some (o,bn)→DC E n (.loop a) st=some (o,bn):=by
  intro st o bn ho h
  rw[fU,h]
  cases o with
  |nrm=>exact absurd rfl ho
  |ext id=>rfl
  |ret=>rfl
 have main: ∀(m k:Nat) (st:St),N-k=m→k≤N→I k st→ ∃o bn,DC E n (.loop a) st=some (o,bn)∧R o bn:=by
  intro m
  induction m with
  |zero=>
   intro k st hm hk h
   have:k=N:=by omega
   subst this
   obtain⟨o,bn,ho,h1,h2⟩:=last st h
   exact⟨o,bn,leave ho h1,h2⟩
  |succ m ih=>
   intro k st hm hk h
   rcases step k st (by omega) h with⟨bn,h1,h2⟩|⟨o,bn,ho,h1,h2⟩
   ·obtain⟨o,nN,h3,h4⟩:=ih (k+1) bn (by omega) (by omega) h2
    refine⟨o,nN, ?_,h4⟩
    rw[fU,h1,pZ]
    exact h3
   ·exact⟨o,bn,leave ho h1,h2⟩
 intro k st hk h
 exact main (N-k) k st rfl hk h
theorem a6{fr:Fr}{lh:aQ aA}{sh:List aA}{o:Out}{P:Fr→aQ aA→List aA→Prop}
  (h: ∃o' bn,DC E n (.loop a) ⟨fr,lh,sh⟩=some (o',bn)∧o'=o∧P bn.fr bn.lh bn.sh):
  DC E n (.loop a) ⟨fr,lh,sh⟩=some (o,⟨ev E n a fr lh sh,eP E n a fr lh sh,eJ E n a fr lh sh⟩)∧P (ev E n a fr lh sh) (eP E n a fr lh sh) (eJ E n a fr lh sh):=by
 obtain⟨o',bn,h1,rfl,h2⟩:=h
 exact De ⟨bn.fr,bn.lh,bn.sh,h1,h2⟩
end
theorem aN.kept1{v:T}{n:Nat}{cs:List T}(h:aN v n cs):kept1 v=true:=xN h.froz1
end Go.Ev
namespace Go.Ev
open Go
theorem qG{st:St}{a b:List Up}:lV st (a++b)=(lV st a&&lV st b):=by unfold lV;rw[List.all_append]
theorem qH{st:St}{sp:Sp}{k:Nat}{e:aA}(h:q8 (st.get sp k)=true):lV st [(sp,k,e)]=true:=by
 cases sp with
 |L=>rfl
 |S=>simp only[lV,List.all_cons,List.all_nil,Bool.and_true,h,Bool.or_true]
section
variable{st:St}{nx:Nat}
theorem rT{f:T→Q (T×List Up)}(hf: ∀t p,(f t).run st.get nx=some p→lV st p.2=true): ∀(ts:List T) (p:List T×List Up),(bl f ts).run st.get nx=some p→lV st p.2=true
 | [],p,h=>by simp[bl,Q.run]at h;subst h;rfl
 |t::ts,p,h=>by
  simp only[bl,bI]at h
  cases h1:(f t).run st.get nx with
  |none=>rw[h1]at h;cases h
  |some p1=>
   rw[h1]at h
   simp only[Option.bind_some]at h
   cases h2:(bl f ts).run st.get nx with
   |none=>rw[h2]at h;cases h
   |some p2=>
    rw[h2]at h
    simp only[Option.bind_some,Q.run,Option.some.injEq]at h
    subst h
    simp only[qG,hf _ _ h1,rT hf ts _ h2,Bool.and_self]
theorem G9: ∀(n:Nat) (keep:Bool) (t:T) (p:T×List Up),(fz keep n t).run st.get nx=some p→lV st p.2=true
 |0,keep,t,p,h=>by simp[fz,Q.run]at h
 |n+1,keep,t,p,h=>by
  have ih:=G9 n
  have hm:=fun(k:Bool) (ts:List T) (q:List T×List Up)=>rT (ih k) ts q
  cases t with
  |isl sp k g off len sz=>
   simp only[fz]at h
   split at h
   ·simp[Q.run]at h;subst h;rfl
   ·simp only[Q.run]at h
    cases he:st.get sp k with
    |mk g' ob=>
     have hl: ∀{o},ob=o→q8 (st.get sp k)=q8 ⟨g',o⟩:=fun e=>by rw[he,e]
     rw[he]at h
     simp only at h
     split at h
     ·split at h
      ·split at h
       ·simp only[Q.run,Option.some.injEq]at h;subst h;exact qH (by rw[he];rfl)
       ·simp[Q.run]at h
      ·split at h
       ·simp only[bI]at h
        cases h2:(bl (fz false n) (List.take (len*sz) (List.drop off ‹List T›))).run st.get nx with
        |none=>rw[h2]at h;cases h
        |some q=>
         rw[h2]at h
         simp only[Option.bind_some,Q.run,Option.some.injEq]at h
         subst h
         simp only[qG,hm _ _ _ h2,Bool.true_and]
         exact qH (by rw[he];rfl)
       ·simp[Q.run]at h
      ·simp[Q.run]at h
     ·simp[Q.run]at h
  |mp sp k g=>
   simp only[fz]at h
   split at h
   ·simp[Q.run]at h;subst h;rfl
   ·simp only[Q.run]at h
    cases he:st.get sp k with
    |mk g' ob=>
     rw[he]at h
     simp only at h
     split at h
     ·split at h
      ·simp only[Q.run,Option.some.injEq]at h;subst h;exact qH (by rw[he];rfl)
      ·simp[Q.run]at h
     ·simp[Q.run]at h
  |ptr sp k g off=>
   simp only[fz]at h
   split at h
   ·simp[Q.run]at h;subst h;rfl
   ·simp only[Q.run]at h
    cases he:st.get sp k with
    |mk g' ob=>
     rw[he]at h
     simp only at h
     split at h
     ·split at h
      ·simp only[bI]at h
       cases h2:(bl (fz false n) (List.drop off ‹List T›)).run st.get nx with
       |none=>rw[h2]at h;cases h
       |some q=>
        rw[h2]at h
        simp only[Option.bind_some,Q.run,Option.some.injEq]at h
        subst h
        simp only[qG,hm _ _ _ h2,Bool.true_and]
        exact qH (by rw[he];rfl)
      ·simp[Q.run]at h
     ·simp[Q.run]at h
  |fn f a c=>
   simp only[fz,bI]at h
   cases h1:(bl (fz keep n) a).run st.get nx with
   |none=>rw[h1]at h;cases h
   |some p1=>
    rw[h1]at h
    simp only[Option.bind_some]at h
    cases h2:(bl (fz keep n) c).run st.get nx with
    |none=>rw[h2]at h;cases h
    |some p2=>
     rw[h2]at h
     simp only[Option.bind_some,Q.run,Option.some.injEq]at h
     subst h
     simp only[qG,hm _ _ _ h1,hm _ _ _ h2,Bool.and_self]
  |agg cs=>
   simp only[fz,bI]at h
   cases h1:(bl (fz keep n) cs).run st.get nx with
   |none=>rw[h1]at h;cases h
   |some p1=>
    rw[h1]at h
    simp only[Option.bind_some,Q.run,Option.some.injEq]at h
    subst h
    exact hm _ _ _ h1
  |tup cs=>
   simp only[fz,bI]at h
   cases h1:(bl (fz keep n) cs).run st.get nx with
   |none=>rw[h1]at h;cases h
   |some p1=>
    rw[h1]at h
    simp only[Option.bind_some,Q.run,Option.some.injEq]at h
    subst h
    exact hm _ _ _ h1
  |_=>simp[fz,Q.run]at h;subst h;rfl
end
section
variable{E:Env}{call:jk}{n:Nat}{fr:Fr}{lh:aQ aA}{sh:List aA}{ds:List (List Nat×aJ)}{bo:List FP}{u:List Nat}{d:Option Nat}
theorem AT{f:Nat}{af:aC}{as:List aZ}(hf:E.fn f=some af)(he:af.eff=false)(hw:af.own=none)(hu:EV ds=true):
  aH E call n (([],⟨d,.callf f as,none⟩)::ds) bo ⟨fr,lh,sh⟩=ke E call n ds (bo++ [cG]) (aq E call n [⟨d,.callf f as,none⟩] ⟨fr,lh,sh⟩):=by
 rw[lG (fp:=(bD E call ⟨d,.callf f as,none⟩ ⟨fr,lh,sh⟩).getD cG)]
 ·show ke _ _ _ _ _ _=_
  unfold ke
  cases aq E call n [⟨d,.callf f as,none⟩] ⟨fr,lh,sh⟩with
  |none=>rfl
  |some s=>exact nX ds _ _ s hu
 ·intro dr
  unfold bg at dr
  have vb:bq (St.mk fr lh sh).rho (.callf f as)=some (some (f,as.map (rd fr))):=by rw[dA];rfl
  simp only[vb]at dr
  suffices h: ∃fp,bD E call ⟨d,.callf f as,none⟩ ⟨fr,lh,sh⟩=some fp by
   obtain⟨fp,h⟩:=h;rw[h];rfl
  unfold bD dy
  simp only[vb,hf]
  unfold ar at dr
  simp only[hf,he]at dr ⊢
  cases hq:(bl (fz false aM) (as.map (rd fr))).run (St.mk fr lh sh).get sh.length with
  |none=>simp only[hq]at dr;exact absurd rfl dr
  |some q=>
   simp only[hq,Bool.false_eq_true,if_false]at dr ⊢
   have kH:lV (St.mk fr lh sh) q.2=true:=rT (fun t p h=>G9 _ _ t p h) _ _ hq
   simp only[kH,Bool.not_true,Bool.false_eq_true,if_false,hw]
   cases hc:call f q.1 []with
   |none=>simp only[hc]at dr;exact absurd rfl dr
   |some r=>exact⟨_,rfl⟩
def isNe:T→Bool
 | .sl _ (_+1) _=>true
 |_=>false
theorem KX{cs:List T}{m:Nat}{ex:Bool}:isNe (.sl cs (m+1) ex)=true:=nr rfl
def lH(dd:Nat):T→List (Sp×Nat)
 | .isl .L k _ _ _ _=> [(.L,k)]
 |_=> [(.L,dd)]
theorem Ae{dd k g off len sz:Nat}:lH dd (.isl .L k g off len sz)= [(.L,k)]:=nr rfl
theorem Af{dd:Nat}:lH dd .nilsl= [(.L,dd)]:=nr rfl
theorem P5{dd sz bytes:Nat}{s x:aZ}(hs:notS (rd fr s)=true)(hx:isNe (rd fr x)=true):aH E call n ((u,⟨some dd,.app sz bytes s x false false,none⟩)::ds) bo ⟨fr,lh,sh⟩=
  if meets u bo ⟨false,lH dd (rd fr s),lH dd (rd fr s)⟩=true then ke E call n ds (bo++ [⟨false,lH dd (rd fr s),lH dd (rd fr s)⟩]) (aq E call n [⟨some dd,.app sz bytes s x false false,none⟩] ⟨fr,lh,sh⟩)else none:=by
 refine lG fun dr=> ?_
 cases qE:rd fr x with
 |sl cs m ex=>
  cases m with
  |zero=>rw[qE]at hx;simp[isNe]at hx
  |succ m=>
   by_cases hc:cs.length=(m+1)*sz
   ·have pR:bL sz (rd fr x)= .ret (m+1,cs):=by rw[qE];simp only[bL,hc,if_true]
    obtain⟨v,ups,hr,eb⟩:=pc (q:=iv dd sz bytes (rd fr s) (rd fr x) false false) (by rfl) (by rw[dA];rfl) dr
    have kH:=KP hs hr
    have eb:=eb (by rw[kH];simp)
    rw[eb]
    unfold iv at hr ⊢
    rw[pR]at hr ⊢
    simp only[Q.bind,Nat.add_one_ne_zero,if_false]at hr ⊢
    cases Bz:rd fr s with
    |nilsl=>
     rw[Bz]at hr
     simp only at hr ⊢
     split at hr
     ·rename_i hb
      rw[if_pos hb]
      simp[gP,Q.run]at hr
      obtain⟨rfl,rfl⟩:=hr
      rfl
     ·simp[Q.run]at hr
    |sl c2 l2 e2=>
     rw[Bz]at hr
     cases e2 with
     |false=>simp[Q.run]at hr
     |true=>
      simp only at hr ⊢
      split at hr
      ·rename_i hb
       rw[if_pos hb]
       simp[gP,Q.run]at hr
       obtain⟨rfl,rfl⟩:=hr
       rfl
      ·simp[Q.run]at hr
    |isl sp k g off len jt=>
     cases sp with
     |S=>rw[Bz]at hs;simp[notS]at hs
     |L=>
      rw[Bz]at hr
      simp only at hr ⊢
      split at hr
      ·rename_i hb
       rw[if_pos hb]
       simp only[Q.run]at hr
       generalize he:(St.mk fr lh sh).get .L k=e at hr
       obtain⟨g',ob⟩:=e
       simp only at hr
       split at hr
       ·rename_i hg
        cases ob with
        |none=>simp[Q.run]at hr
        |map a b c=>simp[Q.run]at hr
        |cells mw wm bx=>
         cases bx with
         |true=>simp[Q.run]at hr
         |false=>
          simp only at hr
          split at hr
          ·rename_i hl
           simp only[Q.run,Option.some.injEq,sL.val.injEq]at hr
           obtain⟨rfl,rfl⟩:=hr
           simp only[Q.asks,Q.log,he,hg,hl,if_true,cH,List.map_cons,List.map_nil,lH]
          ·simp[Q.run]at hr
       ·simp[Q.run]at hr
      ·simp[Q.run]at hr
    |_=>rw[Bz]at hr;simp[Q.run]at hr
   ·obtain⟨v,ups,hr,eb⟩:=pc (q:=iv dd sz bytes (rd fr s) (rd fr x) false false) (by rfl) (by rw[dA];rfl) dr
    unfold iv at hr
    rw[qE]at hr
    simp only[bL,hc,if_false,Q.bind,Q.run]at hr
    cases hr
 |_=>rw[qE]at hx;simp[isNe]at hx
def pe:aA→Bool
 |⟨_,.cells _ _ bx⟩=>bx
 |_=>false
def xQ(lh:aQ aA):T→Bool
 | .ptr .L k _ _=>pe (aE lh k)
 |_=>false
theorem Du{k g off:Nat}:xQ lh (.ptr .L k g off)=pe (aE lh k):=nr rfl
theorem vq{g wm:Nat}{cs:List T}{bx:Bool}:pe ⟨g,.cells cs wm bx⟩=bx:=nr rfl
theorem Uy{x v:aZ}{m:Nat}(hx:xQ lh (rd fr x)=true):aH E call n ((u,⟨none,.st x v m,none⟩)::ds) bo ⟨fr,lh,sh⟩=
  if meets u bo ⟨false,jB (rd fr x),jB (rd fr x)⟩=true then ke E call n ds (bo++ [⟨false,jB (rd fr x),jB (rd fr x)⟩]) (aq E call n [⟨none,.st x v m,none⟩] ⟨fr,lh,sh⟩)else none:=by
 refine lG fun dr=> ?_
 cases qE:rd fr x with
 |ptr sp k g off=>
  cases sp with
  |S=>rw[qE]at hx;simp[xQ]at hx
  |L=>
   obtain⟨w,ups,hr,eb⟩:=pc (q:=jm (rd fr x) (rd fr v) m) (by rfl) (by rw[dA];rfl) dr
   rw[qE]at hx hr eb
   simp only[xQ]at hx
   unfold jm at hr eb
   split at hr
   ·simp[Q.run]at hr
   ·rename_i hb
    rw[if_neg hb]at eb
    simp only[Q.run,Q.asks,Q.log]at hr eb
    have G8:(St.mk fr lh sh).get .L k=aE lh k:=rfl
    rw[G8]at hr eb
    generalize aE lh k=e at hx hr eb
    obtain⟨g',ob⟩:=e
    cases ob with
    |none=>simp[pe]at hx
    |map a b c=>simp[pe]at hx
    |cells cs wm bx=>
     simp only[pe]at hx
     subst hx
     simp only at hr eb
     split at hr
     ·rename_i hg
      rw[if_pos hg]at eb
      split at hr
      ·rename_i hc
       rw[if_pos hc]at eb
       have CH:(true&&Sp.L==Sp.L)=true:=rfl
       simp only[CH,if_true,Q.run,Option.some.injEq,sL.val.injEq]at hr eb
       obtain⟨rfl,rfl⟩:=hr
       exact eb rfl
      ·simp[Q.run]at hr
     ·simp[Q.run]at hr
 |_=>rw[qE]at hx;simp[xQ]at hx
end
section
variable{α β:Type}[DecidableEq α]
def bJ:List (α×β)→α→Option β
 | [],_=>none
 |p::m,a=>if a=p.1 then some p.2 else bJ m a
def il:List (α×β)→α→Option Nat
 | [],_=>none
 |p::m,a=>if a=p.1 then some 0 else(il m a).map (· +1)
variable{ek:EK}{kT:α→T}{vT:β→T}
theorem Ag(heq: ∀a b,mO ek (kT a) (kT b)=some (decide (a=b)))(a:α): ∀m:List (α×β),dY ek (kT a) (m.map fun p=>kT p.1)=some (il m a)
 | []=>rfl
 |p::m=>by
  rw[List.map_cons,Dn,heq,Ag heq a m,il]
  by_cases h:a=p.1
  ·rw[decide_eq_true h,if_pos h];rfl
  ·rw[decide_eq_false h,if_neg h];rfl
theorem mV(a:α): ∀m:List (α×β),bJ m a=(il m a).bind fun i=>(m[i]?).map (·.2)
 | []=>rfl
 |p::m=>by
  rw[bJ,il]
  by_cases h:a=p.1
  ·rw[if_pos h,if_pos h];rfl
  ·rw[if_neg h,if_neg h,mV a m]
   cases il m a <;> rfl
theorem rU(a:α): ∀(m:List (α×β)) (i:Nat),il m a=some i→i<m.length
 | [],i,h=>by simp[il]at h
 |p::m,i,h=>by
  rw[il]at h
  split at h
  ·simp at h;subst h;simp
  ·cases hp:il m a with
   |none=>rw[hp]at h;simp at h
   |some j=>
    rw[hp]at h
    simp at h
    have:=rU a m j hp
    subst h;simpa using this
theorem P6(heq: ∀a b,mO ek (kT a) (kT b)=some (decide (a=b)))(hk: ∀a,isKey ek (kT a)=true)(m:List (α×β))(a:α)(z:T):
  k8 ek (m.map fun p=>kT p.1) (m.map fun p=>vT p.2) (kT a) z true=some (match bJ m a with|some v=> .tup [vT v,.b true]|none=> .tup [z,.b false]):=by
 rw[KK (hk a),Ag heq,mV]
 cases hp:il m a with
 |none=>rfl
 |some i=>
  have:=rU a m i hp
  rw[GV]
  simp[List.getElem?_eq_getElem this]
theorem Ha(heq: ∀a b,mO ek (kT a) (kT b)=some (decide (a=b)))(m:List (α×β))(a:α)(v:β)(h:bJ m a=none):
  nl ek (kT a) (vT v) (m.map fun p=>kT p.1) (m.map fun p=>vT p.2)=some ((m++ [(a,v)]).map (fun p=>kT p.1),(m++ [(a,v)]).map (fun p=>vT p.2)):=by
 rw[KM,Ag heq]
 rw[mV]at h
 cases hp:il m a with
 |none=>simp[Dp]
 |some i=>
  have:=rU a m i hp
  rw[hp]at h
  simp[List.getElem?_eq_getElem this]at h
theorem iK(a b:α)(v:β): ∀m:List (α×β),bJ (m++ [(b,v)]) a=match bJ m a with|some u=>some u|none=>if a=b then some v else none
 | []=>by simp[bJ]
 |p::m=>by
  rw[List.cons_append,bJ,bJ,iK a b v m]
  by_cases h:a=p.1 <;> simp[h]
end
end Go.Ev
namespace Go.Ev
open Go
theorem Ah{vs:List T}:scalar (.tup vs)=vs.all q7:=by
 unfold scalar
 congr 1
theorem KY{k:IntKind}{n:Int}:q7 (.i k n)=true:=nr rfl
def vr(sh:List aA):List Up→List aA
 | []=>sh
 |(.L,_,_)::us=>vr sh us
 |(.S,k,e)::us=>vr (fO sh k e) us
theorem Hb{sh:List aA}:vr sh []=sh:=nr rfl
theorem rV: ∀(a:List Up) (sh:List aA) (b:List Up),vr sh (a++b)=vr (vr sh a) b
 | [],sh,b=>rfl
 |(.L,k,e)::a,sh,b=>rV a sh b
 |(.S,k,e)::a,sh,b=>rV a (fO sh k e) b
theorem qI: ∀(us:List Up) (fr:Fr) (lh:aQ aA) (sh:List aA),((St.mk fr lh sh).ups us).sh=vr sh us
 | [],_,_,_=>rfl
 |(.L,k,e)::us,fr,lh,sh=>qI us fr (gh lh k e) sh
 |(.S,k,e)::us,fr,lh,sh=>qI us fr lh (fO sh k e)
def bG(lh:aQ aA)(v:T)(k sz n:Nat)(cs:List T):Prop:=
 (n=0∧v= .nilsl∧cs= [])∨(∃g wm,v= .isl .L k g 0 n sz∧aE lh k=⟨g,.cells cs wm false⟩∧cs.length=n*sz∧0<n)
def jb(n:Nat)(cs:List T):T:=if n=0 then .nilsl else .sl cs n false
theorem gV{n:Nat}{cs:List T}(h:n=0→cs= []):aN (jb n cs) n cs:=by
 unfold jb
 split
 ·rename_i h0;exact Or.inl ⟨rfl,h0,h h0⟩
 ·exact Or.inr ⟨false,rfl⟩
section
variable{lh:aQ aA}{sh:List aA}{v:T}{k sz n:Nat}{cs:List T}
theorem bG.nil:bG lh .nilsl k sz 0 []:=Or.inl ⟨rfl,rfl,rfl⟩
theorem bG.len(h:bG lh v k sz n cs):cs.length=n*sz:=by
 rcases h with⟨rfl,_,rfl⟩|⟨g,wm,_,_,h,_⟩
 ·simp
 ·exact h
theorem bG.isl(h:bG lh v k sz n cs):aN (jb n cs) n cs:=gV fun h0=>by
 have:=h.len;rw[h0,Nat.zero_mul]at this;exact List.length_eq_zero_iff.1 this
theorem bG.congr{dj:aQ aA}(h:bG lh v k sz n cs)(e:aE dj k=aE lh k):bG dj v k sz n cs:=by
 rcases h with h|⟨g,wm,h1,h2,h3,h4⟩
 ·exact Or.inl h
 ·exact Or.inr ⟨g,wm,h1,by rw[e,h2],h3,h4⟩
theorem bG.notS(h:bG lh v k sz n cs):Ev.notS v=true:=by
 rcases h with⟨_,rfl,_⟩|⟨g,wm,rfl,_⟩ <;> rfl
theorem bG.lenI(h:bG lh v k sz n cs):Ev.lenI v=some (.i .i64 (n:Int)):=by
 rcases h with⟨rfl,rfl,_⟩|⟨g,wm,rfl,_⟩ <;> rfl
theorem bG.noTup(h:bG lh v k sz n cs):Ev.noTup v=true:=by
 rcases h with⟨_,rfl,_⟩|⟨g,wm,rfl,_⟩ <;> rfl
theorem bG.cells(h:bG lh v k sz n cs):cellsOf v= [v]:=by
 rcases h with⟨_,rfl,_⟩|⟨g,wm,rfl,_⟩ <;> rfl
def Dv(lh:aQ aA)(sh:List aA)(d sz bytes:Nat)(s x:T):T:=match Ev.appW lh sh d sz bytes s x with|some p=>p.1|none=>bm
def sN(lh:aQ aA)(sh:List aA)(d sz bytes:Nat)(s x:T):aQ aA:=match Ev.appW lh sh d sz bytes s x with|some p=>p.2|none=>lh
theorem bG.appW{m bytes:Nat}{ps:List T}{x:T}(h:bG lh v k sz n cs)(hx:Ev.slC lh sh sz x=some (m+1,ps))(xp:ps.length=(m+1)*sz)(hr:(n+(m+1))*bytes≤roomy):
  Ev.appW lh sh k sz bytes v x=some (Dv lh sh k sz bytes v x,sN lh sh k sz bytes v x)∧bG (sN lh sh k sz bytes v x) (Dv lh sh k sz bytes v x) k sz (n+(m+1)) (cs++ps)∧ ∀j,j≠k→aE (sN lh sh k sz bytes v x) j=aE lh j:=by
 have key: ∃v' dj,Ev.appW lh sh k sz bytes v x=some (v',dj)∧bG dj v' k sz (n+(m+1)) (cs++ps)∧ ∀j,j≠k→aE dj j=aE lh j:=by
  unfold Ev.appW
  rw[hx,Option.bind_some]
  rcases h with⟨rfl,rfl,rfl⟩|⟨g,wm,rfl,h2,h3,h4⟩
  ·rw[xF,if_pos (by simpa using hr)]
   refine⟨_,_,rfl,Or.inr ⟨_,_,by rw[Nat.zero_add],jZ _ _ _,by simpa using xp,by omega⟩,fun j hj=>cK _ _ hj⟩
  ·rw[xG,h2,rP,if_pos ⟨rfl,rfl,hr,rfl,h3.symm⟩]
   refine⟨_,_,rfl,Or.inr ⟨_,_,rfl,jZ _ _ _,by rw[List.length_append,h3,xp,Nat.add_mul n (m+1)],by omega⟩,fun j hj=>cK _ _ hj⟩
 obtain⟨v',dj,h1,h2,h3⟩:=key
 have e1:Dv lh sh k sz bytes v x=v':=by unfold Dv;rw[h1]
 have e2:sN lh sh k sz bytes v x=dj:=by unfold sN;rw[h1]
 rw[e1,e2]
 exact⟨h1,h2,h3⟩
def Hc(lh:aQ aA):T→List Up
 | .isl .L k g _ _ _=>match aE lh k with|⟨_,.cells cs _ _⟩=> [(.L,k,⟨g,.cells cs cs.length false⟩)]|_=> []
 |_=> []
theorem xR{sh:List aA}{lh:aQ aA}{v:T}:vr sh (Hc lh v)=sh:=by
 unfold Hc
 split
 ·split <;> rfl
 ·rfl
theorem bG.fzW{m:Nat}{keep:Bool}(h:bG lh v k sz n cs):Ev.fzW m lh sh keep v=some (jb n cs,Hc lh v):=by
 rcases h with⟨rfl,rfl,rfl⟩|⟨g,wm,rfl,h2,h3,h4⟩
 ·rfl
 ·rw[BD,h2,mU,if_pos ⟨rfl,by omega⟩,List.drop_zero,←h3,List.take_length]
  unfold jb Hc
  rw[if_neg (by omega)]
  simp only[h2]
theorem bG.fzV{keep:Bool}(h:bG lh v k sz n cs):Ev.fzV lh sh keep v=some (jb n cs,Hc lh v):=by
 rcases h with⟨rfl,rfl,rfl⟩|⟨g,wm,rfl,h2,h3,h4⟩
 ·rfl
 ·rw[By,h2,mU,if_pos ⟨rfl,by omega⟩,List.drop_zero,←h3,List.take_length]
  unfold jb Hc
  rw[if_neg (by omega)]
  simp only[h2]
theorem kI{d:Nat}(h:bG lh v k sz n cs)(hd:d=k):lH d v= [(.L,k)]:=by
 subst hd
 rcases h with⟨_,rfl,_⟩|⟨g,wm,rfl,_⟩ <;> rfl
end
def rW(lh:aQ aA)(k i:Nat):T:=match aE lh k with|⟨_,.cells cs _ _⟩=>cs.getD i bm|_=>bm
theorem vt{lh:aQ aA}{k g wm i:Nat}{cs:List T}{bx:Bool}(h:aE lh k=⟨g,.cells cs wm bx⟩):rW lh k i=cs.getD i bm:=by unfold rW;rw[h]
theorem vu{lh:aQ aA}{k g wm:Nat}{bx:Bool}{P:T→T→Prop}(h: ∃v1 v2,aE lh k=⟨g,.cells [v1,v2] wm bx⟩∧P v1 v2):aE lh k=⟨g,.cells [rW lh k 0,rW lh k 1] wm bx⟩∧P (rW lh k 0) (rW lh k 1):=by
 obtain⟨v1,v2,h1,h2⟩:=h
 rw[vt h1,vt h1]
 exact⟨h1,h2⟩
def Uz(sh:List aA)(ek:EK)(m k v:T):Option (List aA):=match m with| .mp .S kk g=>Ac sh kk (ch sh kk) g ek k v|_=>none
theorem BF{sh:List aA}{ek:EK}{kk g:Nat}{k v:T}:Uz sh ek (.mp .S kk g) k v=Ac sh kk (ch sh kk) g ek k v:=nr rfl
theorem UA{E:Env}{call:jk}{n:Nat}{fr:Fr}{lh:aQ aA}{sh:List aA}{os:List aJ}{ek:EK}{m k v:aZ}(hm:Ad (rd fr m)=true)(hf:froz (rd fr v)=true):aq E call n (⟨none,.mu ek m k v,none⟩::os) ⟨fr,lh,sh⟩=ks (aq E call n os) fr ((Uz sh ek (rd fr m) (rd fr k) (rd fr v)).map fun cq=>(lh,cq)):=by
 cases h:rd fr m with
 |mp sp kk g=>
  cases sp with
  |L=>rw[h]at hm;simp[Ad]at hm
  |S=>
   rw[Uv h hf,BF]
   cases Ac sh kk (ch sh kk) g ek (rd fr k) (rd fr v) <;> rfl
 |_=>rw[h]at hm;simp[Ad]at hm
theorem aN.kept{v:T}{n:Nat}{cs:List T}(h:aN v n cs):kept v=true:=by
 rcases h with⟨rfl,_,_⟩|⟨ex,rfl⟩ <;> rfl
end Go.Ev
namespace Go.Ev
open Go
theorem Dw(m:Nat)(hm:m≤62)(a:Int):Ev.bin .and (.i .u64 a) (.i .u64 (2 ^ m-1))=some (.i .u64 (a%2 ^ m)):=by
 have h2:(2:Int) ^ m=((2 ^ m:Nat):Int):=by norm_cast
 have Fu:0<2 ^ m:=Nat.two_pow_pos m
 have hle:2 ^ m≤2 ^ 62:=Nat.pow_le_pow_right (by omega) hm
 have UB:(BitVec.ofInt 64 ((2:Int) ^ m-1)).toNat=2 ^ m-1:=by
  rw[BitVec.toNat_ofInt,h2]
  have:((2 ^ m:Nat):Int)-1=((2 ^ m-1:Nat):Int):=by omega
  rw[this]
  have h3:((2 ^ m-1:Nat):Int)%((2 ^ 64:Nat):Int)=((2 ^ m-1:Nat):Int):=Int.emod_eq_of_lt (by omega) (by omega)
  rw[h3];rfl
 have hand:(BitVec.ofInt 64 a &&& BitVec.ofInt 64 ((2:Int) ^ m-1)).toNat=(a%2 ^ m).toNat:=by
  rw[BitVec.toNat_and,UB,Nat.and_two_pow_sub_one_eq_mod,BitVec.toNat_ofInt]
  have UC:0≤a%((2 ^ 64:Nat):Int):=Int.emod_nonneg _ (by omega)
  have h4:(a%((2 ^ 64:Nat):Int))%((2 ^ m:Nat):Int)=a%((2 ^ m:Nat):Int):=Int.emod_emod_of_dvd a (by
   have:(2 ^ m:Nat)∣2 ^ 64:=Nat.pow_dvd_pow 2 (by omega)
   exact Int.natCast_dvd_natCast.2 this)
  have h5:(((a%((2 ^ 64:Nat):Int)).toNat%2 ^ m:Nat):Int)=a%((2 ^ m:Nat):Int):=by
   rw[Int.natCast_emod,Int.toNat_of_nonneg UC,h4]
  rw[h2,←h5];exact(Int.toNat_natCast _).symm
 have hb:(IntKind.u64).bits=64:=rfl
 simp only[Ev.bin,if_true,kh]
 have NI:0≤a%2 ^ m:=by rw[h2];exact Int.emod_nonneg _ (by omega)
 have wv:a%2 ^ m<2 ^ m:=by rw[h2];exact Int.emod_lt_of_pos _ (by omega)
 have hw:IntKind.wrap .u64 ((BitVec.ofInt (IntKind.u64).bits a &&& BitVec.ofInt (IntKind.u64).bits ((2:Int) ^ m-1)).toNat:Int)=a%2 ^ m:=by
  show IntKind.wrap .u64 (((BitVec.ofInt 64 a &&& BitVec.ofInt 64 ((2:Int) ^ m-1)).toNat:Nat):Int)=_
  rw[hand,Int.toNat_of_nonneg NI]
  unfold IntKind.wrap
  simp only[hb]
  have h6:(a%2 ^ m)%(2 ^ 64:Int)=a%2 ^ m:=Int.emod_eq_of_lt NI (by
   have:(2:Int) ^ m≤2 ^ 62:=by rw[h2];exact_mod_cast hle
   omega)
  rw[h6,if_neg]
  intro hc
  simp only[Bool.and_eq_true,decide_eq_true_eq,ge_iff_le]at hc
  have:(2:Int) ^ m≤2 ^ 62:=by rw[h2];exact_mod_cast hle
  have h7:=hc.2
  omega
 rw[hw]
theorem KZ{a:Int}:Ev.bin .and (.i .u64 a) (.i .u64 4294967295)=some (.i .u64 (a%4294967296)):=Dw 32 (by omega) a
theorem Hd{k':IntKind}{a:Int}{b:Nat}(h:b≤64):Ev.bin .shr (.i .u64 a) (.i k' (b:Int))=some (.i .u64 (a/2 ^ b)):=by
 rw[Kx,if_neg (by omega),Int.toNat_natCast]
 have:min b (IntKind.u64).bits=b:=Nat.min_eq_left h
 rw[this,Int.fdiv_eq_ediv_of_nonneg]
 exact Int.le_of_lt (Int.pow_pos (by omega))
theorem K0{k':IntKind}{a:Int}:Ev.bin .shr (.i .u64 a) (.i k' 32)=some (.i .u64 (a/4294967296)):=Hd (b:=32) (by omega)
theorem K1{a b:Int}(ha:a=0∨a=1)(hb:b=0∨b=1):Ev.bin .and (.i .i64 a) (.i .i64 b)=some (.i .i64 (min a b)):=by
 rcases ha with rfl|rfl <;> rcases hb with rfl|rfl <;> rfl
theorem He{a b:Int}(ha:a=0∨a=1)(hb:b=0∨b=1):Ev.bin .or (.i .i64 a) (.i .i64 b)=some (.i .i64 (max a b)):=by
 rcases ha with rfl|rfl <;> rcases hb with rfl|rfl <;> rfl
def Ai(lh:aQ aA)(k:Nat):List T:=match aE lh k with|⟨_,.cells cs _ _⟩=>cs|_=> []
theorem BG{lh:aQ aA}{k g wm:Nat}{cs:List T}{bx:Bool}(h:aE lh k=⟨g,.cells cs wm bx⟩):Ai lh k=cs:=by unfold Ai;rw[h]
theorem vv{lh:aQ aA}{k g wm:Nat}{bx:Bool}{P:List T→Prop}(h: ∃cs,aE lh k=⟨g,.cells cs wm bx⟩∧P cs):aE lh k=⟨g,.cells (Ai lh k) wm bx⟩∧P (Ai lh k):=by
 obtain⟨cs,h1,h2⟩:=h
 rw[BG h1];exact⟨h1,h2⟩
end Go.Ev
set_option autoImplicit false
namespace Go.Ev
def rX(R:List T→Prop):Nat→List T→Prop
 |0,ts=>ts= []
 |n+1,ts=> ∃p r,ts=p++r∧R p∧rX R n r
def K2(R:TypeId→List T→Prop):List TypeId→List T→Prop
 | [],ts=>ts= []
 |f::fs,ts=> ∃p r,ts=p++r∧R f p∧K2 R fs r
def gW(P:Program):Nat→TypeId→List T→Prop
 |0,_,_=>False
 |n+1,t,ts=>match P.underlying t with
  |some (.int k)=> ∃x,ts= [.i k x]
  |some .string=> ∃s,ts= [.s s]∧s.length≤reachBytes
  |some (.slice e)=> ∃v len cc,ts= [v]∧aN v len cc∧len*P.bytesOf e≤reachBytes∧rX (gW P n e) len cc
  |some (.struct fs)=>K2 (gW P n) (fs.toList.map (·.type)) ts
  |_=>False
def xS(P:Program)(S:List TypeId):List Field→Nat→Nat→Bool
 | [],o,n=>o==n
 |f::fs,o,n=>f.offset==o&&S.contains f.type&&xS P S fs (o+P.cellsOf f.type) n
def P7(P:Program)(S:List TypeId)(t:TypeId):Bool:=match P.underlying t with
 |some (.int _)=>true
 |some .string=>true
 |some (.slice e)=>S.contains e&&decide (0<P.cellsOf e)
 |some (.struct fs)=>xS P S fs.toList 0 (P.cellsOf t)
 |_=>false
def M0:aI:=fun _ _=>False
theorem PList.cat{w:World}{M:aI}: ∀{ts us:List T} {vs xs:List Value},PList w M ts vs→PList w M us xs→PList w M (ts++us) (vs++xs)
 | [],us,vs,xs,h1,h2=>by simp only[PList]at h1;subst h1;exact h2
 |t::ts,us,vs,xs,h1,h2=>by
  simp only[PList]at h1
  obtain⟨u,r,rfl,h3,h4⟩:=h1
  simp only[List.cons_append,PList]
  exact⟨u,_,rfl,h3,PList.cat h4 h2⟩
variable{H:Type}{enc:TypeId×Value→H}{P:Program}{w:World}{base:Nat}{held:Bool}
theorem tR(b o i:Nat):(Addr.mk b o none).add i=⟨b,o+i,none⟩:=by
 unfold Addr.add
 split
 ·rename_i h0;rw[h0];rfl
 ·rfl
theorem tS{w:World}{blk:Nat}: ∀(ts:List T) (cs:List Value) (off:Nat),PList w M0 ts cs→ts.all single=true→(∀i v,cs[i]? =some v→w.cell? ⟨blk,off+i,none⟩=some v)→aP w M0 blk off ts
 | [],_,_,_,_,_=>by simp only[aP]
 |t::ts,cs,off,h,hs,hc=>by
  simp only[PList]at h
  obtain⟨u,us,rfl,h1,h2⟩:=h
  simp only[List.all_cons,Bool.and_eq_true]at hs
  simp only[aP]
  refine⟨⟨u,hc 0 u rfl,fun h=>h,h1,hs.1⟩,tS ts us (off+1) h2 hs.2 fun i v hv=> ?_⟩
  have:=hc (i+1) v (by simpa using hv)
  rwa [Nat.add_assoc,Nat.add_comm 1 i]
theorem rY{w:World}{blk:Nat}: ∀{ts us:List T} {off:Nat},aP w M0 blk off ts→aP w M0 blk (off+ts.length) us→aP w M0 blk off (ts++us)
 | [],_,_,_,h2=>h2
 |t::ts,us,off,h1,h2=>by
  simp only[aP]at h1
  simp only[List.cons_append,aP]
  refine⟨h1.1,rY h1.2 ?_⟩
  rwa [List.length_cons,Nat.add_comm ts.length 1,←Nat.add_assoc]at h2
theorem Hf{b o n:Nat}{cs:List Value}(h:w.cells? base ⟨b,o,none⟩ n=some cs):cs.length=n∧ ∀i v,cs[i]? =some v→w.cell? ⟨b,o+i,none⟩=some v:=by
 unfold World.cells? at h
 split at h
 ·have hl:=mapM_some_length h
  rw[List.length_range]at hl
  refine⟨hl,fun i v hv=> ?_⟩
  have hi:i<n:=by rw[←hl];exact(List.getElem?_eq_some_iff.1 hv).1
  have:=mapM_some_get h i i (by rw[List.getElem?_range hi])
  rw[tR]at this
  rw[this,hv]
 ·cases h
theorem tT{a:Addr}{n:Nat}{cs:List Value}(h:w.cells? base a n=some cs)(hn:0<n):a.spot=none:=by
 unfold World.cells? at h
 split at h
 ·have hl:=mapM_some_length h
  rw[List.length_range]at hl
  have:=mapM_some_get h 0 0 (by rw[List.getElem?_range hn])
  rw[List.getElem?_eq_getElem (by omega)]at this
  exact World.cell?_spot (a:=a) (by simpa[Addr.add]using this)
 ·cases h
def fW(P:Program)(t:TypeId):Option (List TypeId):=match P.underlying t with
 |some (.struct fs)=>some (fs.toList.map (·.type))
 |_=>none
def vw(P:Program)(t:TypeId):Option TypeId:=match P.underlying t with
 |some (.slice e)=>some e
 |_=>none
theorem gW.st{n:Nat}{t:TypeId}{l:List TypeId}{ts:List T}(h:gW P (n+1) t ts)(hf:fW P t=some l):K2 (gW P n) l ts:=by
 unfold fW at hf
 unfold gW at h
 split at hf
 ·rename_i fs hu;rw[hu]at h;injection hf with hf;subst hf;exact h
 ·cases hf
theorem gW.row{n:Nat}{t e:TypeId}{ts:List T}(h:gW P (n+1) t ts)(hf:vw P t=some e): ∃v len cc,ts= [v]∧aN v len cc∧len*P.bytesOf e≤reachBytes∧rX (gW P n e) len cc:=by
 unfold vw at hf
 unfold gW at h
 split at hf
 ·rename_i hu;rw[hu]at h;injection hf with hf;subst hf;exact h
 ·cases hf
end Go.Ev
set_option autoImplicit false
namespace Go.Ev
mutual
def wt:T→Nat
 | .s l=>l.length+1
 | .sl cs _ _=>qy cs+1
 |_=>1
def qy:List T→Nat
 | []=>0
 |t::ts=>wt t+qy ts
end
theorem qJ: ∀(a b:List T),qy (a++b)=qy a+qy b
 | [],b=>by simp[qy]
 |x::a,b=>by simp only[List.cons_append,qy,qJ a b];omega
structure BulkOk {H:Type} (B:DataW H→Nat) (BA:List (DataW H)→Nat):Prop where
 str: ∀b,b.length+1≤B (.lit (.string b))
 lit: ∀l,1≤B (.lit l)
 nil:1≤B .nil
 sl: ∀e s,BA e+1≤B (.slice e s)
 agg: ∀p,BA p≤B (.agg p)
 bcons: ∀d r,B d+BA r≤BA (d::r)
variable{H:Type}{enc:TypeId×Value→H}{P:Program}{w:World}{base:Nat}{held:Bool}{B:DataW H→Nat}{BA:List (DataW H)→Nat}
def TreeB(P:Program)(w:World)(n:Nat)(t:TypeId)(cs:List Value)(b:Nat):Prop:= ∃ts,PList w M0 ts cs∧ts.all single=true∧gW P n t ts∧qy ts≤b
theorem nY(hB:BulkOk B BA){n:Nat}{S:List TypeId}{sp:Nat→Bool}
  (ih: ∀t cs d ps,t∈S→DataW.trod enc P w base sp held n t cs=some (d,ps)→(∀x∈d.weights P t,x≤reachBytes)→TreeB P w n t cs (B d)):
  ∀(fs:List Field) (o m:Nat) (cs:List Value) (xs:List (DataW H×List MemPlace)),xS P S fs o m=true→cs.length=m→
   (fs.mapM fun f=>DataW.trod enc P w base sp held n f.type ((cs.drop f.offset).take (P.cellsOf f.type)))=some xs→
   (∀x∈DataW.weightsEach P (fs.map (·.type)) (xs.map (·.1)),x≤reachBytes)→
   ∃ts,PList w M0 ts (cs.drop o)∧ts.all single=true∧K2 (gW P n) (fs.map (·.type)) ts∧qy ts≤BA (xs.map (·.1))
 | [],o,m,cs,xs,hl,hc,hx,hw=>by
   simp[xS]at hl
   refine⟨[], ?_,rfl,rfl,Nat.zero_le _⟩
   simp only[PList]
   rw[hl,←hc,List.drop_length]
 |f::fs,o,m,cs,xs,hl,hc,hx,hw=>by
  simp only[xS,Bool.and_eq_true,beq_iff_eq,List.contains_iff_mem]at hl
  obtain⟨⟨h1,h2⟩,h3⟩:=hl
  rw[List.mapM_cons]at hx
  simp only[Option.bind_eq_bind,Option.bind_eq_some_iff,Option.pure_def,Option.some.injEq]at hx
  obtain⟨⟨d,ps⟩,hd,ys,hy,rfl⟩:=hx
  simp only[List.map_cons,DataW.weightsEach,List.mem_append]at hw
  obtain⟨ts,t1,t2,t3,t4⟩:=ih _ _ _ _ h2 hd fun x hx=>hw x (.inl hx)
  obtain⟨us,u1,u2,u3,u4⟩:=nY hB ih fs _ m cs ys h3 hc hy fun x hx=>hw x (.inr hx)
  refine⟨ts++us, ?_,by rw[List.all_append,t2,u2];rfl,⟨ts,us,rfl,t3,u3⟩, ?_⟩
  ·have:=t1.cat u1
   rwa [h1,←List.drop_drop,List.take_append_drop]at this
  ·rw[qJ]
   have:=hB.bcons d (ys.map (·.1))
   simp only[List.map_cons]
   omega
theorem rZ(hB:BulkOk B BA){n:Nat}{e:TypeId}{c:Nat}{sp:Nat→Bool}{b o:Nat}
  (ih: ∀cs d ps,DataW.trod enc P w base sp held n e cs=some (d,ps)→(∀x∈d.weights P e,x≤reachBytes)→TreeB P w n e cs (B d)):
  ∀(len i:Nat) (xs:List (DataW H×List MemPlace)),
   ((List.range' i len).mapM fun i=>(w.cells? base ((Addr.mk b o none).add (i*c)) c).bind (DataW.trod enc P w base sp held n e))=some xs→
   (∀x∈DataW.weightsAll P e (xs.map (·.1)),x≤reachBytes)→ ∃cc,aP w M0 b (o+i*c) cc∧rX (gW P n e) len cc∧qy cc≤BA (xs.map (·.1))
 |0,i,xs,h,hw=>⟨[],by simp only[aP],rfl,Nat.zero_le _⟩
 |len+1,i,xs,h,hw=>by
  rw[List.range'_succ,List.mapM_cons]at h
  simp only[Option.bind_eq_bind,Option.bind_eq_some_iff,Option.pure_def,Option.some.injEq]at h
  obtain⟨⟨d,ps⟩,⟨cs,hc,hd⟩,ys,hy,rfl⟩:=h
  simp only[List.map_cons,DataW.weightsAll,List.mem_append]at hw
  obtain⟨ts,t1,t2,t3,t4⟩:=ih _ _ _ hd fun x hx=>hw x (.inl hx)
  obtain⟨us,u1,u3,u4⟩:=rZ hB ih len (i+1) ys hy fun x hx=>hw x (.inr hx)
  rw[tR]at hc
  obtain⟨c1,c2⟩:=Hf hc
  have hl:ts.length=c:=by rw[←c1];exact PList.length _ _ t1
  refine⟨ts++us,rY (tS ts cs _ t1 t2 c2) ?_,⟨ts,us,rfl,t3,u3⟩, ?_⟩
  ·rwa [hl,Nat.add_assoc,←Nat.succ_mul]
  ·rw[qJ]
   have:=hB.bcons d (ys.map (·.1))
   simp only[List.map_cons]
   omega
theorem trees_ofB(hB:BulkOk B BA){S:List TypeId}(hS: ∀t∈S,P7 P S t=true): ∀(n:Nat) (t:TypeId) (cs:List Value) (d:DataW H) (ps:List MemPlace),t∈S→
  DataW.trod enc P w base (fun _=>true) held n t cs=some (d,ps)→(∀x∈d.weights P t,x≤reachBytes)→TreeB P w n t cs (B d)
 |0,t,cs,d,ps,_,h,_=>by simp[DataW.trod]at h
 |n+1,t,cs,d,ps,ht,h,hw=>by
  have ok:=hS t ht
  have ih:=fun t cs d ps=>trees_ofB hB hS n t cs d ps
  unfold P7 at ok
  unfold TreeB gW
  cases hu:P.underlying t with
  |none=>rw[hu]at ok;cases ok
  |some u=>
  rw[hu]at ok
  cases u with
  |int k=>
   obtain⟨x,rfl,e,_⟩:=DataW.trod_int hu h
   injection e with e1 e2
   subst e1
   exact⟨[.i k x],by simp only[PList,PRel];exact⟨_,_,rfl,rfl,rfl⟩,rfl,⟨x,rfl⟩,by simpa[qy,wt]using hB.lit _⟩
  |string=>
   obtain⟨s,rfl,e,_⟩:=DataW.trod_string hu h
   injection e with e1 e2
   subst e1
   refine⟨[.s (cp s)],by simp only[PList,PRel];exact⟨_,_,rfl,⟨s,rfl,rfl⟩,rfl⟩,rfl,⟨_,rfl, ?_⟩, ?_⟩
   ·have:=hw s.data.toList.length (by simp[DataW.weights])
    unfold cp
    rwa [List.length_map]
   ·have:=hB.str s.data.toList
    simp only[qy,wt,cp,List.length_map]at this ⊢
    omega
  |slice e=>
   simp only[Bool.and_eq_true,List.contains_iff_mem,decide_eq_true_eq]at ok
   obtain⟨he,hc⟩:=ok
   rcases DataW.trod_slice hu h with⟨rfl,e0⟩|⟨⟨b,o,sp⟩,len,cap,elems,rest,n',hn,rfl,hx,_,hl,_,hlen,hel,hre,_⟩
   ·injection e0 with e1 e2
    subst e1
    exact⟨[.nilsl],by simp only[PList,PRel];exact⟨_,_,rfl,rfl,rfl⟩,rfl,⟨.nilsl,0,[],rfl,.inl ⟨rfl,rfl,rfl⟩,by simp,rfl⟩,by simpa[qy,wt]using hB.nil⟩
   ·injection hn with hn
    subst hn
    injection hx with hx _
    subst hx
    simp only[DataW.weights,hu,List.mem_cons,List.mem_append,List.length_map]at hw
    obtain⟨wv,Nu⟩:=hre rfl
    have NJ:sp=none∨cap=0:=by
     by_cases h0:cap=0
     ·exact .inr h0
     ·left
      by_cases h1:len=0
      ·have:=Nu 0 (by omega)
       rw[h1,List.getElem?_eq_getElem (by omega)]at this
       simp only[Nat.add_zero,Nat.zero_mul,Option.bind_eq_some_iff]at this
       obtain⟨c,Dx,_⟩:=this
       exact tT (a:=⟨b,o,sp⟩) (by simpa[Addr.add]using Dx) hc
      ·have:=hel 0 (by omega)
       rw[List.getElem?_eq_getElem (by omega)]at this
       simp only[Nat.zero_mul,Option.bind_eq_some_iff]at this
       obtain⟨c,Dx,_⟩:=this
       exact tT (a:=⟨b,o,sp⟩) (by simpa[Addr.add]using Dx) hc
    have Zg: ∃cc,aP w M0 b o cc∧rX (gW P n e) len cc∧qy cc≤BA (elems.map (·.1)):=by
     rcases NJ with rfl|h0
     ·have:=rZ hB (base:=base) (enc:=enc) (held:=held) (c:=P.cellsOf e) (b:=b) (o:=o) (fun cs d ps=>ih e cs d ps he) len 0 elems
       (mapM_some_of_get _ _ (by rw[hlen,List.length_range']) fun i x hx=>by
         obtain⟨h1,h2⟩:=List.getElem?_eq_some_iff.1 hx
         rw[List.length_range']at h1
         rw[List.getElem_range',Nat.zero_add,Nat.one_mul]at h2
         subst h2
         exact hel i h1) fun x hx=>hw x (.inr (.inl hx))
      simpa using this
     ·have:len=0:=by omega
      subst this
      exact⟨[],by simp only[aP],rfl,Nat.zero_le _⟩
    obtain⟨cc,k1,k2,k3⟩:=Zg
    refine⟨[.sl cc len false], ?_,rfl,⟨_,len,cc,rfl,.inr ⟨false,rfl⟩, ?_,k2⟩, ?_⟩
    ·simp only[PList,PRel]
     exact⟨_,_,rfl,⟨b,o,cap,sp,rfl,hl,(fun h=>by cases h),NJ,k1⟩,rfl⟩
    ·refine Nat.le_trans (Nat.mul_le_mul_right _ ?_) (hw _ (.inl rfl))
     omega
    ·have:=hB.sl (elems.map (·.1)) (rest.map (·.1))
     simp only[qy,wt]
     omega
  |struct fs=>
   obtain⟨xs,n',hn,hx,hlen,hxl,hf⟩:=DataW.trod_struct hu h
   injection hn with hn
   subst hn
   injection hx with hx _
   subst hx
   simp only[DataW.weights,hu]at hw
   obtain⟨ts,t1,t2,t3,t4⟩:=nY hB (enc:=enc) (base:=base) (held:=held) ih fs.toList 0 _ cs xs ok hlen (mapM_some_of_get _ _ (by rw[hxl,Array.length_toList]) fun i x hx=>hf i x (by simpa using hx)) hw
   exact⟨ts,by simpa using t1,t2,t3,Nat.le_trans t4 (hB.agg _)⟩
  |_=>cases ok
end Go.Ev
