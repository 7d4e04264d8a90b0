/- A tree evaluator over the model, proved against it (part G): where it answers, the call returns that answer. Conditions: none beyond its theorems' own. -/
import Derived.Test.YtfenhjpkomldcaaGreatEvF
set_option linter.unusedSimpArgs false
set_option linter.unusedVariables false
namespace Go.Ev
open Go
def kept1:T→Bool
 | .isl .S .. | .ptr .S .. | .mp .S .. =>true
 |t=>froz1 t
def kept:T→Bool
 | .agg cs=>cs.all kept1
 | .tup cs=>cs.all kept1
 | .fn _ a c=>a.all kept1&&c.all kept1
 |t=>kept1 t
theorem fz_kept1{n:Nat}{t:T}(h:kept1 t=true):fz true (n+1) t= .ret (t,[]):=by
 cases t with
 |isl sp k g off len sz=>cases sp with|S=>rfl|L=>simp[kept1,froz1]at h
 |ptr sp k g off=>cases sp with|S=>rfl|L=>simp[kept1,froz1]at h
 |mp sp k g=>cases sp with|S=>rfl|L=>simp[kept1,froz1]at h
 |_=>exact fz_froz1 h
theorem mapQ_kept1{n:Nat}: ∀(ts:List T),ts.all kept1=true→mapQ (fz true (n+1)) ts= .ret (ts,[])
 | [],_=>rfl
 |t::ts,h=>by
  simp only[List.all_cons,Bool.and_eq_true]at h
  simp only[mapQ,fz_kept1 h.1,mapQ_kept1 ts h.2,Q.bind,List.append_nil]
theorem fz_kept{n:Nat}{t:T}(h:kept t=true):fz true (n+2) t= .ret (t,[]):=by
 cases t with
 |agg cs=>simp only[kept]at h;rw[fz_agg,mapQ_kept1 cs h];rfl
 |tup cs=>simp only[kept]at h;rw[fz_tup,mapQ_kept1 cs h];rfl
 |fn f a c=>simp only[kept,Bool.and_eq_true]at h;rw[fz_fn,mapQ_kept1 a h.1,mapQ_kept1 c h.2];rfl
 |_=>exact fz_kept1 h
theorem mapQ_kept{n:Nat}: ∀(ts:List T),ts.all kept=true→mapQ (fz true (n+2)) ts= .ret (ts,[])
 | [],_=>rfl
 |t::ts,h=>by
  simp only[List.all_cons,Bool.and_eq_true]at h
  simp only[mapQ,fz_kept h.1,mapQ_kept ts h.2,Q.bind,List.append_nil]
theorem kept_i{k:IntKind}{n:Int}:kept (.i k n)=true:=nr rfl
theorem kept_s{l:List Nat}:kept (.s l)=true:=nr rfl
theorem kept_nilsl:kept .nilsl=true:=nr rfl
theorem kept_ptr{k g off:Nat}:kept (.ptr .S k g off)=true:=nr rfl
theorem kept_mp{k g:Nat}:kept (.mp .S k g)=true:=nr rfl
theorem kept_agg{cs:List T}:kept (.agg cs)=cs.all kept1:=nr rfl
theorem kept1_i{k:IntKind}{n:Int}:kept1 (.i k n)=true:=nr rfl
theorem kept1_s{l:List Nat}:kept1 (.s l)=true:=nr rfl
theorem kept1_nilmp:kept1 .nilmp=true:=nr rfl
theorem kept1_sl{cs:List T}{n:Nat}{e:Bool}:kept1 (.sl cs n e)=true:=nr rfl
theorem kept1_ptr{k g off:Nat}:kept1 (.ptr .S k g off)=true:=nr rfl
theorem kept1_mp{k g:Nat}:kept1 (.mp .S k g)=true:=nr rfl
theorem kept1_of{t:T}(h:froz1 t=true):kept1 t=true:=by cases t <;> first|rfl|(simp[froz1]at h)
section
variable{E:Env}{call:Orc}{n:Nat}{fr:Fr}{lh:Tri Ent}{sh:List Ent}{os:List AOper}{d:Nat}
theorem fzV_kept{v:T}(h:kept v=true):fzV lh sh true v=some (v,[]):=by
 unfold fzV fzFuel;rw[fz_kept h];rfl
theorem doCall_EK{dd:Nat}{af:AFunc}{f:Nat}{args:List T}(hf:E.fn f=some af)(he:af.eff=true)(hz:args.all kept=true):doCall E call dd ⟨fr,lh,sh⟩ f args=
  (call f args sh).bind fun r=>some (r.1,⟨fr,lh,r.2⟩):=by
 unfold doCall
 simp only[hf,he,if_true]
 unfold fzFuel
 rw[mapQ_kept args hz]
 simp only[Q.run,ups_nil]
 cases call f args sh <;> rfl
theorem o_boxS{x:Opd}(hd:d<n)(ht:noTup (rd fr x)=true)(hk:kept (rd fr x)=true):evOps E call n (⟨some d,.box x true,none⟩::os) ⟨fr,lh,sh⟩=evOps E call n os ⟨setF fr d (.ptr .S sh.length 1 0),lh,setE sh sh.length ⟨1,.cells (cellsOf (rd fr x)) 0 true⟩⟩:=by
 rw[e_one (by rfl) (show okD n (some d)from hd)]
 unfold one
 simp only[opQ,ht,Bool.not_true,Bool.false_eq_true,if_false,if_true]
 unfold fzFuel
 rw[fz_kept hk]
 simp only[Q.bind,List.isEmpty_nil,ht,Bool.and_self,if_true]
 rfl
theorem stQS_eqK{k g off m:Nat}{v:T}(e:Ent)(hb: ∀cs wm bx,e.ob= .cells cs wm bx→bx=true)(h1:(cellsOf v).length=m)(h2:noTup v=true)(hz:kept v=true):upRes lh sh (Q.run (St.mk .nil lh sh).get sh.length (stQS k g off m v e))=stBS lh sh k e g off v m:=by
 obtain⟨g',ob⟩:=e
 unfold stBS stQS
 by_cases hg:g'=g
 ·subst hg
  cases ob with
  |none=>simp[Q.run,upRes]
  |map ks vs z=>simp[Q.run,upRes]
  |cells cs wm bx=>
   have hbx:=hb cs wm bx rfl
   subst hbx
   by_cases hb:wm≤off∧off+m≤cs.length
   ·have hb':(decide (wm≤off)&&decide (off+m≤cs.length))=true:=by simp[hb.1,hb.2]
    have hbx:(true&&Sp.S==Sp.L)=false:=rfl
    have hbs:(true&&Sp.S==Sp.S)=true:=rfl
    unfold fzFuel
    simp only[if_true,hb',hbx,hbs,Bool.false_eq_true,if_false]
    rw[fz_kept hz]
    have hno:(hits [] Sp.S k|| !noTup v||decide ((cellsOf v).length≠m))=false:=by simp[hits,h1,h2]
    simp only[Q.bind,hno,Bool.false_eq_true,if_false,Q.run,upRes]
    rw[if_pos ⟨trivial,h1,h2,hb⟩]
    rfl
   ·have hb':(decide (wm≤off)&&decide (off+m≤cs.length))=false:=by
     cases hx:(decide (wm≤off)&&decide (off+m≤cs.length))with
     |false=>rfl
     |true=>simp at hx;exact absurd hx hb
    simp only[if_true,hb',Bool.false_eq_true,if_false,Q.run,upRes]
    rw[if_neg (by rintro⟨_,_,_,a⟩;exact hb a)]
 ·cases ob with
  |none=>simp[hg,Q.run,upRes]
  |map ks vs z=>simp[hg,Q.run,upRes]
  |cells cs wm bx=>simp[hg,Q.run,upRes]
theorem stV_SK{k g g' off m wm:Nat}{cs:List T}{v:T}(hz:kept v=true)(he:getE sh k=⟨g',.cells cs wm true⟩):stV lh sh (.ptr .S k g off) v m=stBS lh sh k ⟨g',.cells cs wm true⟩ g off v m:=by
 by_cases h1:(cellsOf v).length=m
 ·cases h2:noTup v with
  |false=>
   unfold stV stAt
   have:(decide ((cellsOf v).length≠m)|| !noTup v)=true:=by simp[h2]
   simp only[this,if_true,Q.run]
   unfold stBS
   simp[h2]
  |true=>
   unfold stV stAt
   have:(decide ((cellsOf v).length≠m)|| !noTup v)=false:=by simp[h1,h2]
   simp only[this,Bool.false_eq_true,if_false]
   have:=stQS_eqK (lh:=lh) (sh:=sh) (k:=k) (g:=g) (off:=off) ⟨g',.cells cs wm true⟩ (by intro a b c h;cases h;rfl) h1 h2 hz
   rw[←this,←he]
   rfl
 ·unfold stV stAt
  have:(decide ((cellsOf v).length≠m)|| !noTup v)=true:=by simp[h1]
  simp only[this,if_true,Q.run]
  unfold stBS
  simp[h1]
def muES(sh:List Ent)(kk:Nat)(e:Ent)(g:Nat)(ek:EK)(k v:T):Option (List Ent):=
 match e with
 |⟨g',.map ks vs false⟩=>if g'=g∧isKey ek k=true then(putK ek k v ks vs).map fun q=>setE sh kk ⟨g,.map q.1 q.2 false⟩else none
 |_=>none
theorem muES_map{kk g g':Nat}{ek:EK}{k v:T}{ks vs:List T}:muES sh kk ⟨g',.map ks vs false⟩ g ek k v=if g'=g∧isKey ek k=true then(putK ek k v ks vs).map fun q=>setE sh kk ⟨g,.map q.1 q.2 false⟩else none:=rfl
def muQS(kk g:Nat)(ek:EK)(k v:T)(e:Ent):Q Res:=if e.g=g&&isKey ek k then match e.ob with
      | .map ks vs false=>(fz false fzFuel v).bind fun p=>match putK ek k p.1 ks vs with
        |some q=>if hits p.2 .S kk then .fail else .ret (.val undefT (p.2++ [(.S,kk,⟨g,.map q.1 q.2 false⟩)]))
        |none=> .fail
      |_=> .fail
     else .fail
theorem muQS_eq{kk g:Nat}{ek:EK}{k v:T}(e:Ent)(hf:froz v=true):((unRes (Q.run (St.mk fr lh sh).get sh.length (muQS kk g ek k v e))).bind fun r=>evOps E call n os {(St.mk fr lh sh).ups r.2 with fr:=fr})=
  (muES sh kk e g ek k v).bind fun sh'=>evOps E call n os ⟨fr,lh,sh'⟩:=by
 obtain⟨g',ob⟩:=e
 unfold muQS muES
 by_cases hg:g'=g∧isKey ek k=true
 ·have:(decide (g'=g)&&isKey ek k)=true:=by simp[hg.1,hg.2]
  simp only[this,if_true]
  cases ob with
  |none=>rfl
  |cells cs wm bx=>rfl
  |map ks vs z=>
   cases z with
   |true=>rfl
   |false=>
    simp only[if_pos hg]
    unfold fzFuel
    rw[fz_froz hf]
    simp only[Q.bind]
    cases putK ek k v ks vs with
    |none=>rfl
    |some q=>simp only[hits,List.any_nil,Bool.false_eq_true,if_false,Q.run,List.nil_append];rfl
 ·have:(decide (g'=g)&&isKey ek k)=false:=by
   cases h:(decide (g'=g)&&isKey ek k)with
   |false=>rfl
   |true=>simp at h;exact absurd h hg
  simp only[this,Bool.false_eq_true,if_false,Q.run,unRes]
  cases ob with
  |none=>rfl
  |cells cs wm bx=>rfl
  |map ks vs z=>
   cases z with
   |true=>rfl
   |false=>simp only[if_neg hg];rfl
theorem p_muS{ek:EK}{m k v:Opd}{kk g:Nat}(hm:rd fr m= .mp .S kk g)(hf:froz (rd fr v)=true):evOps E call n (⟨none,.mu ek m k v,none⟩::os) ⟨fr,lh,sh⟩=(muES sh kk (getE sh kk) g ek (rd fr k) (rd fr v)).bind fun sh'=>evOps E call n os ⟨fr,lh,sh'⟩:=by
 rw[e_one (by rfl) (show okD n none from trivial)]
 unfold one
 simp only[opQ,hm]
 exact muQS_eq (getE sh kk) hf
end
section
variable{E:Env}{call:Orc}{n:Nat}{fr:Fr}{lh:Tri Ent}{sh:List Ent}{ds:List (List Nat×AOper)}{fps:List FP}{u:List Nat}{d:Option Nat}
def isSm:T→Bool
 | .mp .S .. =>true
 |_=>false
theorem isSm_mp{k g:Nat}:isSm (.mp .S k g)=true:=nr rfl
theorem d_muS{ek:EK}{m k v:Opd}(hx:isSm (rd fr m)=true)(hz:froz (rd fr v)=true):evDraw E call n ((u,⟨none,.mu ek m k v,none⟩)::ds) fps ⟨fr,lh,sh⟩=
  if meets u fps ⟨false,lkLog (rd fr m),lkLog (rd fr m)⟩=true then ke E call n ds (fps++ [⟨false,lkLog (rd fr m),lkLog (rd fr m)⟩]) (evOps E call n [⟨none,.mu ek m k v,none⟩] ⟨fr,lh,sh⟩)else none:=by
 refine d_of fun hne=> ?_
 cases hx':rd fr m with
 |mp sp kk g=>
  cases sp with
  |L=>rw[hx']at hx;simp[isSm]at hx
  |S=>
   obtain⟨w,ups,hr,hfp⟩:=fp_q (q:= .rd .S kk (muQS kk g ek (rd fr k) (rd fr v))) (by rfl) (by rw[rho_eq];simp only[opQ,hx'];rfl) hne
   simp only[Q.run,Q.log,Q.asks]at hr hfp
   have hge:(St.mk fr lh sh).get .S kk=getE sh kk:=rfl
   rw[hge]at hr hfp
   generalize he:getE sh kk=e at hr hfp
   obtain⟨g',ob⟩:=e
   unfold muQS at hr hfp
   by_cases hg:(decide (g'=g)&&isKey ek (rd fr k))=true
   ·simp only[hg,if_true]at hr hfp
    cases ob with
    |none=>simp[Q.run]at hr
    |cells cs wm bx=>simp[Q.run]at hr
    |map ks vs zz=>
     cases zz with
     |true=>simp[Q.run]at hr
     |false=>
      simp only[]at hr hfp
      unfold fzFuel at hr hfp
      rw[fz_froz hz]at hr hfp
      simp only[Q.bind]at hr hfp
      split at hr
      ·rename_i q hp
       simp only[hits,List.any_nil,Bool.false_eq_true,if_false,Q.run,Option.some.injEq,Res.val.injEq]at hr
       obtain⟨rfl,rfl⟩:=hr
       rw[hp]at hfp
       simp only[hits,List.any_nil,Bool.false_eq_true,if_false]at hfp
       refine hfp ?_
       simp only[Q.asks,Bool.false_or,inB,List.nil_append,List.all_cons,List.all_nil,Bool.and_true]
       rw[hge,he]
       rfl
      ·simp[Q.run]at hr
   ·have hg':(decide (g'=g)&&isKey ek (rd fr k))=false:=by simpa using hg
    simp only[hg',Bool.false_eq_true,if_false,Q.run]at hr
    cases hr
 |_=>rw[hx']at hx;simp[isSm]at hx
def effFP:FP:=⟨true,[],[]⟩
theorem d_callE{f:Nat}{af:AFunc}{as:List Opd}(hf:E.fn f=some af)(he:af.eff=true)(hz:(as.map (rd fr)).all kept=true):
  evDraw E call n ((u,⟨d,.callf f as,none⟩)::ds) fps ⟨fr,lh,sh⟩=if meets u fps effFP=true then ke E call n ds (fps++ [effFP]) (evOps E call n [⟨d,.callf f as,none⟩] ⟨fr,lh,sh⟩)else none:=by
 refine d_of fun hne=> ?_
 unfold operFP
 have hco:callOf (St.mk fr lh sh).rho (.callf f as)=some (some (f,as.map (rd fr))):=by rw[rho_eq];rfl
 simp only[hco]
 unfold callFP
 simp only[hf,he]
 unfold fzFuel
 rw[mapQ_kept _ hz]
 simp only[Q.run,Q.log,inB,List.all_nil,Bool.not_true,Bool.false_eq_true,if_false,if_true,upKeys,List.map_nil]
 rfl
theorem apart_eff_r{rs ws:List (Sp×Nat)}:apart ⟨false,rs,ws⟩ effFP=(noS rs&&noS ws):=by
 unfold apart effFP apart1
 have h1:(ws.all fun x=> !([]:List (Sp×Nat)).contains x)=true:=by rw[List.all_eq_true];intro x _;rfl
 have h2:(rs.all fun x=> !([]:List (Sp×Nat)).contains x)=true:=by rw[List.all_eq_true];intro x _;rfl
 simp[h1,h2]
theorem apart_eff_l{rs ws:List (Sp×Nat)}:apart effFP ⟨false,rs,ws⟩=(noS rs&&noS ws):=by
 unfold apart effFP apart1
 simp
theorem noS_nil:noS []=true:=nr rfl
theorem noS_L{k:Nat}{xs:List (Sp×Nat)}:noS ((.L,k)::xs)=noS xs:=nr rfl
end
end Go.Ev
namespace Go.Ev
open Go
section
variable{E:Env}{n:Nat}{a:ACode}
theorem loop_inv(I:Nat→St→Prop)(R:Out→St→Prop)(N:Nat)
  (step: ∀k st,k<N→I k st→(∃st',DC E n a st=some (.nrm,st')∧I (k+1) st')∨(∃o st',o≠ .nrm∧DC E n a st=some (o,st')∧R o st'))
  (last: ∀st,I N st→ ∃o st',o≠ .nrm∧DC E n a st=some (o,st')∧R o st'):
  ∀(k:Nat) (st:St),k≤N→I k st→ ∃o st',DC E n (.loop a) st=some (o,st')∧R o st':=by
 have leave: ∀{st o st'},o≠ .nrm→DC E n a st=some (o,st')→DC E n (.loop a) st=some (o,st'):=by
  intro st o st' ho h
  rw[DC_loop,h]
  cases o with
  |nrm=>exact absurd rfl ho
  |ext id=>rfl
  |ret=>rfl
 have main: ∀(m k:Nat) (st:St),N-k=m→k≤N→I k st→ ∃o st',DC E n (.loop a) st=some (o,st')∧R o st':=by
  intro m
  induction m with
  |zero=>
   intro k st hm hk h
   have:k=N:=by omega
   subst this
   obtain⟨o,st',ho,h1,h2⟩:=last st h
   exact⟨o,st',leave ho h1,h2⟩
  |succ m ih=>
   intro k st hm hk h
   rcases step k st (by omega) h with⟨st',h1,h2⟩|⟨o,st',ho,h1,h2⟩
   ·obtain⟨o,st2,h3,h4⟩:=ih (k+1) st' (by omega) (by omega) h2
    refine⟨o,st2, ?_,h4⟩
    rw[DC_loop,h1,andThen_nrm]
    exact h3
   ·exact⟨o,st',leave ho h1,h2⟩
 intro k st hk h
 exact main (N-k) k st rfl hk h
theorem loop_rule{fr:Fr}{lh:Tri Ent}{sh:List Ent}{o:Out}{P:Fr→Tri Ent→List Ent→Prop}
  (h: ∃o' st',DC E n (.loop a) ⟨fr,lh,sh⟩=some (o',st')∧o'=o∧P st'.fr st'.lh st'.sh):
  DC E n (.loop a) ⟨fr,lh,sh⟩=some (o,⟨frL E n a fr lh sh,lhL E n a fr lh sh,shL E n a fr lh sh⟩)∧P (frL E n a fr lh sh) (lhL E n a fr lh sh) (shL E n a fr lh sh):=by
 obtain⟨o',st',h1,rfl,h2⟩:=h
 exact loop_fix3 ⟨st'.fr,st'.lh,st'.sh,h1,h2⟩
end
theorem IsSl.kept1{v:T}{n:Nat}{cs:List T}(h:IsSl v n cs):kept1 v=true:=kept1_of h.froz1
end Go.Ev
namespace Go.Ev
open Go
section
variable{st:St}{nx:Nat}
end
section
variable{E:Env}{call:Orc}{n:Nat}{fr:Fr}{lh:Tri Ent}{sh:List Ent}{ds:List (List Nat×AOper)}{fps:List FP}{u:List Nat}{d:Option Nat}
def isBoxE:Ent→Bool
 |⟨_,.cells _ _ bx⟩=>bx
 |_=>false
def isBox(lh:Tri Ent):T→Bool
 | .ptr .L k _ _=>isBoxE (getO lh k)
 |_=>false
theorem isBox_ptr{k g off:Nat}:isBox lh (.ptr .L k g off)=isBoxE (getO lh k):=nr rfl
theorem isBoxE_cells{g wm:Nat}{cs:List T}{bx:Bool}:isBoxE ⟨g,.cells cs wm bx⟩=bx:=nr rfl
theorem d_stN{x v:Opd}{m:Nat}(hx:isBox lh (rd fr x)=true):evDraw E call n ((u,⟨none,.st x v m,none⟩)::ds) fps ⟨fr,lh,sh⟩=
  if meets u fps ⟨false,ldLog (rd fr x),ldLog (rd fr x)⟩=true then ke E call n ds (fps++ [⟨false,ldLog (rd fr x),ldLog (rd fr x)⟩]) (evOps E call n [⟨none,.st x v m,none⟩] ⟨fr,lh,sh⟩)else none:=by
 refine d_of fun hne=> ?_
 cases hx':rd fr x with
 |ptr sp k g off=>
  cases sp with
  |S=>rw[hx']at hx;simp[isBox]at hx
  |L=>
   obtain⟨w,ups,hr,hfp⟩:=fp_q (q:=stAt (rd fr x) (rd fr v) m) (by rfl) (by rw[rho_eq];rfl) hne
   rw[hx']at hx hr hfp
   simp only[isBox]at hx
   unfold stAt at hr hfp
   split at hr
   ·simp[Q.run]at hr
   ·rename_i hb
    rw[if_neg hb]at hfp
    simp only[Q.run,Q.asks,Q.log]at hr hfp
    have hge:(St.mk fr lh sh).get .L k=getO lh k:=rfl
    rw[hge]at hr hfp
    generalize getO lh k=e at hx hr hfp
    obtain⟨g',ob⟩:=e
    cases ob with
    |none=>simp[isBoxE]at hx
    |map a b c=>simp[isBoxE]at hx
    |cells cs wm bx=>
     simp only[isBoxE]at hx
     subst hx
     simp only at hr hfp
     split at hr
     ·rename_i hg
      rw[if_pos hg]at hfp
      split at hr
      ·rename_i hc
       rw[if_pos hc]at hfp
       have hbb:(true&&Sp.L==Sp.L)=true:=rfl
       simp only[hbb,if_true,Q.run,Option.some.injEq,Res.val.injEq]at hr hfp
       obtain⟨rfl,rfl⟩:=hr
       exact hfp rfl
      ·simp[Q.run]at hr
     ·simp[Q.run]at hr
 |_=>rw[hx']at hx;simp[isBox]at hx
end
section
variable{α β:Type}[DecidableEq α]
def lookA:List (α×β)→α→Option β
 | [],_=>none
 |p::m,a=>if a=p.1 then some p.2 else lookA m a
def placeA:List (α×β)→α→Option Nat
 | [],_=>none
 |p::m,a=>if a=p.1 then some 0 else(placeA m a).map (· +1)
variable{ek:EK}{kT:α→T}{vT:β→T}
theorem find_A(heq: ∀a b,eqT ek (kT a) (kT b)=some (decide (a=b)))(a:α): ∀m:List (α×β),findI ek (kT a) (m.map fun p=>kT p.1)=some (placeA m a)
 | []=>rfl
 |p::m=>by
  rw[List.map_cons,find_cons,heq,find_A heq a m,placeA]
  by_cases h:a=p.1
  ·rw[decide_eq_true h,if_pos h];rfl
  ·rw[decide_eq_false h,if_neg h];rfl
theorem place_look(a:α): ∀m:List (α×β),lookA m a=(placeA m a).bind fun i=>(m[i]?).map (·.2)
 | []=>rfl
 |p::m=>by
  rw[lookA,placeA]
  by_cases h:a=p.1
  ·rw[if_pos h,if_pos h];rfl
  ·rw[if_neg h,if_neg h,place_look a m]
   cases placeA m a <;> rfl
theorem place_lt(a:α): ∀(m:List (α×β)) (i:Nat),placeA m a=some i→i<m.length
 | [],i,h=>by simp[placeA]at h
 |p::m,i,h=>by
  rw[placeA]at h
  split at h
  ·simp at h;subst h;simp
  ·cases hp:placeA m a with
   |none=>rw[hp]at h;simp at h
   |some j=>
    rw[hp]at h
    simp at h
    have:=place_lt a m j hp
    subst h;simpa using this
theorem lk_A(heq: ∀a b,eqT ek (kT a) (kT b)=some (decide (a=b)))(hk: ∀a,isKey ek (kT a)=true)(m:List (α×β))(a:α)(z:T):
  lkIn ek (m.map fun p=>kT p.1) (m.map fun p=>vT p.2) (kT a) z true=some (match lookA m a with|some v=> .tup [vT v,.b true]|none=> .tup [z,.b false]):=by
 rw[lkIn_eq (hk a),find_A heq,place_look]
 cases hp:placeA m a with
 |none=>rfl
 |some i=>
  have:=place_lt a m i hp
  rw[lkF_some]
  simp[List.getElem?_eq_getElem this]
theorem lk_A1(heq: ∀a b,eqT ek (kT a) (kT b)=some (decide (a=b)))(hk: ∀a,isKey ek (kT a)=true)(m:List (α×β))(a:α)(z:T):
  lkIn ek (m.map fun p=>kT p.1) (m.map fun p=>vT p.2) (kT a) z false=some (match lookA m a with|some v=>vT v|none=>z):=by
 rw[lkIn_eq (hk a),find_A heq,place_look]
 cases hp:placeA m a with
 |none=>rfl
 |some i=>
  have:=place_lt a m i hp
  rw[lkF_some]
  simp[List.getElem?_eq_getElem this]
theorem put_A(heq: ∀a b,eqT ek (kT a) (kT b)=some (decide (a=b)))(m:List (α×β))(a:α)(v:β)(h:lookA m a=none):
  putK ek (kT a) (vT v) (m.map fun p=>kT p.1) (m.map fun p=>vT p.2)=some ((m++ [(a,v)]).map (fun p=>kT p.1),(m++ [(a,v)]).map (fun p=>vT p.2)):=by
 rw[putK_eq,find_A heq]
 rw[place_look]at h
 cases hp:placeA m a with
 |none=>simp[putF_none]
 |some i=>
  have:=place_lt a m i hp
  rw[hp]at h
  simp[List.getElem?_eq_getElem this]at h
theorem lookA_app(a b:α)(v:β): ∀m:List (α×β),lookA (m++ [(b,v)]) a=match lookA m a with|some u=>some u|none=>if a=b then some v else none
 | []=>by simp[lookA]
 |p::m=>by
  rw[List.cons_append,lookA,lookA,lookA_app a b v m]
  by_cases h:a=p.1 <;> simp[h]
end
end Go.Ev
namespace Go.Ev
open Go
def upsS(sh:List Ent):List Up→List Ent
 | []=>sh
 |(.L,_,_)::us=>upsS sh us
 |(.S,k,e)::us=>upsS (setE sh k e) us
theorem ups_shS: ∀(us:List Up) (fr:Fr) (lh:Tri Ent) (sh:List Ent),((St.mk fr lh sh).ups us).sh=upsS sh us
 | [],_,_,_=>rfl
 |(.L,k,e)::us,fr,lh,sh=>ups_shS us fr (setO lh k e) sh
 |(.S,k,e)::us,fr,lh,sh=>ups_shS us fr lh (setE sh k e)
def OutS(lh:Tri Ent)(v:T)(k sz n:Nat)(cs:List T):Prop:=
 (n=0∧v= .nilsl∧cs= [])∨(∃g wm,v= .isl .L k g 0 n sz∧getO lh k=⟨g,.cells cs wm false⟩∧cs.length=n*sz∧0<n)
def outT(n:Nat)(cs:List T):T:=if n=0 then .nilsl else .sl cs n false
theorem outT_isl{n:Nat}{cs:List T}(h:n=0→cs= []):IsSl (outT n cs) n cs:=by
 unfold outT
 split
 ·rename_i h0;exact Or.inl ⟨rfl,h0,h h0⟩
 ·exact Or.inr ⟨false,rfl⟩
section
variable{lh:Tri Ent}{sh:List Ent}{v:T}{k sz n:Nat}{cs:List T}
theorem OutS.nil:OutS lh .nilsl k sz 0 []:=Or.inl ⟨rfl,rfl,rfl⟩
theorem OutS.notS(h:OutS lh v k sz n cs):Ev.notS v=true:=by
 rcases h with⟨_,rfl,_⟩|⟨g,wm,rfl,_⟩ <;> rfl
theorem OutS.lenI(h:OutS lh v k sz n cs):Ev.lenI v=some (.i .i64 (n:Int)):=by
 rcases h with⟨rfl,rfl,_⟩|⟨g,wm,rfl,_⟩ <;> rfl
def nxV(lh:Tri Ent)(sh:List Ent)(d sz bytes:Nat)(s x:T):T:=match Ev.appW lh sh d sz bytes s x with|some p=>p.1|none=>undefT
def nxH(lh:Tri Ent)(sh:List Ent)(d sz bytes:Nat)(s x:T):Tri Ent:=match Ev.appW lh sh d sz bytes s x with|some p=>p.2|none=>lh
theorem OutS.appW{m bytes:Nat}{ps:List T}{x:T}(h:OutS lh v k sz n cs)(hx:Ev.slC lh sh sz x=some (m+1,ps))(hps:ps.length=(m+1)*sz)(hr:(n+(m+1))*bytes≤roomy):
  Ev.appW lh sh k sz bytes v x=some (nxV lh sh k sz bytes v x,nxH lh sh k sz bytes v x)∧OutS (nxH lh sh k sz bytes v x) (nxV lh sh k sz bytes v x) k sz (n+(m+1)) (cs++ps)∧ ∀j,j≠k→getO (nxH lh sh k sz bytes v x) j=getO lh j:=by
 have key: ∃v' lh',Ev.appW lh sh k sz bytes v x=some (v',lh')∧OutS lh' v' k sz (n+(m+1)) (cs++ps)∧ ∀j,j≠k→getO lh' j=getO lh j:=by
  unfold Ev.appW
  rw[hx,Option.bind_some]
  rcases h with⟨rfl,rfl,rfl⟩|⟨g,wm,rfl,h2,h3,h4⟩
  ·rw[appV_nil,if_pos (by simpa using hr)]
   refine⟨_,_,rfl,Or.inr ⟨_,_,by rw[Nat.zero_add],getO_same _ _ _,by simpa using hps,by omega⟩,fun j hj=>getO_ne _ _ hj⟩
  ·rw[appV_isl,h2,appE_cells,if_pos ⟨rfl,rfl,hr,rfl,h3.symm⟩]
   refine⟨_,_,rfl,Or.inr ⟨_,_,rfl,getO_same _ _ _,by rw[List.length_append,h3,hps,Nat.add_mul n (m+1)],by omega⟩,fun j hj=>getO_ne _ _ hj⟩
 obtain⟨v',lh',h1,h2,h3⟩:=key
 have e1:nxV lh sh k sz bytes v x=v':=by unfold nxV;rw[h1]
 have e2:nxH lh sh k sz bytes v x=lh':=by unfold nxH;rw[h1]
 rw[e1,e2]
 exact⟨h1,h2,h3⟩
def fzU(lh:Tri Ent):T→List Up
 | .isl .L k g _ _ _=>match getO lh k with|⟨_,.cells cs _ _⟩=> [(.L,k,⟨g,.cells cs cs.length false⟩)]|_=> []
 |_=> []
theorem upsS_fzU{sh:List Ent}{lh:Tri Ent}{v:T}:upsS sh (fzU lh v)=sh:=by
 unfold fzU
 split
 ·split <;> rfl
 ·rfl
theorem OutS.fzW{m:Nat}{keep:Bool}(h:OutS lh v k sz n cs):Ev.fzW m lh sh keep v=some (outT n cs,fzU lh v):=by
 rcases h with⟨rfl,rfl,rfl⟩|⟨g,wm,rfl,h2,h3,h4⟩
 ·rfl
 ·rw[fzW_isl,h2,islV_cells,if_pos ⟨rfl,by omega⟩,List.drop_zero,←h3,List.take_length]
  unfold outT fzU
  rw[if_neg (by omega)]
  simp only[h2]
theorem OutS.fzV{keep:Bool}(h:OutS lh v k sz n cs):Ev.fzV lh sh keep v=some (outT n cs,fzU lh v):=by
 rcases h with⟨rfl,rfl,rfl⟩|⟨g,wm,rfl,h2,h3,h4⟩
 ·rfl
 ·rw[fzV_isl,h2,islV_cells,if_pos ⟨rfl,by omega⟩,List.drop_zero,←h3,List.take_length]
  unfold outT fzU
  rw[if_neg (by omega)]
  simp only[h2]
end
def muSV(sh:List Ent)(ek:EK)(m k v:T):Option (List Ent):=match m with| .mp .S kk g=>muES sh kk (getE sh kk) g ek k v|_=>none
theorem muSV_mp{sh:List Ent}{ek:EK}{kk g:Nat}{k v:T}:muSV sh ek (.mp .S kk g) k v=muES sh kk (getE sh kk) g ek k v:=nr rfl
theorem q_muS{E:Env}{call:Orc}{n:Nat}{fr:Fr}{lh:Tri Ent}{sh:List Ent}{os:List AOper}{ek:EK}{m k v:Opd}(hm:isSm (rd fr m)=true)(hf:froz (rd fr v)=true):evOps E call n (⟨none,.mu ek m k v,none⟩::os) ⟨fr,lh,sh⟩=ks (evOps E call n os) fr ((muSV sh ek (rd fr m) (rd fr k) (rd fr v)).map fun sh'=>(lh,sh')):=by
 cases h:rd fr m with
 |mp sp kk g=>
  cases sp with
  |L=>rw[h]at hm;simp[isSm]at hm
  |S=>
   rw[p_muS h hf,muSV_mp]
   cases muES sh kk (getE sh kk) g ek (rd fr k) (rd fr v) <;> rfl
 |_=>rw[h]at hm;simp[isSm]at hm
theorem IsSl.kept{v:T}{n:Nat}{cs:List T}(h:IsSl v n cs):kept v=true:=by
 rcases h with⟨rfl,_,_⟩|⟨ex,rfl⟩ <;> rfl
end Go.Ev
namespace Go.Ev
open Go
theorem and_maskU(m:Nat)(hm:m≤62)(a:Int):Ev.bin .and (.i .u64 a) (.i .u64 (2 ^ m-1))=some (.i .u64 (a%2 ^ m)):=by
 have h2:(2:Int) ^ m=((2 ^ m:Nat):Int):=by norm_cast
 have hpos:0<2 ^ m:=Nat.two_pow_pos m
 have hle:2 ^ m≤2 ^ 62:=Nat.pow_le_pow_right (by omega) hm
 have hmask:(BitVec.ofInt 64 ((2:Int) ^ m-1)).toNat=2 ^ m-1:=by
  rw[BitVec.toNat_ofInt,h2]
  have:((2 ^ m:Nat):Int)-1=((2 ^ m-1:Nat):Int):=by omega
  rw[this]
  have h3:((2 ^ m-1:Nat):Int)%((2 ^ 64:Nat):Int)=((2 ^ m-1:Nat):Int):=Int.emod_eq_of_lt (by omega) (by omega)
  rw[h3];rfl
 have hand:(BitVec.ofInt 64 a &&& BitVec.ofInt 64 ((2:Int) ^ m-1)).toNat=(a%2 ^ m).toNat:=by
  rw[BitVec.toNat_and,hmask,Nat.and_two_pow_sub_one_eq_mod,BitVec.toNat_ofInt]
  have hnn:0≤a%((2 ^ 64:Nat):Int):=Int.emod_nonneg _ (by omega)
  have h4:(a%((2 ^ 64:Nat):Int))%((2 ^ m:Nat):Int)=a%((2 ^ m:Nat):Int):=Int.emod_emod_of_dvd a (by
   have:(2 ^ m:Nat)∣2 ^ 64:=Nat.pow_dvd_pow 2 (by omega)
   exact Int.natCast_dvd_natCast.2 this)
  have h5:(((a%((2 ^ 64:Nat):Int)).toNat%2 ^ m:Nat):Int)=a%((2 ^ m:Nat):Int):=by
   rw[Int.natCast_emod,Int.toNat_of_nonneg hnn,h4]
  rw[h2,←h5];exact(Int.toNat_natCast _).symm
 have hb:(IntKind.u64).bits=64:=rfl
 simp only[Ev.bin,if_true,binI]
 have hr0:0≤a%2 ^ m:=by rw[h2];exact Int.emod_nonneg _ (by omega)
 have hr1:a%2 ^ m<2 ^ m:=by rw[h2];exact Int.emod_lt_of_pos _ (by omega)
 have hw:IntKind.wrap .u64 ((BitVec.ofInt (IntKind.u64).bits a &&& BitVec.ofInt (IntKind.u64).bits ((2:Int) ^ m-1)).toNat:Int)=a%2 ^ m:=by
  show IntKind.wrap .u64 (((BitVec.ofInt 64 a &&& BitVec.ofInt 64 ((2:Int) ^ m-1)).toNat:Nat):Int)=_
  rw[hand,Int.toNat_of_nonneg hr0]
  unfold IntKind.wrap
  simp only[hb]
  have h6:(a%2 ^ m)%(2 ^ 64:Int)=a%2 ^ m:=Int.emod_eq_of_lt hr0 (by
   have:(2:Int) ^ m≤2 ^ 62:=by rw[h2];exact_mod_cast hle
   omega)
  rw[h6,if_neg]
  intro hc
  simp only[Bool.and_eq_true,decide_eq_true_eq,ge_iff_le]at hc
  have:(2:Int) ^ m≤2 ^ 62:=by rw[h2];exact_mod_cast hle
  have h7:=hc.2
  omega
 rw[hw]
theorem and_u32{a:Int}:Ev.bin .and (.i .u64 a) (.i .u64 4294967295)=some (.i .u64 (a%4294967296)):=and_maskU 32 (by omega) a
theorem shr_natU{k':IntKind}{a:Int}{b:Nat}(h:b≤64):Ev.bin .shr (.i .u64 a) (.i k' (b:Int))=some (.i .u64 (a/2 ^ b)):=by
 rw[shr_lit,if_neg (by omega),Int.toNat_natCast]
 have:min b (IntKind.u64).bits=b:=Nat.min_eq_left h
 rw[this,Int.fdiv_eq_ediv_of_nonneg]
 exact Int.le_of_lt (Int.pow_pos (by omega))
theorem shr_u32{k':IntKind}{a:Int}:Ev.bin .shr (.i .u64 a) (.i k' 32)=some (.i .u64 (a/4294967296)):=shr_natU (b:=32) (by omega)
theorem and_bit{a b:Int}(ha:a=0∨a=1)(hb:b=0∨b=1):Ev.bin .and (.i .i64 a) (.i .i64 b)=some (.i .i64 (min a b)):=by
 rcases ha with rfl|rfl <;> rcases hb with rfl|rfl <;> rfl
theorem or_bit{a b:Int}(ha:a=0∨a=1)(hb:b=0∨b=1):Ev.bin .or (.i .i64 a) (.i .i64 b)=some (.i .i64 (max a b)):=by
 rcases ha with rfl|rfl <;> rcases hb with rfl|rfl <;> rfl
def rowC(lh:Tri Ent)(k:Nat):List T:=match getO lh k with|⟨_,.cells cs _ _⟩=>cs|_=> []
theorem rowC_of{lh:Tri Ent}{k g wm:Nat}{cs:List T}{bx:Bool}(h:getO lh k=⟨g,.cells cs wm bx⟩):rowC lh k=cs:=by unfold rowC;rw[h]
theorem row_ex{lh:Tri Ent}{k g wm:Nat}{bx:Bool}{P:List T→Prop}(h: ∃cs,getO lh k=⟨g,.cells cs wm bx⟩∧P cs):getO lh k=⟨g,.cells (rowC lh k) wm bx⟩∧P (rowC lh k):=by
 obtain⟨cs,h1,h2⟩:=h
 rw[rowC_of h1];exact⟨h1,h2⟩
end Go.Ev
