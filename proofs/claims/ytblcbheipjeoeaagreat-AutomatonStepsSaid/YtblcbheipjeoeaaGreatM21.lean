/- The automaton's Run. A task is added to a state: the reference. The reference's Start and Extend. Conditions: the theorems' own. -/
import Derived.Test.YtblcbheipjeoeaaGreatM20
import Derived.KernelRfl
set_option maxRecDepth 100000
set_option linter.unusedSimpArgs false
set_option linter.unusedVariables false
set_option maxHeartbeats 16000000
namespace Go.Proofs.YtblcbheipjeoeaaGreat
open Go Go.Ev
def lW(fl:List Fl)(s:se):List (Int×Bool)→se
 | []=>s
 |k::r=>lW fl (sU (zG fl s.lf) (zG fl k.1) k s) r
theorem Di(fl:List Fl): ∀(d:List (Int×Bool)) (s:se) (k:Int×Bool),lW fl s (d++ [k])=sU (zG fl (lW fl s d).lf) (zG fl k.1) k (lW fl s d)
 | [],s,k=>rfl
 |l::d,s,k=>by rw[List.cons_append,lW,Di fl d,lW]
theorem x7(fl:List Fl)(s:se){d:List (Int×Bool)}{i:Nat}(h:i<d.length):lW fl s (d.take (i+1))=sU (zG fl (lW fl s (d.take i)).lf) (zG fl d[i].1) d[i] (lW fl s (d.take i)):=by
 rw[List.take_succ_eq_append_getElem h,Di]
def abD(n:Nat)(s:se)(m:Nat)(l:Int):Prop:=xi n s=true∧s.lg+s.hd=m∧s.bl≤1440*m∧s.lf=l∧s.ty.length≤m
theorem abE(f:Fl)(k:Int×Bool)(s:se):(kF f k s).ty.length≤s.ty.length+1:=by
 unfold kF
 split
 ·exact Nat.le_succ _
 ·exact Hb _ _
theorem EG(c:Ct)(hc:0≤c.cn∧c.st≤1440)(fl:List Fl)(y8: ∀f∈fl,xV f)(d:List (Int×Bool))(h1:1≤d.length)(h6:d.length≤6)(gz: ∀k∈d,ry fl.length k.1=true)(Ra:EC c fl d=true): ∀i (hi:i<d.length),abD fl.length (lW fl (kF (zG fl d[0].1) d[0] (pt d[0])) (d.tail.take i)) (i+1) d[i].1
 |0,hi=>by
  obtain⟨j,hj,e⟩:=lV (gz _ (List.getElem_mem hi))
  rw[List.take_zero,lW,e,nG hj]
  obtain⟨q1,q2,q3,q4⟩:=VK fl y8 d[0] j hj e
  exact⟨q1,by rw[q2];rfl,by simpa using q3,q4,abE _ _ _⟩
 |i+1,hi=>by
  have ih:=EG c hc fl y8 d h1 h6 gz Ra i (by omega)
  have ht:i<d.tail.length:=by rw[List.length_tail];omega
  have Gb:d.tail[i]=d[i+1]:=by rw[List.getElem_tail]
  rw[x7 fl _ ht,Gb]
  generalize lW fl (kF (zG fl d[0].1) d[0] (pt d[0])) (d.tail.take i)=s at*
  obtain⟨q1,q2,q3,q4,q5⟩:=ih
  obtain⟨a,ha,ea⟩:=lV (gz _ (List.getElem_mem (by omega:i<d.length)))
  obtain⟨b,hb,eb⟩:=lV (gz _ (List.getElem_mem hi))
  have hj:Ez c fl[a] fl[b]=true:=by
   have:EC c fl (d.drop i)=true:=by
    clear q1 q2 q3 q4 q5 ea eb
    induction i with
    |zero=>exact Ra
    |succ i ih=>
     have:=ih (by omega) (by rw[List.length_tail];omega) (by rw[List.getElem_tail])
     rw[xX c fl (by omega:i+1<d.length),Bool.and_eq_true]at this
     exact this.2
   rw[xX c fl hi,Bool.and_eq_true,ea,eb,Bq c fl ha hb]at this
   exact this.1
  rw[q4,ea,eb,nG ha,nG hb]
  obtain⟨p1,p2,p3,p4⟩:=VL c hc fl y8 d[i+1] s a b ha hb eb q1 hj (by omega) (by unfold M5;omega)
  exact⟨p1,by rw[p2];omega,by omega,p4,Nat.le_trans (abE _ _ _) (Nat.succ_le_succ q5)⟩
def Bv(t:Tt)(c:Ct)(d:List (Int×Bool)):se×Int:=if mQ t c≠0 then(oq,mQ t c)else if xW c t.fl d≠0 then(oq,xW c t.fl d)else(lW t.fl (kF (zG t.fl (d.headD (0,false)).1) (d.headD (0,false)) (pt (d.headD (0,false)))) d.tail,0)
theorem KU{c:Ct}{fl:List Fl}{d:List (Int×Bool)}(h:xW c fl d=0):1≤d.length∧d.length≤6∧(∀k∈d,ry fl.length k.1=true)∧EC c fl d=true:=by
 unfold xW at h
 split at h
 ·cases h
 split at h
 ·cases h
 split at h
 ·split at h
  ·rename_i a b e g;exact⟨by omega,by omega,List.all_eq_true.1 e,g⟩
  ·cases h
 ·cases h
theorem Hd.tail{k:Int×Bool}{r:List (Int×Bool)}{v:T}(h:Hd (k::r) v): ∃v',tN 2 v 1 (r.length+1)=some v'∧Hd r v':=by
 obtain⟨cc,h1,h2⟩:=h
 obtain⟨p,q,rfl,e,h3⟩:=h2
 have hl:=fy.len VQ.len h3
 rw[VQ]at e
 subst e
 rcases h1 with⟨_,h1,_⟩|⟨ex,rfl⟩
 ·simp at h1
 ·refine⟨_, ?_,q,.inr ⟨(ex&&decide (r.length+1=(k::r).length)),rfl⟩,h3⟩
  unfold tN
  simp only[List.length_cons]
  rw[if_pos ⟨by omega,by omega,by simp[hl];omega⟩]
  simp only[Option.some.injEq,T.sl.injEq,and_true]
  exact⟨List.take_of_length_le (by simp[hl]),by omega⟩
theorem aiT(t:Tt)(c:Ct)(zT aT fT a7 a8 a9 a10 fB fA:T)(vs:List T)(hT:uC t zT aT fT)(ht: ∀f∈t.fl,xV f)(s0:se)(r:List (Int×Bool))(hr6:r.length≤5)(gz: ∀k∈r,ry t.fl.length k.1=true)(l0:Int)(hl0:ry t.fl.length l0=true)(hinv: ∀i (hi:i≤r.length),abD t.fl.length (lW t.fl s0 (r.take i)) (i+1) (if h:i=0 then l0 else r[i-1].1))(v':T)(hv:Hd r v')(fr:Fr)(lh:fC fg)(sh:List fg)(D:Option (Out×St))(a:T)(ha:mi s0 a)(x6:T)(e6:fg)
  (hD:DC pE 49 (.loop vh) ⟨fr,lh,sh⟩=D) (h6:an fr 6=x6) (h8:an fr 8=sI c zT aT fT a7 a8 a9 a10 fB fA vs) (nR:an fr 11= .ptr .L 11 1 0) (xg:an fr 37=v') (h38:an fr 38= .i .i64 (r.length:Int)) (h39:an fr 39= .i .i64 0) (o6:be lh 6=e6) (S2:be lh 11=⟨1,.cells (gv s0 a) 0 true⟩):
  ∃f' l' a',D=some (.ext 0,⟨f',l',sh⟩)∧an f' 6=x6∧an f' 11= .ptr .L 11 1 0∧be l' 6=e6∧be l' 11=⟨1,.cells (gv (lW t.fl s0 r) a') 0 true⟩∧mi (lW t.fl s0 r) a':=by
 have main:=oD (E:=pE) (n:=49) (a:=vh) (fun k st=> ∃(fr:Fr) (lh:fC fg) (a:T),st=⟨fr,lh,sh⟩∧an fr 6=x6∧an fr 8=sI c zT aT fT a7 a8 a9 a10 fB fA vs∧an fr 11= .ptr .L 11 1 0∧an fr 37=v'∧an fr 38= .i .i64 (r.length:Int)∧an fr 39= .i .i64 (k:Int)∧be lh 6=e6∧be lh 11=⟨1,.cells (gv (lW t.fl s0 (r.take k)) a) 0 true⟩∧mi (lW t.fl s0 (r.take k)) a)
  (fun fR fH fL=>fL=sh∧an fR 6=x6∧an fR 11= .ptr .L 11 1 0∧be fH 6=e6∧ ∃a',be fH 11=⟨1,.cells (gv (lW t.fl s0 r) a') 0 true⟩∧mi (lW t.fl s0 r) a') (.ext 0) r.length ?_ ?_ fr lh sh ⟨fr,lh,a,rfl,h6,h8,nR,xg,h38,h39,o6,S2,ha⟩
 ·obtain⟨e,p1,p2,p3,p4,a',p5,p6⟩:=main
  rw[p1]at e
  exact⟨_,_,a',by rw[←hD];exact e,p2,p3,p4,p5,p6⟩
 ·rintro k _ hk ⟨fr,lh,a,rfl,h6,h8,nR,xg,h38,h39,o6,S2,ha⟩
  have fK:(k:Int)<r.length:=by omega
  have hw:=gl (k:=k) (by omega)
  obtain⟨rr,fF⟩:=u9 hv k hk
  have hI:=hinv k (by omega)
  have M9:=EE c zT aT fT a7 a8 a9 a10 fB fA vs
  rw[x7 t.fl s0 hk]
  generalize lW t.fl s0 (r.take k)=s at*
  obtain⟨j,qj,ej⟩:=lV (gz _ (List.getElem_mem hk))
  obtain⟨q1,q2,q3,q4,q5⟩:=hI
  have Nr:=(nD.1 q1).2.1
  obtain⟨i,qi,ei⟩:=lV Nr
  obtain⟨a',lX,tr⟩:=KS t c zT aT fT a7 a8 a9 a10 fB fA vs hT ht s a ha (Jf q1 (by omega)) r[k] i j qi qj ei ej
  have hx:=tr.froz1
  have SO:=tr.cells
  have E2:=ha.froz1
  have hyc:=ha.cells
  rw[ei,ej,nG qi,nG qj]
  generalize r[k]=y at*
  generalize sU t.fl[i] t.fl[j] y s=s' at*
  unfold gv at lX S2
  simp(maxDischargeDepth:=6) only[qA,seval,vh,h8,nR,xg,h38,h39,S2,fK,hw,fF,M9,lX,afF,E2]
  exact qq ⟨_,_,a',rfl,by simp(maxDischargeDepth:=6) only[qA,seval,h6],by simp(maxDischargeDepth:=6) only[qA,seval,h8],by simp(maxDischargeDepth:=6) only[qA,seval,nR],by simp(maxDischargeDepth:=6) only[qA,seval,xg],by simp(maxDischargeDepth:=6) only[qA,seval,h38],by simp(maxDischargeDepth:=6) only[qA,seval],by simp(maxDischargeDepth:=6) only[qA,seval,o6],by unfold gv;simp(maxDischargeDepth:=6) only[qA,seval],tr⟩
 ·rintro _ ⟨fr,lh,a,rfl,h6,h8,nR,xg,h38,h39,o6,S2,ha⟩
  rw[List.take_length]at S2 ha
  simp(maxDischargeDepth:=6) only[qA,seval,vh,h38,h39,Int.lt_irrefl]
  exact po ⟨rfl,rfl,by simp(maxDischargeDepth:=6) only[qA,seval,h6],by simp(maxDischargeDepth:=6) only[qA,seval,nR],o6,a,S2,ha⟩
section
variable(t:Tt)(c:Ct)(zT aT fT a7 a8 a9 a10 fB fA:T)(hT:uC t zT aT fT)(hC:xu c a7 a8 a9 a10 fB fA)(hN:S1 c)
include hC hN hT
theorem V3(d:List (Int×Bool))(dT:T)(hd:Hd d dT)(hlen:d.length≤1000): ∃a' r,fj pE 13 [.agg [zT,aT,fT],.agg (fX c a7 a8 a9 a10 fB fA),dT] []=some (.tup [.agg (gv (Bv t c d).1 a'),.i .i64 (Bv t c d).2],r)∧mi (Bv t c d).1 a':=by
 have hz:=V1 t c zT aT fT a7 a8 a9 a10 fB fA hT hC
 have hyd:=hd.choose_spec.1.froz1
 have YA:=hd.choose_spec.1.froz
 have hyc:=hd.choose_spec.1.cells
 unfold Bv
 by_cases h:mQ t c=0
 ·obtain⟨s0,vs,kN⟩:=RO t c zT aT fT a7 a8 a9 a10 fB fA hT hC hN h
  obtain⟨ht,hc⟩:=vN t c zT aT fT a7 a8 a9 a10 fB fA hT hC hN h
  have M9:=EE c zT aT fT a7 a8 a9 a10 fB fA vs
  have RQ:=abm t c zT aT fT a7 a8 a9 a10 fB fA vs hT d dT hd hlen
  rw[if_neg (by simp[h])]
  rw[fx Zf (by simp[Ws])]
  by_cases hs:xW c t.fl d=0
  ·rw[if_neg (by simp[hs])]
   rw[hs]at RQ
   obtain⟨g1,g2,g3,g4⟩:=KU hs
   have hcr:=Hc c hc
   have hinv:=EG c ⟨hcr.1,hcr.2.2.1⟩ t.fl (rq t ht).1 d g1 g2 g3 g4
   cases d with
   |nil=>simp at g1
   |cons k r=>
    obtain⟨v',Ai,hv⟩:=hd.tail
    have S3:qH dT=some (r.length+1):=hd.choose_spec.1.len
    obtain⟨rr,fF⟩:=u9 hd 0 (by simp)
    obtain⟨j,hj,hk⟩:=lV (g3 k (List.mem_cons_self ..))
    obtain⟨a',lX,tr⟩:=Dh t c zT aT fT a7 a8 a9 a10 fB fA vs hT (rq t ht).1 k j hj hk
    simp only[List.getElem_cons_zero,List.tail_cons,List.headD_cons]at hinv fF ⊢
    have fF: ∀kk,tf dT (.i kk (0:Int)) 2=some (.vp (.i .i64 k.1:: .b k.2::rr)):=fF
    have e1:zG t.fl k.1=t.fl[j]:=by rw[hk,nG hj]
    rw[e1]at hinv ⊢
    have hx:=tr.froz1
    have SO:=tr.cells
    have sZ:=hv.choose_spec.1.lenI
    have SW:=hv.choose_spec.1.cells
    generalize kF t.fl[j] k (pt k)=s1 at*
    have aiV: ∀i (hi:i≤r.length),abD t.fl.length (lW t.fl s1 (r.take i)) (i+1) (if h:i=0 then k.1 else r[i-1].1):=fun i hi=>by
     have:=hinv i (by rw[List.length_cons];omega)
     cases i with
     |zero=>exact this
     |succ i=>exact this
    have hkb:=g3 k (List.mem_cons_self ..)
    obtain⟨kf,kh⟩:=k
    unfold fX at*
    unfold gv at lX ⊢
    simp(maxDischargeDepth:=6) only[qA,seval,Ws,kN,yV,M9,RQ,afI,fF,lX,afy,S3,Ai,sZ,hz,YA]
    generalize hD:DC pE 49 (.loop vh) _=D
    obtain⟨f',l',a2,rfl,h6,nR,o6,S2,Bw⟩:=aiT t c zT aT fT a7 a8 a9 a10 fB fA vs hT (rq t ht).1 s1 r (by simpa using g2) (fun k hk=>g3 k (List.mem_cons_of_mem _ hk)) kf hkb aiV v' hv _ _ _ D a' tr (.ptr .L 6 1 0) ⟨1,.cells [.i .i64 0,.b false,.i .i64 0,.b false,.i .i64 0,.i .i64 0,.i .i64 0,.i .i64 0,.i .i64 0,.nilsl] 0 true⟩ hD (by simp(maxDischargeDepth:=6) only[qA,seval]) (by simp(maxDischargeDepth:=6) only[qA,seval]) (by simp(maxDischargeDepth:=6) only[qA,seval]) (by simp(maxDischargeDepth:=6) only[qA,seval]) (by simp(maxDischargeDepth:=6) only[qA,seval]) (by simp(maxDischargeDepth:=6) only[qA,seval]) (by simp(maxDischargeDepth:=6) only[qA,seval]) (by unfold gv;simp(maxDischargeDepth:=6) only[qA,seval])
    have hy:=Bw.froz1
    have ZZ:=Bw.cells
    generalize lW t.fl s1 r=s2 at*
    unfold gv at S2
    simp(maxDischargeDepth:=6) only[qA,seval,h6,nR,o6,S2,hy]
    exact⟨_,_,rfl,Bw⟩
  ·rw[if_pos hs]
   generalize xW c t.fl d=e at*
   refine⟨.nilsl,[], ?_,.inl ⟨rfl,rfl,rfl⟩⟩
   unfold fX gv oq at*
   simp(maxDischargeDepth:=6) only[qA,seval,Ws,kN,yV,M9,RQ,afI,hs,hz,YA]
 ·obtain⟨s,kN⟩:=RP t c zT aT fT a7 a8 a9 a10 fB fA hT hC hN h
  rw[if_pos h]
  generalize mQ t c=e at*
  refine⟨.nilsl,[], ?_,.inl ⟨rfl,rfl,rfl⟩⟩
  rw[fx Zf (by simp[Ws])]
  unfold fX gv oq at*
  simp(maxDischargeDepth:=6) only[qA,seval,Ws,kN,yV,h,hz]
end
end Go.Proofs.YtblcbheipjeoeaaGreat
namespace Go.Proofs.YtblcbheipjeoeaaGreat
open Go Go.Ev
section
variable{E:Env}{call:qz}{n:Nat}{fr:Fr}{lh:fC fg}{sh:List fg}{u:List Nat}{ds:List (List Nat×fe)}{g8:List FP}{d:Option Nat}{os:List fe}
def isZ:T→Bool
 | .nilsl=>true
 | .sl [] 0 _=>true
 |_=>false
theorem EH:isZ .nilsl=true:=nr rfl
theorem Jg{ex:Bool}:isZ (.sl [] 0 ex)=true:=nr rfl
theorem EI{sz bytes:Nat}{s x:fM}(hx:isZ (rd fr x)=true):fN E call n ((u,⟨d,.app sz bytes s x false false,none⟩)::ds) g8 ⟨fr,lh,sh⟩=
  if meets u g8 mL=true then ke E call n ds (g8++ [mL]) (fi E call n [⟨d,.app sz bytes s x false false,none⟩] ⟨fr,lh,sh⟩)else none:=by
 refine tn fun jC=> ?_
 have k6:gU sz (rd fr x)= .ret (0,[]):=by
  cases vf:rd fr x with
  |nilsl=>rfl
  |sl cs m ex=>
   rw[vf]at hx
   cases cs with
   |nil=>cases m with
    |zero=>simp[gU]
    |succ m=>simp[isZ]at hx
   |cons _ _=>simp[isZ]at hx
  |_=>rw[vf]at hx;simp[isZ]at hx
 obtain⟨v,ups,hr,iJ⟩:=vD (q:=qe (d.getD 0) sz bytes (rd fr s) (rd fr x) false false) (by rfl) (by rw[jE];rfl) jC
 unfold qe at hr iJ
 rw[k6]at hr iJ
 simp only[Q.bind,if_true]at hr iJ
 cases SR:rd fr s <;> rw[SR]at hr iJ <;> simp only[Q.run,Option.some.injEq,zl.val.injEq]at hr iJ <;> first
  |(obtain⟨rfl,rfl⟩:=hr;exact iJ (by simp[uk]))
  |cases hr
end
theorem EJ{lh:fC fg}{d sz bytes:Nat}{cs:List T}:AN lh d sz bytes .nilsl (0,cs)=some (.nilsl,lh):=CP rfl
theorem KV{lh:fC fg}{d sz pn bytes k g off len:Nat}{cs:List T}:AN lh d sz bytes (.isl .L k g off len pn) (0,cs)=some (.isl .L k g off len pn,lh):=CP rfl
def mZ(s:List Nat):List (List Nat)→Nat
 | []=>0
 |y::r=>if gS y s=true then mZ s r+1 else 0
theorem zH(s:List Nat): ∀L,mZ s L≤L.length
 | []=>Nat.le_refl _
 |y::r=>by
  unfold mZ
  have:=zH s r
  split <;> simp <;> omega
theorem KW(s:List Nat): ∀(L:List (List Nat)) (k:Nat) (h:k<mZ s L),gS (L[k]'(Nat.lt_of_lt_of_le h (zH s L))) s=true
 | [],k,h=>by simp[mZ]at h
 |y::r,k,h=>by
  unfold mZ at h
  split at h
  ·rename_i hy
   cases k with
   |zero=>simpa using hy
   |succ k=>simpa using KW s r k (by omega)
  ·omega
theorem KX(s:List Nat): ∀(L:List (List Nat)) (h:mZ s L<L.length),gS (L[mZ s L]) s=false
 | [],h=>by simp at h
 |y::r,h=>by
  by_cases hy:gS y s=true
  ·have e:mZ s (y::r)=mZ s r+1:=by rw[mZ,if_pos hy]
   have h':mZ s r<r.length:=by rw[e]at h;simpa using h
   have:=KX s r h'
   simp only[e,List.getElem_cons_succ];exact this
  ·have e:mZ s (y::r)=0:=by rw[mZ,if_neg hy]
   simp only[e,List.getElem_cons_zero];simpa using hy
theorem Hh(s:List Nat): ∀L:List (List Nat),te s L=if(L.drop (mZ s L)).head?=some s then L else L.take (mZ s L)++s::L.drop (mZ s L)
 | []=>rfl
 |x::r=>by
  rw[te,mZ]
  by_cases h:gS x s=true
  ·rw[if_pos h,if_pos h,List.drop_succ_cons,List.take_succ_cons,Hh s r]
   split
   ·rfl
   ·rfl
  ·rw[if_neg h,if_neg h,List.drop_zero,List.head?_cons]
   by_cases e:x=s
   ·rw[if_pos e,if_pos (by rw[e])]
   ·rw[if_neg e,if_neg (fun q=>e (Option.some.inj q)),List.take_zero,List.nil_append]
theorem aiW(L:List (List Nat))(v:T)(hv:fD v L.length (L.map T.s))(hlen:L.length≤1000)(s:List Nat)(c4 c7:List T)(hc:c4[9]? =some v)(hs:c7[5]? =some (.s s))(fr:Fr)(lh:fC fg)(sh:List fg)
  (h4:an fr 4= .ptr .L 4 1 0) (h7:an fr 7= .ptr .L 7 1 0) (h8:an fr 8= .i .i64 0) (o4:be lh 4=⟨1,.cells c4 0 true⟩) (o7:be lh 7=⟨1,.cells c7 0 true⟩):
  DC pE 85 (.loop oZ) ⟨fr,lh,sh⟩=some (.ext 0,⟨gr pE 85 oZ fr lh sh,gp pE 85 oZ fr lh sh,gn pE 85 oZ fr lh sh⟩)∧
  (an (gr pE 85 oZ fr lh sh) 8= .i .i64 (mZ s L:Int)∧gp pE 85 oZ fr lh sh=lh∧gn pE 85 oZ fr lh sh=sh):=by
 have kg:=zH s L
 refine oD (fun k st=> ∃(fr:Fr),st=⟨fr,lh,sh⟩∧an fr 4= .ptr .L 4 1 0∧an fr 7= .ptr .L 7 1 0∧an fr 8= .i .i64 (k:Int)) (fun fR fH fL=>an fR 8= .i .i64 (mZ s L:Int)∧fH=lh∧fL=sh) _ (mZ s L) ?_ ?_ fr lh sh ⟨fr,rfl,h4,h7,h8⟩
 ·rintro k _ hk ⟨fr,rfl,h4,h7,h8⟩
  have fK:(k:Int)<L.length:=by omega
  have hw:=gl (k:=k) (by omega)
  have jm:=KW s L k hk
  obtain⟨rr,fF⟩:=u7 hv k (by omega)
  simp(maxDischargeDepth:=6) only[qA,seval,oZ,h4,h7,h8,o4,o7,hc,hs,hv.lenI,fK,fF,jm,hw]
  exact qq ⟨_,rfl,by simp(maxDischargeDepth:=6) only[qA,seval,h4],by simp(maxDischargeDepth:=6) only[qA,seval,h7],by simp(maxDischargeDepth:=6) only[qA,seval]⟩
 ·rintro _ ⟨fr,rfl,h4,h7,h8⟩
  by_cases hk:mZ s L<L.length
  ·have fK:(mZ s L:Int)<L.length:=by omega
   obtain⟨rr,fF⟩:=u7 hv _ hk
   have jm:=KX s L hk
   simp(maxDischargeDepth:=6) only[qA,seval,oZ,h4,h7,h8,o4,o7,hc,hs,hv.lenI,fK,fF,jm]
   exact po ⟨rfl,by simp(maxDischargeDepth:=6) only[qA,seval,h8],rfl,rfl⟩
  ·have fK: ¬(mZ s L:Int)<L.length:=by omega
   simp(maxDischargeDepth:=6) only[qA,seval,oZ,h4,h8,o4,hc,hv.lenI,fK]
   exact po ⟨rfl,by simp(maxDischargeDepth:=6) only[qA,seval,h8],rfl,rfl⟩
theorem RR{a:T}{n:Nat}{cs:List T}(h:fD a n cs)(hc:cs.length=n){l m:Nat}(h1:l≤m)(h2:m≤n): ∃u,tN 1 a l m=some u∧fD u (m-l) ((cs.drop l).take (m-l)):=by
 rcases h with⟨rfl,rfl,rfl⟩|⟨ex,rfl⟩
 ·obtain rfl:m=0:=by omega
  obtain rfl:l=0:=by omega
  exact⟨.nilsl,rfl,.inl ⟨rfl,rfl,rfl⟩⟩
 ·refine⟨_, ?_,.inr ⟨(ex&&decide (m=n)),rfl⟩⟩
  show(if l≤m∧m≤n∧cs.length=n*1 then some (T.sl ((cs.drop (l*1)).take ((m-l)*1)) (m-l) (ex&&decide (m=n)))else none)=_
  rw[if_pos ⟨h1,h2,by omega⟩,Nat.mul_one,Nat.mul_one]
section
variable(t:Tt)(zT aT fT:T)(hT:uC t zT aT fT)(vR: ∀f∈t.fl,xV f)
include hT vR
theorem KY(s:se)(a:T)(ha:mi s a)(hs:Je s)(k:Int×Bool)(j:Nat)(hj:j<t.fl.length)(hk:k.1=j):
  ∃a',fj pE 47 [.agg [zT,aT,fT],.agg (gv s a),.agg [.i .i64 k.1,.b k.2]] []=some (.agg (gv (kF t.fl[j] k s) a'),[])∧mi (kF t.fl[j] k s) a':=by
 obtain⟨⟨_,z1,_⟩,⟨_,b1,_⟩,⟨fc,f1,f2⟩⟩:=hT
 obtain⟨rr,fF⟩:=tX f1 f2 j hj
 have hf:=vR _ (List.getElem_mem hj)
 generalize t.fl[j]=f at*
 obtain⟨f0,q1,q2,q3,q4⟩:=hf
 obtain⟨b1',b2',b3',b4',b5'⟩:=hs
 obtain⟨kf,kh⟩:=k
 simp only at hk
 subst hk
 have E2:=ha.froz1
 have hyc:=ha.cells
 rw[fx afB (by simp[NO])]
 cases kh with
 |true=>
  refine⟨a, ?_,ha⟩
  have hw:wr .i64 (s.hd+1)=s.hd+1:=kM (by omega)
  unfold kF
  unfold gv
  simp(maxDischargeDepth:=6) only[qA,seval,NO,fF,E2,hw]
 |false=>
  have oR:wr .i64 (s.lg+1)=s.lg+1:=kM (by omega)
  have qJ:wr .i64 (wr .i64 (s.bl+f.ar)-f.dp)=s.bl+(f.ar-f.dp):=by rw[kM (n:=s.bl+f.ar) (by omega),kM (by omega)];omega
  have kg:=zH f.ty s.ty
  have hC:=fun fr lh sh h4 h7 h8 o4 o7=>aiW s.ty a ha b5' f.ty [.i .i64 s.ff,.b s.fh,.i .i64 (j:Int),.b false,.i .i64 (s.lg+1),.i .i64 s.hd,.i .i64 (s.bl+(f.ar-f.dp)),.i .i64 s.lo,.i .i64 s.so,a] [.s f.nu,.s f.fr,.s f.to,.i .i64 f.dp,.i .i64 f.ar,.s f.ty,.i .i64 f.n0,.i .i64 f.n1,.i .i64 f.n2] rfl rfl fr lh sh h4 h7 h8 o4 o7
  have RS:=Hh f.ty s.ty
  unfold kF
  simp only[Bool.false_eq_true,if_false]
  by_cases hp:(s.ty.drop (mZ f.ty s.ty)).head?=some f.ty
  ·rw[if_pos hp]at RS
   rw[RS]
   refine⟨a, ?_,ha⟩
   have jm:mZ f.ty s.ty<s.ty.length:=by
    rcases Nat.lt_or_ge (mZ f.ty s.ty) s.ty.length with h|h
    ·exact h
    ·rw[List.drop_of_length_le h]at hp;simp at hp
   have mW:s.ty[mZ f.ty s.ty]=f.ty:=by
    rw[List.head?_drop,List.getElem?_eq_getElem jm]at hp;simpa using hp
   obtain⟨r2,rv⟩:=u7 ha _ jm
   rw[mW]at rv
   have jC: ¬(mZ f.ty s.ty:Int)=s.ty.length:=by omega
   unfold gv
   simp(maxDischargeDepth:=6) only[qA,seval,tN,gW,NO,rA,hC,fF,rv,jC,ha.lenI,E2,oR,qJ]
  ·rw[if_neg hp]at RS
   rw[RS]
   generalize hk:mZ f.ty s.ty=q at*
   have hAl:(s.ty.take q).length=q:=by rw[List.length_take];omega
   have hBl:(s.ty.drop q).length=s.ty.length-q:=by rw[List.length_drop]
   have rv:q<s.ty.length→ ∃r2,∀kk,tf a (.i kk (q:Int)) 1=some (.vp (.s ((s.ty.drop q).headD [])::r2)):=fun h=>by
    obtain⟨r2,h2⟩:=u7 ha q h
    exact⟨r2,by rw[List.drop_eq_getElem_cons h];exact h2⟩
   have htA:(s.ty.map T.s).take q=(s.ty.take q).map T.s:=by rw[List.map_take]
   have hdB:(s.ty.map T.s).drop q=(s.ty.drop q).map T.s:=by rw[List.map_drop]
   generalize hA:s.ty.take q=A at*
   generalize hB:s.ty.drop q=B at*
   have hAB:s.ty.length=A.length+B.length:=by rw[←hA,←hB,List.length_take,List.length_drop];omega
   have htB:(B.map T.s).take (s.ty.length-q)=B.map T.s:=List.take_of_length_le (by simp[hBl])
   have TM:(s.ty.map T.s).length=s.ty.length:=by simp
   refine⟨.sl ((A++f.ty::B).map T.s) (A++f.ty::B).length false, ?_,.inr ⟨false,rfl⟩⟩
   have hr:(16:Nat)≤roomy:=by decide
   have X3:(A.length+1)*16≤roomy:=by unfold roomy;omega
   have ZO:(A.length+1+B.length)*16≤roomy:=by unfold roomy;omega
   have hr3:A.length*16≤roomy:=by unfold roomy;omega
   have hr4:(1+B.length)*16≤roomy:=by unfold roomy;omega
   have hl:=ha.lenI
   have S3:qH a=some s.ty.length:=ha.len
   unfold gv
   obtain⟨u1,tj,g1⟩:=RR ha (by simp) (Nat.zero_le q) kg
   obtain⟨u2,yw,g2⟩:=RR ha (by simp) kg (Nat.le_refl s.ty.length)
   rw[List.drop_zero,Nat.sub_zero,htA]at g1
   rw[hdB,htB]at g2
   have hz1:u1≠ .nilsl∨A= []:=by
    rcases g1 with⟨_,_,h⟩|⟨ex,h⟩
    ·exact .inr (List.map_eq_nil_iff.1 h)
    ·rw[h];exact .inl (by simp)
   have hz2:u2≠ .nilsl∨B= []:=by
    rcases g2 with⟨_,_,h⟩|⟨ex,h⟩
    ·exact .inr (List.map_eq_nil_iff.1 h)
    ·rw[h];exact .inl (by simp)
   clear RS htA hdB htB hA hB
   cases A with
   |nil=>
    obtain rfl:q=0:=by simpa using hAl.symm
    cases B with
    |nil=>
     have h0:s.ty.length=0:=by rw[hAB];rfl
     rw[h0]at yw g2
     rcases g1 with⟨rfl,_,_⟩|⟨ex1,rfl⟩ <;> rcases g2 with⟨rfl,_,_⟩|⟨ex2,rfl⟩
     all_goals simp(maxDischargeDepth:=6) only[qA,seval,appW,repl,gW,AZ,fU,nM,NO,rA,hC,fF,hl,S3,h0,tj,oR,qJ,EI,EH,Jg,EJ,KV,hr]
    |cons b0 B'=>
     have hb0: ¬b0=f.ty:=fun e=>hp (by rw[e];rfl)
     obtain⟨r2,rv⟩:=rv (by simp at hAB;omega)
     have rv: ∀kk,tf a (.i kk (0:Int)) 1=some (.vp (.s b0::r2)):=rv
     obtain⟨m,hm⟩: ∃m,B'.length=m:=⟨_,rfl⟩
     have hn:s.ty.length=m+1:=by rw[hAB,←hm];simp
     have Pg:(B'.map T.s).length=m:=by simpa using hm
     have htb:(T.s b0::B'.map T.s).take (m+1)=T.s b0::B'.map T.s:=List.take_of_length_le (by simp[hm])
     have jC: ¬(0:Int)=((m+1:Nat):Int):=by omega
     have hr4:(1+(m+1))*16≤roomy:=by simpa[hm]using hr4
     have hz0:0<m+1:=Nat.succ_pos m
     have HJ:m+1+1=1+(m+1):=Nat.add_comm _ _
     rw[hn]at yw S3 hl
     rw[hn,Nat.sub_zero]at g2
     rcases g1 with⟨rfl,_,_⟩|⟨ex1,rfl⟩ <;> rcases g2 with⟨_,h,_⟩|⟨ex2,rfl⟩
     ·simp at h
     ·simp(maxDischargeDepth:=6) only[qA,seval,appW,repl,gW,AZ,fU,nM,NO,rA,hC,fF,rv,hb0,jC,hl,S3,tj,yw,oR,qJ,EI,EH,EJ,hr,hr4,hm,Pg,HJ]
      rw[List.take_of_length_le (by simp[hm];omega)]
     ·simp at h
     ·simp(maxDischargeDepth:=6) only[qA,seval,appW,repl,gW,AZ,fU,nM,NO,rA,hC,fF,rv,hb0,jC,hl,S3,tj,yw,oR,qJ,EI,Jg,EJ,hr,hr4,hm,Pg,HJ]
      rw[List.take_of_length_le (by simp[hm];omega)]
   |cons a0 A'=>
    obtain⟨p,RT⟩: ∃p,A'.length=p:=⟨_,rfl⟩
    obtain rfl:q=p+1:=by rw[←hAl,List.length_cons,RT]
    have hpp:(A'.map T.s).length=p:=by simpa using RT
    have hz0:0<p+1:=Nat.succ_pos p
    have hr3:(p+1)*16≤roomy:=by simpa[RT]using hr3
    have X3:(p+1+1)*16≤roomy:=by simpa[RT]using X3
    rcases g1 with⟨_,h,_⟩|⟨ex1,rfl⟩
    ·cases h
    cases B with
    |nil=>
     have hn:s.ty.length=p+1:=by rw[hAB,List.length_cons,RT];rfl
     rw[hn]at yw S3 hl
     rw[hn,Nat.sub_self]at g2
     rcases g2 with⟨rfl,_,_⟩|⟨ex2,rfl⟩
     all_goals simp(maxDischargeDepth:=6) only[qA,seval,appW,repl,gW,AZ,fU,nM,NO,rA,hC,fF,RT,hpp,hl,S3,tj,yw,oR,qJ,EI,EH,Jg,KV,hr3,X3,List.map_append,List.length_append]
     all_goals rw[List.take_of_length_le (by simp[RT])]
    |cons b0 B'=>
     have hb0: ¬b0=f.ty:=fun e=>hp (by rw[e];rfl)
     obtain⟨r2,rv⟩:=rv (by simp at hAB;omega)
     have rv: ∀kk,tf a (.i kk ((p+1:Nat):Int)) 1=some (.vp (.s b0::r2)):=rv
     obtain⟨m,hm⟩: ∃m,B'.length=m:=⟨_,rfl⟩
     obtain⟨n,hn⟩: ∃n,s.ty.length=n:=⟨_,rfl⟩
     have mI:n=p+1+(m+1):=by rw[←hn,hAB,←hm,List.length_cons,List.length_cons,RT]
     have hsb:n-(p+1)=m+1:=by omega
     have Pg:(B'.map T.s).length=m:=by simpa using hm
     have jC: ¬((p+1:Nat):Int)=(n:Int):=by omega
     have hz1:0<m+1:=Nat.succ_pos m
     have ZO:(p+1+1+(m+1))*16≤roomy:=by simpa[RT,hm]using ZO
     rw[hn]at yw S3 hl
     rw[hn,hsb]at g2
     rcases g2 with⟨_,h,_⟩|⟨ex2,rfl⟩
     ·cases h
     simp(maxDischargeDepth:=6) only[qA,seval,appW,repl,gW,AZ,fU,nM,NO,rA,hC,fF,rv,hb0,jC,RT,hpp,hm,Pg,hl,S3,tj,yw,oR,qJ,hr3,X3,ZO,List.map_append,List.length_append,List.append_assoc]
     rw[if_pos (by omega),List.take_of_length_le (by simp[RT,hm];omega),show p+(m+1+1)+1=p+1+1+(m+1)by omega]
end
end Go.Proofs.YtblcbheipjeoeaaGreat
namespace Go.Proofs.YtblcbheipjeoeaaGreat
open Go Go.Ev
section
variable(t:Tt)(c:Ct)(zT aT fT a7 a8 a9 a10 fB fA:T)(hT:uC t zT aT fT)(hC:xu c a7 a8 a9 a10 fB fA)(hN:S1 c)(hL: ∀f∈t.fl,f.nu.length≤kb)
include hC hN hT hL
theorem KZ(k:Int×Bool): ∃a,fj pE 10 [.agg [zT,aT,fT],.agg (fX c a7 a8 a9 a10 fB fA),.agg [.i .i64 k.1,.b k.2]] []=some (.tup [.agg (gv (nH t c k).1 a),.i .i64 (nH t c k).2],[])∧mi (nH t c k).1 a:=by
 have hz:=V1 t c zT aT fT a7 a8 a9 a10 fB fA hT hC
 have tZ:=EF t c zT aT fT a7 a8 a9 a10 fB fA hT hC hN hL
 unfold nH
 rw[fx Zc (by simp[pw])]
 by_cases h:mQ t c=0
 ·obtain⟨ht,hc⟩:=vN t c zT aT fT a7 a8 a9 a10 fB fA hT hC hN h
  obtain⟨fc,f1,f2⟩:=hT.f
  have hi:=(EB zT aT fT fc t.fl.length f1 k.1)
  rw[←EA,show decide (0≤k.1∧k.1<(t.fl.length:Int))=ry t.fl.length k.1 from rfl]at hi
  rw[if_neg (by simp[h])]
  rw[h]at tZ
  cases hb:ry t.fl.length k.1 with
  |false=>
   rw[hb]at hi
   refine⟨.nilsl, ?_,.inl ⟨rfl,rfl,rfl⟩⟩
   unfold fX gv oq at*
   simp(maxDischargeDepth:=6) only[qA,seval,pw,tZ,BV,hi,Fq,hz]
  |true=>
   rw[hb]at hi
   obtain⟨j,hj,hk⟩:=lV hb
   obtain⟨a',lX,tr⟩:=KY t zT aT fT hT (rq t ht).1 (pt k) .nilsl (.inl ⟨rfl,rfl,rfl⟩) (by unfold Je pt;exact⟨⟨Int.le_refl _,(by decide:(0:Int)≤100)⟩,⟨Int.le_refl _,(by decide:(0:Int)≤100)⟩,⟨Int.le_refl _,(by decide:(0:Int)≤1099511640000)⟩,rfl,Nat.zero_le _⟩) k j hj hk
   rw[hk,nG hj]
   refine⟨a', ?_,tr⟩
   have hx:=tr.froz1
   have SO:=tr.cells
   generalize kF t.fl[j] k (pt k)=s' at*
   unfold gv pt at lX
   rw[hk]at hi lX
   unfold fX gv at*
   simp(maxDischargeDepth:=6) only[qA,seval,pw,tZ,BV,hi,Fq,lX,afC,hx,hz]
 ·rw[if_pos h]
  generalize mQ t c=e at*
  refine⟨.nilsl, ?_,.inl ⟨rfl,rfl,rfl⟩⟩
  unfold fX gv oq at*
  simp(maxDischargeDepth:=6) only[qA,seval,pw,tZ,BV,h,hz]
theorem K0(s:se)(a:T)(ha:mi s a)(hlen:s.ty.length≤1000)(k:Int×Bool): ∃a',fj pE 12 [.agg [zT,aT,fT],.agg (fX c a7 a8 a9 a10 fB fA),.agg (gv s a),.agg [.i .i64 k.1,.b k.2]] []=some (.tup [.agg (gv (xZ t c s k).1 a'),.i .i64 (xZ t c s k).2],[])∧mi (xZ t c s k).1 a':=by
 have hz:=V1 t c zT aT fT a7 a8 a9 a10 fB fA hT hC
 have tZ:=EF t c zT aT fT a7 a8 a9 a10 fB fA hT hC hN hL
 have E2:=ha.froz1
 have hyc:=ha.cells
 unfold xZ
 rw[fx Ze (by simp[qD])]
 by_cases h:mQ t c=0
 ·obtain⟨ht,hc⟩:=vN t c zT aT fT a7 a8 a9 a10 fB fA hT hC hN h
  obtain⟨fc,f1,f2⟩:=hT.f
  have hi:=(EB zT aT fT fc t.fl.length f1 k.1)
  rw[←EA,show decide (0≤k.1∧k.1<(t.fl.length:Int))=ry t.fl.length k.1 from rfl]at hi
  have hval:=VP zT aT fT fc t.fl.length hz.1.1 hz.1.2.1 f1 s a ha hlen
  rw[if_neg (by simp[h])]
  rw[h]at tZ
  cases hb:xi t.fl.length s with
  |false=>
   rw[hb]at hval
   refine⟨.nilsl, ?_,.inl ⟨rfl,rfl,rfl⟩⟩
   unfold fX gv oq at*
   simp(maxDischargeDepth:=6) only[qA,seval,qD,tZ,BV,hval,On,hz,E2]
  |true=>
  rw[hb]at hval
  cases oS:ry t.fl.length k.1 with
  |false=>
   rw[oS]at hi
   refine⟨.nilsl, ?_,.inl ⟨rfl,rfl,rfl⟩⟩
   unfold fX gv oq at*
   simp(maxDischargeDepth:=6) only[qA,seval,qD,tZ,BV,hval,On,hi,Fq,hz,E2]
  |true=>
  rw[oS]at hi
  have Nr:=(nD.1 hb).2.1
  have hj:=Hg t c zT aT fT a7 a8 a9 a10 fB fA hT hC Nr oS
  cases hb3:tY c t.fl s.lf k.1 with
  |false=>
   rw[hb3]at hj
   refine⟨.nilsl, ?_,.inl ⟨rfl,rfl,rfl⟩⟩
   unfold fX gv oq at*
   simp(maxDischargeDepth:=6) only[qA,seval,qD,tZ,BV,hval,On,hi,Fq,hj,Ti,hz,E2]
  |true=>
  rw[hb3]at hj
  have hw6:wr .i64 (s.lg+s.hd)=s.lg+s.hd:=by
   obtain⟨_,_,a3,a4,_⟩:=nD.1 hb
   exact kM (by omega)
  rw[if_neg (by decide),if_neg (by decide),if_neg (by decide)]
  by_cases h6:s.lg+s.hd=6
  ·rw[if_pos h6]
   refine⟨.nilsl, ?_,.inl ⟨rfl,rfl,rfl⟩⟩
   unfold fX gv oq at*
   simp(maxDischargeDepth:=6) only[qA,seval,qD,tZ,BV,hval,On,hi,Fq,hj,Ti,h6,hz,E2]
  ·rw[if_neg h6]
   obtain⟨i,qi,ei⟩:=lV Nr
   obtain⟨j,qj,ej⟩:=lV oS
   obtain⟨r1,g1⟩:=tX f1 f2 i qi
   obtain⟨r2,g2⟩:=tX f1 f2 j qj
   obtain⟨_,p1,p2,p3,p4⟩:=(rq t ht).1 _ (List.getElem_mem qi)
   obtain⟨_,q1,q2,q3,q4⟩:=(rq t ht).1 _ (List.getElem_mem qj)
   have hw:wr .i64 (t.fl[j].dp-t.fl[i].ar)=t.fl[j].dp-t.fl[i].ar:=kM (by omega)
   have hsw:Je s:=Jf hb hlen
   obtain⟨a',lX,tr⟩:=KY t zT aT fT hT (rq t ht).1 {s with lo:=max s.lo (t.fl[j].dp-t.fl[i].ar),so:=min s.so (t.fl[j].dp-t.fl[i].ar)} a ha hsw k j qj ej
   rw[ei,ej,nG qi,nG qj]
   refine⟨a', ?_,tr⟩
   rw[show sU t.fl[i] t.fl[j] k s=kF t.fl[j] k {s with lo:=max s.lo (t.fl[j].dp-t.fl[i].ar),so:=min s.so (t.fl[j].dp-t.fl[i].ar)}from rfl]
   have hx:=tr.froz1
   have SO:=tr.cells
   generalize kF t.fl[j] k {s with lo:=max s.lo (t.fl[j].dp-t.fl[i].ar),so:=min s.so (t.fl[j].dp-t.fl[i].ar)}=s' at*
   rw[ei,ej]at hj
   rw[ej]at hi lX
   unfold fX gv at*
   rw[ei]at hval lX ⊢
   generalize t.fl[i]=f at*
   generalize t.fl[j]=g at*
   simp(maxDischargeDepth:=6) only[qA,seval,qD,tZ,BV,hval,On,hi,Fq,hj,Ti,hw6,h6,g1,g2,hw,mxI,mnI,lX,afC,hx,hz,E2]
 ·rw[if_pos h]
  generalize mQ t c=e at*
  refine⟨.nilsl, ?_,.inl ⟨rfl,rfl,rfl⟩⟩
  unfold fX gv oq at*
  simp(maxDischargeDepth:=6) only[qA,seval,qD,tZ,BV,h,hz]
theorem V4(d:List (Int×Bool))(dT:T)(hd:Hd d dT)(hlen:d.length≤1000):fj pE 54 [.agg [zT,aT,fT],.agg (fX c a7 a8 a9 a10 fB fA),dT] []=some (.i .i64 (if mQ t c≠0 then mQ t c else xW c t.fl d),[]):=by
 have hz:=V1 t c zT aT fT a7 a8 a9 a10 fB fA hT hC
 have tZ:=EF t c zT aT fT a7 a8 a9 a10 fB fA hT hC hN hL
 have lX:=VY t c zT aT fT a7 a8 a9 a10 fB fA hT hC d dT hd hlen
 have YA:=hd.choose_spec.1.froz
 rw[fx afJ (by simp[c54])]
 unfold fX at*
 by_cases h:mQ t c=0
 all_goals simp(maxDischargeDepth:=6) only[qA,seval,c54,tZ,BV,lX,al2,h,hz,YA]
end
end Go.Proofs.YtblcbheipjeoeaaGreat
