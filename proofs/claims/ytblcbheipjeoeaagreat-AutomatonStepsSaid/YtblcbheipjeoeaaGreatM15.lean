/- The reference's check of a flight. The reference's check of a flight, whole. The reference's check of a timetable. A record appended to a shared row. Conditions: the theorems' own. -/
import Derived.Test.YtblcbheipjeoeaaGreatM14
import Derived.KernelRfl
set_option maxRecDepth 100000
set_option linter.unusedSimpArgs false
set_option linter.unusedVariables false
set_option maxHeartbeats 16000000
namespace Go.Proofs.YtblcbheipjeoeaaGreat
open Go Go.Ev
theorem GP: ∀a:List Nat,gS a a=false
 | []=>rfl
 |x::a=>by simp[gS,GP a]
theorem C8: ∀a b:List Nat,gS a b=true→gS b a=false
 | [],[],h=>by simp[gS]at h
 | [],y::b,h=>rfl
 |x::a,[],h=>by simp[gS]at h
 |x::a,y::b,h=>by
  simp[gS]at h ⊢
  refine⟨by omega,fun e=> ?_⟩
  subst e
  rcases h with h|h
  ·omega
  ·exact C8 a b h.2
theorem Bh: ∀a b:List Nat,gS a b=false→gS b a=false→a=b
 | [],[],_,_=>rfl
 | [],y::b,h,_=>by simp[gS]at h
 |x::a,[],_,h=>by simp[gS]at h
 |x::a,y::b,h1,h2=>by
  simp[gS]at h1 h2
  have:x=y:=by omega
  subst this
  rw[Bh a b (by simpa using h1) (by simpa using h2)]
theorem VA(a b:List Nat):(gS a b||a==b)= !gS b a:=by
 cases h:gS b a with
 |true=>
  rw[C8 _ _ h]
  have:a≠b:=fun e=>by subst e;rw[GP]at h;cases h
  simp[this]
 |false=>
  cases h2:gS a b with
  |true=>rfl
  |false=>rw[Bh _ _ h2 h];simp
theorem xc{s t:List Nat}:Ev.bin .leq (.s s) (.s t)=some (.b (!gS t s)):=by
 rw[←VA];rfl
def ixA(s:List Nat):List (List Nat)→Nat→Int
 | [],_=> -1
 |x::r,k=>if x=s then(k:Int)else ixA s r (k+1)
theorem Ep(s:List Nat): ∀(l:List (List Nat)) (k:Nat),ixA s l k<0↔s∉l
 | [],k=>by simp[ixA]
 |x::r,k=>by
  rw[ixA]
  by_cases h:x=s
  ·rw[if_pos h];subst h;simp
  ·rw[if_neg h,Ep s r (k+1)]
   simp[Ne.symm h]
theorem I3(s:List Nat): ∀(ns:List (List Nat)) (k:Nat),ixA s ns k<0→ixA s ns k= -1
 | [],_,_=>rfl
 |x::ns,k,h=>by
  rw[ixA]at h ⊢
  by_cases e:x=s
  ·rw[if_pos e]at h;omega
  ·rw[if_neg e]at h ⊢; exact I3 s ns _ h
theorem zi1(s:List Nat)(l:List Zo)(a:T)(cc:List T)(ha:fD a l.length cc)(hc:fy HG l cc)(hlen:l.length≤1000)(r:Int)(hr:r=ixA s (l.map Zo.nm) 0)(o:Out)(ho:o=if r<0 then .ext 0 else .ret)(fr:Fr)(lh:fC fg)(sh:List fg)
  (h0:an fr 0=a) (h1:an fr 1= .s s) (h5:an fr 5= .i .i64 0):
  DC pE 20 (.loop na) ⟨fr,lh,sh⟩=some (o,⟨gr pE 20 na fr lh sh,gp pE 20 na fr lh sh,gn pE 20 na fr lh sh⟩)∧
  ((¬r<0→an (gr pE 20 na fr lh sh) 4= .i .i64 r)∧gn pE 20 na fr lh sh=sh):=by
 refine fq (P:=fun fR fH fL=>(¬r<0→an fR 4= .i .i64 r)∧fL=sh)
  (fw (fun k st=> ∃(fr:Fr) (fG:fC fg),st=⟨fr,fG,sh⟩∧r=ixA s ((l.drop k).map Zo.nm) k∧an fr 0=a∧an fr 1= .s s∧an fr 5= .i .i64 (k:Int)) _ l.length ?_ ?_ 0 _ (Nat.zero_le _) ⟨fr,lh,rfl,hr,h0,h1,h5⟩)
 ·rintro k _ hk ⟨fr,fG,rfl,hr,h0,h1,h5⟩
  have fK:(k:Int)<l.length:=by omega
  have hw:=gl (k:=k) (by omega)
  obtain⟨sT,sc,rr,fF,tj,yw⟩:=GL ha hc k hk
  rw[List.drop_eq_getElem_cons hk,List.map_cons,ixA]at hr
  by_cases h:l[k].nm=s
  ·right
   rw[if_pos h]at hr
   have hn: ¬r<0:=by omega
   simp(maxDischargeDepth:=6) only[qA,seval,na,h0,h1,h5,ha.lenI,fK,fF,h]
   refine⟨_,_,(by simp:Out.ret≠ .nrm),rfl,by rw[ho,if_neg hn],fun _=> ?_,rfl⟩
   simp(maxDischargeDepth:=6) only[qA,seval,hr]
  ·left
   rw[if_neg h]at hr
   simp(maxDischargeDepth:=6) only[qA,seval,na,h0,h1,h5,ha.lenI,fK,fF,h,hw]
   refine⟨_,rfl,_,_,rfl,hr, ?_, ?_, ?_⟩ <;> simp(maxDischargeDepth:=6) only[qA,seval,h0,h1]
 ·rintro _ ⟨fr,fG,rfl,hr,h0,h1,h5⟩
  rw[List.drop_length,List.map_nil,ixA]at hr
  have hn:r<0:=by omega
  simp(maxDischargeDepth:=6) only[qA,seval,na,h0,h5,ha.lenI,Int.lt_irrefl]
  exact⟨_,_,(by simp:Out.ext 0≠ .nrm),rfl,by rw[ho,if_pos hn],fun h=>absurd hn h,rfl⟩
theorem Yo(s:List Nat)(l:List Zo)(a:T)(cc:List T)(ha:fD a l.length cc)(hc:fy HG l cc)(hlen:l.length≤1000): ∃v:Int,fj pE 151 [a,.s s] []=some (.i .i64 v,[])∧(v<0↔s∉l.map Zo.nm):=by
 refine⟨ixA s (l.map Zo.nm) 0, ?_,Ep s _ 0⟩
 have hL:=fun fr lh sh h0 h1 h5=>zi1 s l a cc ha hc hlen _ rfl _ rfl fr lh sh h0 h1 h5
 have Rl:=I3 s (l.map Zo.nm) 0
 rw[fx Oy (by simp[Lp])]
 generalize ixA s (l.map Zo.nm) 0=v at*
 by_cases h:v<0
 ·have e:=Rl h
  subst e
  simp(maxDischargeDepth:=6) only[qA,seval,Lp,hL]
 ·simp only[h,if_false,not_false_eq_true,forall_const]at hL
  simp(maxDischargeDepth:=6) only[qA,seval,Lp,hL]
theorem ai1(s:List Nat)(l:List Ap)(a:T)(cc:List T)(ha:fD a l.length cc)(hc:fy IW l cc)(hlen:l.length≤1000)(r:Int)(hr:r=ixA s (l.map Ap.cd) 0)(o:Out)(ho:o=if r<0 then .ext 0 else .ret)(fr:Fr)(lh:fC fg)(sh:List fg)
  (h0:an fr 0=a) (h1:an fr 1= .s s) (h5:an fr 5= .i .i64 0):
  DC pE 20 (.loop ng) ⟨fr,lh,sh⟩=some (o,⟨gr pE 20 ng fr lh sh,gp pE 20 ng fr lh sh,gn pE 20 ng fr lh sh⟩)∧
  ((¬r<0→an (gr pE 20 ng fr lh sh) 4= .i .i64 r)∧gn pE 20 ng fr lh sh=sh):=by
 refine fq (P:=fun fR fH fL=>(¬r<0→an fR 4= .i .i64 r)∧fL=sh)
  (fw (fun k st=> ∃(fr:Fr) (fG:fC fg),st=⟨fr,fG,sh⟩∧r=ixA s ((l.drop k).map Ap.cd) k∧an fr 0=a∧an fr 1= .s s∧an fr 5= .i .i64 (k:Int)) _ l.length ?_ ?_ 0 _ (Nat.zero_le _) ⟨fr,lh,rfl,hr,h0,h1,h5⟩)
 ·rintro k _ hk ⟨fr,fG,rfl,hr,h0,h1,h5⟩
  have fK:(k:Int)<l.length:=by omega
  have hw:=gl (k:=k) (by omega)
  obtain⟨rr,fF⟩:=KG ha hc k hk
  rw[List.drop_eq_getElem_cons hk,List.map_cons,ixA]at hr
  by_cases h:l[k].cd=s
  ·right
   rw[if_pos h]at hr
   have hn: ¬r<0:=by omega
   simp(maxDischargeDepth:=6) only[qA,seval,ng,h0,h1,h5,ha.lenI,fK,fF,h]
   refine⟨_,_,(by simp:Out.ret≠ .nrm),rfl,by rw[ho,if_neg hn],fun _=> ?_,rfl⟩
   simp(maxDischargeDepth:=6) only[qA,seval,hr]
  ·left
   rw[if_neg h]at hr
   simp(maxDischargeDepth:=6) only[qA,seval,ng,h0,h1,h5,ha.lenI,fK,fF,h,hw]
   refine⟨_,rfl,_,_,rfl,hr, ?_, ?_, ?_⟩ <;> simp(maxDischargeDepth:=6) only[qA,seval,h0,h1]
 ·rintro _ ⟨fr,fG,rfl,hr,h0,h1,h5⟩
  rw[List.drop_length,List.map_nil,ixA]at hr
  have hn:r<0:=by omega
  simp(maxDischargeDepth:=6) only[qA,seval,ng,h0,h5,ha.lenI,Int.lt_irrefl]
  exact⟨_,_,(by simp:Out.ext 0≠ .nrm),rfl,by rw[ho,if_pos hn],fun h=>absurd hn h,rfl⟩
theorem Rm(s:List Nat)(l:List Ap)(a:T)(cc:List T)(ha:fD a l.length cc)(hc:fy IW l cc)(hlen:l.length≤1000): ∃v:Int,fj pE 153 [a,.s s] []=some (.i .i64 v,[])∧(v<0↔s∉l.map Ap.cd):=by
 refine⟨ixA s (l.map Ap.cd) 0, ?_,Ep s _ 0⟩
 have hL:=fun fr lh sh h0 h1 h5=>ai1 s l a cc ha hc hlen _ rfl _ rfl fr lh sh h0 h1 h5
 have Rl:=I3 s (l.map Ap.cd) 0
 rw[fx Oz (by simp[Lr])]
 generalize ixA s (l.map Ap.cd) 0=v at*
 by_cases h:v<0
 ·have e:=Rl h
  subst e
  simp(maxDischargeDepth:=6) only[qA,seval,Lr,hL]
 ·simp only[h,if_false,not_false_eq_true,forall_const]at hL
  simp(maxDischargeDepth:=6) only[qA,seval,Lr,hL]
end Go.Proofs.YtblcbheipjeoeaaGreat
namespace Go.Proofs.YtblcbheipjeoeaaGreat
open Go Go.Ev
theorem Rn{r:Bool}(n:Int)(rest:Bool)(h:r=(kD n&&rest)):(n<0∧r=false)∨(¬n<0∧8<n∧r=false)∨(¬n<0∧ ¬8<n∧r=rest):=by
 unfold kD at h
 by_cases a1:n<0
 ·exact .inl ⟨a1,by rw[h,decide_eq_false (by omega)];rfl⟩
 ·by_cases a2:8<n
  ·exact .inr (.inl ⟨a1,a2,by rw[h,decide_eq_false (p:=n≤8) (by omega),Bool.and_false,Bool.false_and]⟩)
  ·exact .inr (.inr ⟨a1,a2,by rw[h,decide_eq_true (p:=0≤n) (by omega),decide_eq_true (p:=n≤8) (by omega)];rfl⟩)
theorem anL(f:Fl)(r:Bool)(hr:r= [f.n0,f.n1,f.n2].all kD)(o:Out)(ho:o=if r then .ext 0 else .ret)(c2:fg)(fr:Fr)(lh:fC fg)(sh:List fg)(h5:an fr 5= .ptr .L 5 1 0)(h6:an fr 6= .i .i64 0)(o2:be lh 2=c2)(o5:be lh 5=⟨1,.cells (MY f) 0 true⟩):
  DC pE 108 (.loop iN) ⟨fr,lh,sh⟩=some (o,⟨gr pE 108 iN fr lh sh,gp pE 108 iN fr lh sh,gn pE 108 iN fr lh sh⟩)∧
  ((r=false→an (gr pE 108 iN fr lh sh) 4= .i .i64 5)∧be (gp pE 108 iN fr lh sh) 2=c2∧be (gp pE 108 iN fr lh sh) 5=⟨1,.cells (MY f) 0 true⟩∧be (gp pE 108 iN fr lh sh) 7=be lh 7∧gn pE 108 iN fr lh sh=sh):=by
 refine fq (P:=fun fR fH fL=>(r=false→an fR 4= .i .i64 5)∧be fH 2=c2∧be fH 5=⟨1,.cells (MY f) 0 true⟩∧be fH 7=be lh 7∧fL=sh)
  (fw (fun k st=> ∃(fr:Fr),st=⟨fr,lh,sh⟩∧r=([f.n0,f.n1,f.n2].drop k).all kD∧an fr 5= .ptr .L 5 1 0∧an fr 6= .i .i64 (k:Int)) _ 3 ?_ ?_ 0 _ (Nat.zero_le _) ⟨fr,rfl,hr,h5,h6⟩)
 ·rintro k _ hk ⟨fr,rfl,hr,h5,h6⟩
  have hc:k=0∨k=1∨k=2:=by omega
  have w1:wr .i64 (0+1)=((0+1:Nat):Int):=kM (by omega)
  have w2:wr .i64 (1+1)=((1+1:Nat):Int):=kM (by omega)
  have w3:wr .i64 (2+1)=((2+1:Nat):Int):=kM (by omega)
  unfold MY at o5
  rcases hc with rfl|rfl|rfl
  ·have zx:an fr 6= .i .i64 0:=h6
   rcases Rn f.n0 _ hr with⟨a1,e⟩|⟨a1,a2,e⟩|⟨a1,a2,e⟩
   ·right
    simp(maxDischargeDepth:=6) only[qA,seval,jz,iN,h5,zx,o5,a1]
    refine⟨_,_,(by simp:Out.ret≠ .nrm),rfl,by rw[ho,e];rfl,fun _=> ?_,o2,o5,rfl,rfl⟩
    simp(maxDischargeDepth:=6) only[qA,seval]
   ·right
    simp(maxDischargeDepth:=6) only[qA,seval,jz,iN,h5,zx,o5,a1,a2]
    refine⟨_,_,(by simp:Out.ret≠ .nrm),rfl,by rw[ho,e];rfl,fun _=> ?_,o2,o5,rfl,rfl⟩
    simp(maxDischargeDepth:=6) only[qA,seval]
   ·left
    simp(maxDischargeDepth:=6) only[qA,seval,jz,iN,h5,zx,o5,a1,a2]
    refine⟨_,rfl,_,rfl,by simpa using e, ?_, ?_⟩ <;> simp(maxDischargeDepth:=6) only[qA,seval,h5]
  ·have zx:an fr 6= .i .i64 1:=h6
   rcases Rn f.n1 _ hr with⟨a1,e⟩|⟨a1,a2,e⟩|⟨a1,a2,e⟩
   ·right
    simp(maxDischargeDepth:=6) only[qA,seval,jz,iN,h5,zx,o5,a1]
    refine⟨_,_,(by simp:Out.ret≠ .nrm),rfl,by rw[ho,e];rfl,fun _=> ?_,o2,o5,rfl,rfl⟩
    simp(maxDischargeDepth:=6) only[qA,seval]
   ·right
    simp(maxDischargeDepth:=6) only[qA,seval,jz,iN,h5,zx,o5,a1,a2]
    refine⟨_,_,(by simp:Out.ret≠ .nrm),rfl,by rw[ho,e];rfl,fun _=> ?_,o2,o5,rfl,rfl⟩
    simp(maxDischargeDepth:=6) only[qA,seval]
   ·left
    simp(maxDischargeDepth:=6) only[qA,seval,jz,iN,h5,zx,o5,a1,a2]
    refine⟨_,rfl,_,rfl,by simpa using e, ?_, ?_⟩ <;> simp(maxDischargeDepth:=6) only[qA,seval,h5]
  ·have zx:an fr 6= .i .i64 2:=h6
   rcases Rn f.n2 _ hr with⟨a1,e⟩|⟨a1,a2,e⟩|⟨a1,a2,e⟩
   ·right
    simp(maxDischargeDepth:=6) only[qA,seval,jz,iN,h5,zx,o5,a1]
    refine⟨_,_,(by simp:Out.ret≠ .nrm),rfl,by rw[ho,e];rfl,fun _=> ?_,o2,o5,rfl,rfl⟩
    simp(maxDischargeDepth:=6) only[qA,seval]
   ·right
    simp(maxDischargeDepth:=6) only[qA,seval,jz,iN,h5,zx,o5,a1,a2]
    refine⟨_,_,(by simp:Out.ret≠ .nrm),rfl,by rw[ho,e];rfl,fun _=> ?_,o2,o5,rfl,rfl⟩
    simp(maxDischargeDepth:=6) only[qA,seval]
   ·left
    simp(maxDischargeDepth:=6) only[qA,seval,jz,iN,h5,zx,o5,a1,a2]
    refine⟨_,rfl,_,rfl,by simpa using e, ?_, ?_⟩ <;> simp(maxDischargeDepth:=6) only[qA,seval,h5]
 ·rintro _ ⟨fr,rfl,hr,h5,h6⟩
  have zx:an fr 6= .i .i64 3:=h6
  have X9:r=true:=hr
  simp(maxDischargeDepth:=6) only[qA,seval,iN,zx,Int.lt_irrefl]
  exact⟨_,_,(by simp:Out.ext 0≠ .nrm),rfl,by rw[ho,X9];rfl,fun h=>(by rw[X9]at h;cases h),o2,o5,rfl,rfl⟩
def flS(asX:List (List Nat))(prev:Option Fl)(f:Fl):Int:=if IZ asX f≠0 then IZ asX f else if(match prev with|some p=> !Bg p f|none=>false)=true then 8 else 0
theorem M4(y f:Fl):(f.dp<y.dp∧Bg y f=false)∨(¬f.dp<y.dp∧ ¬f.dp=y.dp∧Bg y f=true)∨(¬f.dp<y.dp∧f.dp=y.dp∧Bg y f=gS y.nu f.nu):=by
 unfold Bg
 by_cases h1:f.dp<y.dp
 ·exact .inl ⟨h1,by rw[if_pos (by omega),decide_eq_false (by omega)]⟩
 ·by_cases h2:f.dp=y.dp
  ·exact .inr (.inr ⟨h1,h2,by rw[if_neg (by simp[h2])]⟩)
  ·exact .inr (.inl ⟨h1,h2,by rw[if_pos (by omega),decide_eq_true (by omega)]⟩)
theorem I4(t:Tt)(zT aT fT:T)(hT:uC t zT aT fT)(ha:t.ap.length≤100)(hf:t.fl.length≤1000)(hN: ∀f∈t.fl,f.nu.length≤kb)(k:Nat)(hk:k<t.fl.length):
  fj pE 154 [.agg [zT,aT,fT],.i .i64 (k:Int)] []=some (.i .i64 (flS (t.ap.map Ap.cd) (nA t.fl k) t.fl[k]),[]):=by
 obtain⟨⟨zc,z1,z2⟩,⟨ac,a1,a2⟩,⟨fc,f1,f2⟩⟩:=hT
 obtain⟨rr,fF⟩:=tX f1 f2 k hk
 have i1:=Ri t.fl[k].nu (hN _ (List.getElem_mem hk))
 have i2:=tP t.fl[k].ty
 obtain⟨v1,l1,e1⟩:=Rm t.fl[k].fr t.ap aT ac a1 a2 (by omega)
 obtain⟨v2,l2,e2⟩:=Rm t.fl[k].to t.ap aT ac a1 a2 (by omega)
 have rv: ∀h0:0<k,∃r2,∀kk,tf fT (.i kk ((k-1:Nat):Int)) 9=some (.vp (.s t.fl[k-1].nu:: .s t.fl[k-1].fr:: .s t.fl[k-1].to:: .i .i64 t.fl[k-1].dp:: .i .i64 t.fl[k-1].ar:: .s t.fl[k-1].ty:: .i .i64 t.fl[k-1].n0:: .i .i64 t.fl[k-1].n1:: .i .i64 t.fl[k-1].n2::r2)):=fun h0=>tX f1 f2 (k-1) (by omega)
 have uN: ∀h0:0<k,nA t.fl k=some t.fl[k-1]:=fun h0=>C7 h0 (by omega)
 have hp0:k=0→nA t.fl k=none:=fun h=>by rw[h];rfl
 rw[fx WN (by simp[th])]
 unfold flS IZ
 generalize t.fl[k]=f at*
 have VB:=fun c2 fr lh sh h5 h6 o2 o5=>anL f _ rfl _ rfl c2 fr lh sh h5 h6 o2 o5
 unfold MY at VB
 generalize t.ap.map Ap.cd=asX at*
 cases b1:Be f.nu with
 |false=>
  rw[b1]at i1
  simp(maxDischargeDepth:=6) only[qA,seval,th,fF,i1,qK]
 |true=>
  rw[b1]at i1
  cases b2:iX f.ty with
  |false=>
   rw[b2]at i2
   simp(maxDischargeDepth:=6) only[qA,seval,th,fF,i1,i2,qK,qc]
  |true=>
   rw[b2]at i2
   by_cases m1:f.fr∈asX
   ·have n1: ¬v1<0:=fun h=>(e1.1 h) m1
    by_cases m2:f.to∈asX
    ·have n2: ¬v2<0:=fun h=>(e2.1 h) m2
     by_cases e1:f.fr=f.to
     ·simp(maxDischargeDepth:=6) only[qA,seval,th,a1.froz,fF,i1,i2,qK,qc,l2,qd,n2,m2,e1]
     by_cases t1:f.dp<2880
     ·have ht:qv f=false:=by simp[qv];omega
      simp(maxDischargeDepth:=6) only[qA,seval,th,a1.froz,fF,i1,i2,qK,qc,l1,l2,qd,n1,n2,m1,m2,e1,t1,ht]
     by_cases t2:(52593120:Int)<f.ar
     ·have ht:qv f=false:=by simp[qv];omega
      simp(maxDischargeDepth:=6) only[qA,seval,th,a1.froz,fF,i1,i2,qK,qc,l1,l2,qd,n1,n2,m1,m2,e1,t1,t2,ht]
     by_cases t3:f.ar≤f.dp
     ·have ht:qv f=false:=by simp[qv];omega
      simp(maxDischargeDepth:=6) only[qA,seval,th,a1.froz,fF,i1,i2,qK,qc,l1,l2,qd,n1,n2,m1,m2,e1,t1,t2,t3,ht]
     have hw:wr .i64 (f.ar-f.dp)=f.ar-f.dp:=kM (by omega)
     by_cases t4:(1440:Int)<f.ar-f.dp
     ·have ht:qv f=false:=by simp[qv];omega
      simp(maxDischargeDepth:=6) only[qA,seval,th,a1.froz,fF,i1,i2,qK,qc,l1,l2,qd,n1,n2,m1,m2,e1,t1,t2,t3,hw,t4,ht]
     have ht:qv f=true:=by simp[qv];omega
     have e: [f.n0,f.n1,f.n2].all kD=(kD f.n0&&(kD f.n1&&kD f.n2)):=by simp
     have hL:=fun fr lh sh h5 h6 o2 o5=>VB ⟨1,.cells [zT,aT,fT] 0 true⟩ fr lh sh h5 h6 o2 o5
     rw[e]at hL
     cases hb:(kD f.n0&&(kD f.n1&&kD f.n2))with
     |false=>
      rw[hb]at hL
      simp(maxDischargeDepth:=6) only[qA,seval,th,a1.froz,fF,i1,i2,qK,qc,l1,l2,qd,n1,n2,m1,m2,e1,t1,t2,t3,hw,t4,ht,hL]
     |true=>
      rw[hb]at hL
      by_cases hk0:k=0
      ·have hz: ¬(0:Int)<k:=by omega
       rw[hp0 hk0]
       simp(maxDischargeDepth:=6) only[qA,seval,th,ug,a1.froz,fF,i1,i2,qK,qc,l1,l2,qd,n1,n2,m1,m2,e1,t1,t2,t3,hw,t4,ht,hL,hz]
      ·have hz:(0:Int)<k:=by omega
       have oR:=uB (k:=k) (by omega) (by omega)
       obtain⟨r2,rv⟩:=rv (by omega)
       rw[uN (by omega)]
       generalize t.fl[k-1]=y at*
       rcases M4 y f with⟨d1,hbe⟩|⟨d1,d2,hbe⟩|⟨d1,d2,hbe⟩
       ·simp only[hbe]
        simp(maxDischargeDepth:=6) only[qA,seval,th,ug,a1.froz,fF,i1,i2,qK,qc,l1,l2,qd,n1,n2,m1,m2,e1,t1,t2,t3,hw,t4,ht,hL,hz,oR,rv,d1]
       ·simp only[hbe]
        simp(maxDischargeDepth:=6) only[qA,seval,th,ug,a1.froz,fF,i1,i2,qK,qc,l1,l2,qd,n1,n2,m1,m2,e1,t1,t2,t3,hw,t4,ht,hL,hz,oR,rv,d1,d2]
       ·simp only[hbe]
        have Nr:=xc (s:=f.nu) (t:=y.nu)
        rw[d2]at t1 t3 hw t4 d1
        cases hle:gS y.nu f.nu <;> rw[hle]at Nr <;> simp(maxDischargeDepth:=6) only[qA,seval,th,ug,a1.froz,fF,i1,i2,qK,qc,l1,l2,qd,n1,n2,m1,m2,e1,t1,t2,t3,hw,t4,ht,hL,hz,oR,rv,d1,d2,Nr]
    ·have n2:v2<0:=e2.2 m2
     simp(maxDischargeDepth:=6) only[qA,seval,th,a1.froz,fF,i1,i2,qK,qc,l1,l2,qd,n1,n2,m1,m2]
   ·have n1:v1<0:=e1.2 m1
    simp(maxDischargeDepth:=6) only[qA,seval,th,a1.froz,fF,i1,i2,qK,qc,l1,qd,n1,m1]
end Go.Proofs.YtblcbheipjeoeaaGreat
namespace Go.Proofs.YtblcbheipjeoeaaGreat
open Go Go.Ev
theorem fy.take{α:Type}{R:α→List T→Prop}{k:Nat}(hR: ∀x c,R x c→c.length=k): ∀{xs:List α} {cs:List T} (i:Nat),fy R xs cs→fy R (xs.take i) (cs.take (i*k))
 | [],cs,i,h=>by rw[fy]at h;subst h;simp[fy]
 |x::xs,cs,0,h=>by simp[fy]
 |x::xs,cs,i+1,h=>by
  rw[fy]at h
  obtain⟨c,r,rfl,h1,h2⟩:=h
  have e:(c++r).take ((i+1)*k)=c++r.take (i*k):=by
   rw[show(i+1)*k=c.length+i*k by rw[hR _ _ h1,Nat.add_mul,Nat.one_mul,Nat.add_comm],List.take_append,List.take_of_length_le (by omega),Nat.add_sub_cancel_left]
  rw[e]
  exact⟨c,r.take (i*k),rfl,h1,fy.take hR i h2⟩
theorem Ro{n i:Nat}{a:T}{cc:List T}(hi:i<n)(ha:fD a n cc): ∃ex,a= .sl cc n ex:=by
 rcases ha with⟨_,hz,_⟩|⟨ex,rfl⟩
 ·omega
 ·exact⟨ex,rfl⟩
theorem anM(l:List Zo)(aT fT a:T)(cc:List T)(ha:fD a l.length cc)(hc:fy HG l cc)(hlen:l.length≤100)(r:Int)(hr:r=IX [] l)(o:Out)(ho:o=if r=0 then .ext 0 else .ret)(fr:Fr)(lh:fC fg)(sh:List fg)
  (h1:an fr 1= .ptr .L 1 1 0) (h3:an fr 3= .i .i64 0) (o1:be lh 1=⟨1,.cells [a,aT,fT] 0 true⟩):
  DC pE 96 (.loop nZ) ⟨fr,lh,sh⟩=some (o,⟨gr pE 96 nZ fr lh sh,gp pE 96 nZ fr lh sh,gn pE 96 nZ fr lh sh⟩)∧
  ((r≠0→an (gr pE 96 nZ fr lh sh) 2= .i .i64 r)∧be (gp pE 96 nZ fr lh sh) 1=⟨1,.cells [a,aT,fT] 0 true⟩∧gn pE 96 nZ fr lh sh=sh):=by
 refine fq (P:=fun fR fH fL=>(r≠0→an fR 2= .i .i64 r)∧be fH 1=⟨1,.cells [a,aT,fT] 0 true⟩∧fL=sh)
  (fw (fun k st=> ∃(fr:Fr) (fG:fC fg),st=⟨fr,fG,sh⟩∧r=IX ((l.take k).map Zo.nm) (l.drop k)∧an fr 1= .ptr .L 1 1 0∧an fr 3= .i .i64 (k:Int)∧be fG 1=⟨1,.cells [a,aT,fT] 0 true⟩) _ l.length ?_ ?_ 0 _ (Nat.zero_le _) ⟨fr,lh,rfl,hr,h1,h3,o1⟩)
 ·rintro k _ hk ⟨fr,fG,rfl,hr,h1,h3,o1⟩
  have fK:(k:Int)<l.length:=by omega
  have pR:k≤l.length:=by omega
  have hw:=gl (k:=k) (by omega)
  obtain⟨sT,sc,rr,fF,tj,yw⟩:=GL ha hc k hk
  have hz:=Re l[k] sT sc tj yw
  have kg:=fy.len HG.len hc
  obtain⟨ex,rfl⟩:=Ro hk ha
  have jm:(l.take k).length=k:=by rw[List.length_take,Nat.min_eq_left pR]
  obtain⟨v,SD,JZ⟩:=Yo l[k].nm (l.take k) (.sl (cc.take (k*3)) k (ex&&decide (k=l.length))) (cc.take (k*3)) (by rw[jm];exact Or.inr ⟨_,rfl⟩) (fy.take HG.len k hc) (by rw[jm];omega)
  rw[List.drop_eq_getElem_cons hk,IX]at hr
  rw[wZ Zo.nm hk]
  generalize (l.take k).map Zo.nm=seen at*
  generalize l[k]=z at*
  by_cases hv:tW z=0
  ·rw[if_neg (by simp[hv])]at hr
   rw[hv]at hz
   by_cases hs:z.nm∈seen
   ·right
    rw[if_pos hs]at hr
    have hn:0≤v:=by have: ¬v<0:=fun h=>(JZ.1 h) hs;omega
    simp(maxDischargeDepth:=6) only[qA,seval,tN,gW,fU,nZ,h1,h3,o1,ha.lenI,fK,pR,kg,Nat.sub_zero,fF,tj.froz1,hz,Ox,SD,JH,WL,hn]
    refine⟨_,_,(by simp:Out.ret≠ .nrm),rfl,by rw[ho,hr];rfl,fun _=> ?_, ?_,rfl⟩ <;> simp(maxDischargeDepth:=6) only[qA,seval,hr,o1]
   ·left
    rw[if_neg hs]at hr
    have hn: ¬0≤v:=by have:v<0:=JZ.2 hs;omega
    simp(maxDischargeDepth:=6) only[qA,seval,tN,gW,fU,nZ,h1,h3,o1,ha.lenI,fK,pR,kg,Nat.sub_zero,fF,hw,tj.froz1,hz,Ox,SD,JH,WL,hn]
    refine⟨_,rfl,_,_,rfl,hr, ?_, ?_, ?_⟩ <;> simp(maxDischargeDepth:=6) only[qA,seval,h1,o1]
  ·right
   rw[if_pos hv]at hr
   generalize tW z=e at*
   simp(maxDischargeDepth:=6) only[qA,seval,nZ,h1,h3,o1,ha.lenI,fK,fF,tj.froz1,hz,Ox,hv]
   refine⟨_,_,(by simp:Out.ret≠ .nrm),rfl,by rw[ho,hr,if_neg hv],fun _=> ?_, ?_,rfl⟩ <;> simp(maxDischargeDepth:=6) only[qA,seval,hr,o1]
 ·rintro _ ⟨fr,fG,rfl,hr,h1,h3,o1⟩
  rw[List.drop_length,IX]at hr
  simp(maxDischargeDepth:=6) only[qA,seval,nZ,h1,h3,o1,ha.lenI,Int.lt_irrefl]
  exact⟨_,_,(by simp:Out.ext 0≠ .nrm),rfl,by rw[ho,hr];rfl,fun h=>absurd hr h,o1,rfl⟩
theorem anN(zo:List Zo)(zT:T)(zc:List T)(z1:fD zT zo.length zc)(z2:fy HG zo zc)(hzl:zo.length≤100)(l:List Ap)(fT a:T)(cc:List T)(ha:fD a l.length cc)(hc:fy IW l cc)(hlen:l.length≤100)(r:Int)(hr:r=IY (zo.map Zo.nm) [] l)(o:Out)(ho:o=if r=0 then .ext 2 else .ret)(fr:Fr)(lh:fC fg)(sh:List fg)
  (h1:an fr 1= .ptr .L 1 1 0) (h5:an fr 5= .i .i64 0) (o1:be lh 1=⟨1,.cells [zT,a,fT] 0 true⟩):
  DC pE 96 (.loop m5) ⟨fr,lh,sh⟩=some (o,⟨gr pE 96 m5 fr lh sh,gp pE 96 m5 fr lh sh,gn pE 96 m5 fr lh sh⟩)∧
  ((r≠0→an (gr pE 96 m5 fr lh sh) 2= .i .i64 r)∧be (gp pE 96 m5 fr lh sh) 1=⟨1,.cells [zT,a,fT] 0 true⟩∧gn pE 96 m5 fr lh sh=sh):=by
 refine fq (P:=fun fR fH fL=>(r≠0→an fR 2= .i .i64 r)∧be fH 1=⟨1,.cells [zT,a,fT] 0 true⟩∧fL=sh)
  (fw (fun k st=> ∃(fr:Fr) (fG:fC fg),st=⟨fr,fG,sh⟩∧r=IY (zo.map Zo.nm) ((l.take k).map Ap.cd) (l.drop k)∧an fr 1= .ptr .L 1 1 0∧an fr 5= .i .i64 (k:Int)∧be fG 1=⟨1,.cells [zT,a,fT] 0 true⟩) _ l.length ?_ ?_ 0 _ (Nat.zero_le _) ⟨fr,lh,rfl,hr,h1,h5,o1⟩)
 ·rintro k _ hk ⟨fr,fG,rfl,hr,h1,h5,o1⟩
  have fK:(k:Int)<l.length:=by omega
  have pR:k≤l.length:=by omega
  have hw:=gl (k:=k) (by omega)
  obtain⟨rr,fF⟩:=KG ha hc k hk
  have hp:=Vy l[k].cd
  have kg:=fy.len IW.len hc
  obtain⟨ex,rfl⟩:=Ro hk ha
  have jm:(l.take k).length=k:=by rw[List.length_take,Nat.min_eq_left pR]
  obtain⟨v,SD,JZ⟩:=Rm l[k].cd (l.take k) (.sl (cc.take (k*2)) k (ex&&decide (k=l.length))) (cc.take (k*2)) (by rw[jm];exact Or.inr ⟨_,rfl⟩) (fy.take IW.len k hc) (by rw[jm];omega)
  obtain⟨u,hu1,hu2⟩:=Yo l[k].zn zo zT zc z1 z2 (by omega)
  rw[List.drop_eq_getElem_cons hk,IY]at hr
  rw[wZ Ap.cd hk]
  generalize (l.take k).map Ap.cd=seen at*
  generalize zo.map Zo.nm=zs at*
  generalize l[k]=z at*
  cases hv:Bf z.cd with
  |false=>
   right
   rw[if_pos hv]at hr
   rw[hv]at hp
   simp(maxDischargeDepth:=6) only[qA,seval,m5,h1,h5,o1,ha.lenI,fK,fF,hp,JI]
   refine⟨_,_,(by simp:Out.ret≠ .nrm),rfl,by rw[ho,hr];rfl,fun _=> ?_, ?_,rfl⟩ <;> simp(maxDischargeDepth:=6) only[qA,seval,hr,o1]
  |true=>
   rw[if_neg (by simp[hv])]at hr
   rw[hv]at hp
   by_cases hs:z.cd∈seen
   ·right
    rw[if_pos hs]at hr
    have hn:0≤v:=by have: ¬v<0:=fun h=>(JZ.1 h) hs;omega
    simp(maxDischargeDepth:=6) only[qA,seval,tN,gW,fU,m5,h1,h5,o1,ha.lenI,fK,pR,kg,Nat.sub_zero,fF,hp,JI,SD,qd,OA,hn]
    refine⟨_,_,(by simp:Out.ret≠ .nrm),rfl,by rw[ho,hr];rfl,fun _=> ?_, ?_,rfl⟩ <;> simp(maxDischargeDepth:=6) only[qA,seval,hr,o1]
   ·rw[if_neg hs]at hr
    have hn: ¬0≤v:=by have:v<0:=JZ.2 hs;omega
    by_cases hz:z.zn∈zs
    ·left
     rw[if_neg (by simp[hz])]at hr
     have hm: ¬u<0:=fun h=>(hu2.1 h) hz
     simp(maxDischargeDepth:=6) only[qA,seval,tN,gW,fU,m5,h1,h5,o1,ha.lenI,fK,pR,kg,Nat.sub_zero,fF,hw,hp,JI,SD,qd,OA,hn,z1.froz,hu1,JH,hm]
     refine⟨_,rfl,_,_,rfl,hr, ?_, ?_, ?_⟩ <;> simp(maxDischargeDepth:=6) only[qA,seval,h1,o1]
    ·right
     rw[if_pos hz]at hr
     have hm:u<0:=hu2.2 hz
     simp(maxDischargeDepth:=6) only[qA,seval,tN,gW,fU,m5,h1,h5,o1,ha.lenI,fK,pR,kg,Nat.sub_zero,fF,hp,JI,SD,qd,OA,hn,z1.froz,hu1,JH,hm]
     refine⟨_,_,(by simp:Out.ret≠ .nrm),rfl,by rw[ho,hr];rfl,fun _=> ?_, ?_,rfl⟩ <;> simp(maxDischargeDepth:=6) only[qA,seval,hr,o1]
 ·rintro _ ⟨fr,fG,rfl,hr,h1,h5,o1⟩
  rw[List.drop_length,IY]at hr
  simp(maxDischargeDepth:=6) only[qA,seval,m5,h1,h5,o1,ha.lenI,Int.lt_irrefl]
  exact⟨_,_,(by simp:Out.ext 2≠ .nrm),rfl,by rw[ho,hr];rfl,fun h=>absurd hr h,o1,rfl⟩
theorem anO(t:Tt)(zT aT fT:T)(hT:uC t zT aT fT)(ha:t.ap.length≤100)(hf:t.fl.length≤1000)(hN: ∀f∈t.fl,f.nu.length≤kb)(r:Int)(hr:r=E0 (t.ap.map Ap.cd) none t.fl)(o:Out)(ho:o=if r=0 then .ext 4 else .ret)(fr:Fr)(lh:fC fg)(sh:List fg)
  (h1:an fr 1= .ptr .L 1 1 0) (h7:an fr 7= .i .i64 0) (o1:be lh 1=⟨1,.cells [zT,aT,fT] 0 true⟩):
  DC pE 96 (.loop qa) ⟨fr,lh,sh⟩=some (o,⟨gr pE 96 qa fr lh sh,gp pE 96 qa fr lh sh,gn pE 96 qa fr lh sh⟩)∧
  ((r≠0→an (gr pE 96 qa fr lh sh) 2= .i .i64 r)∧gn pE 96 qa fr lh sh=sh):=by
 have VC:=hT
 obtain⟨⟨zc,z1,z2⟩,⟨ac,a1,a2⟩,⟨fc,f1,f2⟩⟩:=VC
 refine fq (P:=fun fR fH fL=>(r≠0→an fR 2= .i .i64 r)∧fL=sh)
  (fw (fun k st=> ∃(fr:Fr) (fG:fC fg),st=⟨fr,fG,sh⟩∧r=E0 (t.ap.map Ap.cd) (nA t.fl k) (t.fl.drop k)∧an fr 1= .ptr .L 1 1 0∧an fr 7= .i .i64 (k:Int)∧be fG 1=⟨1,.cells [zT,aT,fT] 0 true⟩) _ t.fl.length ?_ ?_ 0 _ (Nat.zero_le _) ⟨fr,lh,rfl,hr,h1,h7,o1⟩)
 ·rintro k _ hk ⟨fr,fG,rfl,hr,h1,h7,o1⟩
  have fK:(k:Int)<t.fl.length:=by omega
  have hw:=gl (k:=k) (by omega)
  have y8:=I4 t zT aT fT hT ha hf hN k hk
  rw[Rj _ hk]at hr
  have HH:r=if flS (t.ap.map Ap.cd) (nA t.fl k) t.fl[k]≠0 then flS (t.ap.map Ap.cd) (nA t.fl k) t.fl[k]else E0 (t.ap.map Ap.cd) (nA t.fl (k+1)) (t.fl.drop (k+1)):=by
   rw[hr]
   unfold flS
   generalize E0 (t.ap.map Ap.cd) (nA t.fl (k+1)) (t.fl.drop (k+1))=w
   generalize t.fl[k]=f
   generalize IZ (t.ap.map Ap.cd) f=q
   cases nA t.fl k with
   |none=>by_cases h:q=0 <;> simp[h]
   |some p=>by_cases h:q=0 <;> by_cases hb:Bg p f=false <;> simp[h,hb]
  generalize flS (t.ap.map Ap.cd) (nA t.fl k) t.fl[k]=e at*
  by_cases q:e=0
  ·left
   subst q
   rw[if_neg (by simp)]at HH
   simp(maxDischargeDepth:=6) only[qA,seval,qa,h1,h7,o1,z1.froz1,a1.froz1,f1.froz1,f1.lenI,fK,hw,y8,WO]
   refine⟨_,rfl,_,_,rfl,HH, ?_, ?_, ?_⟩ <;> simp(maxDischargeDepth:=6) only[qA,seval,h1,o1]
  ·right
   rw[if_pos q]at HH
   simp(maxDischargeDepth:=6) only[qA,seval,qa,h1,h7,o1,z1.froz1,a1.froz1,f1.froz1,f1.lenI,fK,y8,WO,q]
   refine⟨_,_,(by simp:Out.ret≠ .nrm),rfl,by rw[ho,HH,if_neg q],fun _=> ?_,rfl⟩
   simp(maxDischargeDepth:=6) only[qA,seval,HH]
 ·rintro _ ⟨fr,fG,rfl,hr,h1,h7,o1⟩
  rw[List.drop_length,E0]at hr
  simp(maxDischargeDepth:=6) only[qA,seval,qa,h1,h7,o1,f1.lenI,Int.lt_irrefl]
  exact⟨_,_,(by simp:Out.ext 4≠ .nrm),rfl,by rw[ho,hr];rfl,fun h=>absurd hr h,rfl⟩
theorem aa3(t:Tt)(zT aT fT:T)(hT:uC t zT aT fT)(hN: ∀f∈t.fl,f.nu.length≤kb):fj pE 92 [.agg [zT,aT,fT]] []=some (.i .i64 (Em t),[]):=by
 have VC:=hT
 obtain⟨⟨zc,z1,z2⟩,⟨ac,a1,a2⟩,⟨fc,f1,f2⟩⟩:=VC
 rw[fx afR (by simp[NW])]
 unfold Em
 by_cases q1:16<t.zo.length
 ·have GO:(16:Int)<t.zo.length:=by omega
  simp(maxDischargeDepth:=6) only[qA,seval,NW,z1.lenI,q1,GO]
 have GO: ¬(16:Int)<t.zo.length:=by omega
 by_cases q2:64<t.ap.length
 ·have I2:(64:Int)<t.ap.length:=by omega
  simp(maxDischargeDepth:=6) only[qA,seval,NW,z1.lenI,a1.lenI,q1,GO,q2,I2]
 have I2: ¬(64:Int)<t.ap.length:=by omega
 by_cases q3:200<t.fl.length
 ·have MZ:(200:Int)<t.fl.length:=by omega
  simp(maxDischargeDepth:=6) only[qA,seval,NW,z1.lenI,a1.lenI,f1.lenI,q1,GO,q2,I2,q3,MZ]
 have MZ: ¬(200:Int)<t.fl.length:=by omega
 rw[if_neg q1,if_neg q2,if_neg q3]
 have hz:=fun fr lh sh h1 h3 o1=>anM t.zo aT fT zT zc z1 z2 (by omega) _ rfl _ rfl fr lh sh h1 h3 o1
 have ha:=fun fr lh sh h1 h5 o1=>anN t.zo zT zc z1 z2 (by omega) t.ap fT aT ac a1 a2 (by omega) _ rfl _ rfl fr lh sh h1 h5 o1
 have hf:=fun fr lh sh h1 h7 o1=>anO t zT aT fT hT (by omega) (by omega) hN _ rfl _ rfl fr lh sh h1 h7 o1
 generalize IX [] t.zo=r1 at*
 by_cases e1:r1=0
 ·subst e1
  rw[if_neg (by simp)]
  simp only[if_true,ne_eq,not_true_eq_false,false_implies,true_and]at hz
  generalize IY (t.zo.map Zo.nm) [] t.ap=r2 at*
  by_cases e2:r2=0
  ·subst e2
   rw[if_neg (by simp)]
   simp only[if_true,ne_eq,not_true_eq_false,false_implies,true_and]at ha
   generalize E0 (t.ap.map Ap.cd) none t.fl=r3 at*
   by_cases e3:r3=0
   ·subst e3
    simp only[if_true,ne_eq,not_true_eq_false,false_implies,true_and]at hf
    simp(maxDischargeDepth:=6) only[qA,seval,NW,Fc,zV,z1.lenI,a1.lenI,f1.lenI,GO,I2,MZ,hz,ha,hf]
   ·simp only[e3,if_false,ne_eq,not_false_eq_true,forall_const]at hf
    simp(maxDischargeDepth:=6) only[qA,seval,NW,Fc,zV,z1.lenI,a1.lenI,f1.lenI,GO,I2,MZ,hz,ha,hf]
  ·rw[if_pos e2]
   simp only[e2,if_false,ne_eq,not_false_eq_true,forall_const]at ha
   simp(maxDischargeDepth:=6) only[qA,seval,NW,zV,z1.lenI,a1.lenI,f1.lenI,GO,I2,MZ,hz,ha]
 ·rw[if_pos e1]
  simp only[e1,if_false,ne_eq,not_false_eq_true,forall_const]at hz
  simp(maxDischargeDepth:=6) only[qA,seval,NW,z1.lenI,a1.lenI,f1.lenI,GO,I2,MZ,hz]
end Go.Proofs.YtblcbheipjeoeaaGreat
namespace Go.Proofs.YtblcbheipjeoeaaGreat
open Go Go.Ev
def Bi(sz:Nat):T→Bool
 | .sl ps 1 _=>decide (ps.length=sz∧0<sz)
 |_=>false
def C9(sz:Nat):T→Bool
 | .nilsl=>true
 | .isl .S _ _ 0 _ pn=>decide (pn=sz)
 |_=>false
def KJ(sh:List fg)(k bytes g len sz:Nat)(ps:List T)(e:fg):Option (T×List fg):=match e.ob with
 | .cells cs wm false=>if e.g=g∧len*sz=cs.length∧(len+1)*bytes≤roomy then some (.isl .S k (g+1) 0 (len+1) sz,il sh k ⟨g+1,.cells (cs++ps) wm false⟩)else none
 |_=>none
def aa4(sh:List fg)(bytes sz:Nat):T→T→Option (T×List fg)
 | .nilsl,.sl ps 1 _=>if bytes≤roomy then some (.isl .S sh.length 1 0 1 sz,il sh sh.length ⟨1,.cells ps 0 false⟩)else none
 | .isl .S k g 0 len _,.sl ps 1 _=>KJ sh k bytes g len sz ps (gC sh k)
 |_,_=>none
theorem gQ{sz:Nat}{ps:List T}{ex:Bool}:Bi sz (.sl ps 1 ex)=decide (ps.length=sz∧0<sz):=nr rfl
theorem kI{sz:Nat}:C9 sz .nilsl=true:=nr rfl
theorem kJ{k g len sz pn:Nat}:C9 sz (.isl .S k g 0 len pn)=decide (pn=sz):=nr rfl
theorem lB{sh:List fg}{bytes sz:Nat}{ps:List T}{ex:Bool}:aa4 sh bytes sz .nilsl (.sl ps 1 ex)=if bytes≤roomy then some (.isl .S sh.length 1 0 1 sz,il sh sh.length ⟨1,.cells ps 0 false⟩)else none:=nr rfl
theorem lC{sh:List fg}{k g len bytes sz pn:Nat}{ps:List T}{ex:Bool}:aa4 sh bytes sz (.isl .S k g 0 len pn) (.sl ps 1 ex)=KJ sh k bytes g len sz ps (gC sh k):=nr rfl
theorem ji{sh:List fg}{k g g' len bytes wm sz:Nat}{ps:List T}{cs:List T}:KJ sh k bytes g len sz ps ⟨g',.cells cs wm false⟩=if g'=g∧len*sz=cs.length∧(len+1)*bytes≤roomy then some (.isl .S k (g+1) 0 (len+1) sz,il sh k ⟨g+1,.cells (cs++ps) wm false⟩)else none:=nr rfl
theorem Da{sz:Nat}{t:T}(h:Bi sz t=true): ∃ps ex,t= .sl ps 1 ex∧ps.length=sz∧0<sz:=by
 unfold Bi at h
 split at h
 ·have:=of_decide_eq_true h;exact⟨_,_,rfl,this.1,this.2⟩
 ·cases h
theorem GQ{sz:Nat}{t:T}(h:C9 sz t=true):t= .nilsl∨ ∃k g len,t= .isl .S k g 0 len sz:=by
 unfold C9 at h
 split at h
 ·exact .inl rfl
 ·have:=of_decide_eq_true h;subst this;exact .inr ⟨_,_,_,rfl⟩
 ·cases h
section
variable{E:Env}{call:qz}{n:Nat}{fr:Fr}{lh:fC fg}{sh:List fg}{ds:List (List Nat×fe)}{g8:List FP}{d:Option Nat}{os:List fe}
theorem j3{dd sz bytes:Nat}{s x:fM}(hd:dd<n)(hx:Bi sz (rd fr x)=true)(hs:C9 sz (rd fr s)=true):fi E call n (⟨some dd,.app sz bytes s x true false,none⟩::os) ⟨fr,lh,sh⟩=
  (aa4 sh bytes sz (rd fr s) (rd fr x)).bind fun q=>fi E call n os ⟨iG fr dd q.1,lh,q.2⟩:=by
 obtain⟨ps,ex,hx,yE,nL⟩:=Da hx
 have aik:ps.length=1*sz:=by omega
 rw[qn (by rfl) (show CI n (some dd)from hd)]
 unfold Ev.one
 rcases GQ hs with hs|⟨k,g,len,hs⟩
 ·simp only[gA,qe,gJ,hs,hx,gU,aik,if_true,Q.run,Option.bind_some,lB]
  simp only[Nat.succ_ne_zero,if_false,Nat.one_mul]
  by_cases hb:bytes≤roomy
  ·simp only[if_pos hb,nP,Q.run,if_true];rfl
  ·simp only[if_neg hb,Q.run];rfl
 ·have hge:(St.mk fr lh sh).get .S k=gC sh k:=rfl
  rw[hs,hx,lC]
  generalize hE:gC sh k=e at*
  obtain⟨g',ob⟩:=e
  unfold KJ
  simp only[gA,qe,gJ,hs,hx,gU,aik,if_true,Q.run,Option.bind_some]
  simp only[Nat.succ_ne_zero,if_false,decide_true,Bool.true_and,decide_eq_true_eq]
  by_cases hb:(len+1)*bytes≤roomy
  ·simp only[Q.run,hge,if_true,hb,and_true]
   by_cases hg:g'=g
   ·subst hg
    simp only[if_true,true_and]
    cases ob with
    |none=>simp only[Q.run];rfl
    |map _ _ _=>simp only[Q.run];rfl
    |cells cs wm bx=>
     cases bx with
     |true=>simp only[Q.run];rfl
     |false=>
      simp only[]
      by_cases hl:len*sz=cs.length
      ·simp only[if_pos hl,Q.run];rfl
      ·simp only[if_neg hl,Q.run];rfl
   ·simp only[Q.run,hg,false_and,if_false]
    cases ob with
    |none=>rfl
    |map _ _ _=>rfl
    |cells cs wm bx=>cases bx <;> rfl
  ·simp only[hb,if_false,Q.run,and_false]
   cases ob with
   |none=>rfl
   |map _ _ _=>rfl
   |cells cs wm bx=>cases bx <;> rfl
def GR(n:Nat):T→FP
 | .isl .S k _ _ _ _=>⟨false,[(.S,k)],[(.S,k)]⟩
 |_=>⟨true,[],[(.S,n)]⟩
theorem gM{rs ws:List (Sp×Nat)}{m:Nat}{t:T}(h1:Hz rs=true)(h2:Hz ws=true):apart ⟨false,rs,ws⟩ (GR m t)=true:=by
 have q: ∀(xs:List (Sp×Nat)) (k:Nat),Hz xs=true→(xs.all fun x=> !([(Sp.S,k)]:List (Sp×Nat)).contains x)=true:=by
  intro xs k h
  rw[List.all_eq_true]
  intro x hx
  have:=List.all_eq_true.1 h x hx
  obtain⟨sp,j⟩:=x
  cases sp with
  |L=>rfl
  |S=>simp at this
 have q0: ∀(xs:List (Sp×Nat)),(xs.all fun x=> !([]:List (Sp×Nat)).contains x)=true:=by intro xs;rw[List.all_eq_true];intro x _;rfl
 unfold GR
 split
 ·unfold apart lq
  rw[q ws _ h2,q rs _ h1];rfl
 ·unfold apart lq
  dsimp only
  rw[q ws _ h2,q rs _ h1,q0,h1,h2];rfl
theorem j4{u:List Nat}{dd sz bytes:Nat}{s x:fM}(hx:Bi sz (rd fr x)=true)(hs:C9 sz (rd fr s)=true):fN E call n ((u,⟨some dd,.app sz bytes s x true false,none⟩)::ds) g8 ⟨fr,lh,sh⟩=
  if meets u g8 (GR sh.length (rd fr s))=true then ke E call n ds (g8++ [GR sh.length (rd fr s)]) (fi E call n [⟨some dd,.app sz bytes s x true false,none⟩] ⟨fr,lh,sh⟩)else none:=by
 refine tn fun jC=> ?_
 obtain⟨ps,ex,hx,yE,nL⟩:=Da hx
 have k6:gU sz (rd fr x)= .ret (1,ps):=by rw[hx];simp only[gU,Nat.one_mul,yE,if_true]
 obtain⟨v,ups,hr,iJ⟩:=vD (q:=qe dd sz bytes (rd fr s) (rd fr x) true false) (by rfl) (by rw[jE];rfl) jC
 unfold qe at hr iJ
 rw[k6]at hr iJ
 simp only[Q.bind,Nat.one_ne_zero,if_false]at hr iJ
 rcases GQ hs with hs|⟨k,g,len,hs⟩
 ·rw[hs]at hr iJ ⊢
  simp only at hr iJ
  by_cases hb:1*bytes≤roomy
  ·rw[if_pos hb]at hr iJ
   simp only[nP,if_true,Q.run,Option.some.injEq,zl.val.injEq]at hr
   obtain⟨rfl,rfl⟩:=hr
   rw[iJ (by simp[nP,Q.asks])]
   rfl
  ·rw[if_neg hb]at hr
   simp[Q.run]at hr
 ·rw[hs]at hr iJ ⊢
  simp only[decide_true,Bool.true_and,decide_eq_true_eq]at hr iJ
  by_cases hb:(len+1)*bytes≤roomy
  ·rw[if_pos (by simp[hb])]at hr iJ
   simp only[Q.run]at hr
   have hge:(St.mk fr lh sh).get .S k=gC sh k:=rfl
   generalize he:(St.mk fr lh sh).get .S k=e at hr iJ
   obtain⟨g',ob⟩:=e
   simp only at hr
   split at hr
   ·rename_i hg
    cases ob with
    |none=>simp[Q.run]at hr
    |map a b c=>simp[Q.run]at hr
    |cells LY wm bx=>
     cases bx with
     |true=>simp[Q.run]at hr
     |false=>
      simp only at hr
      split at hr
      ·rename_i hl
       simp only[Q.run,Option.some.injEq,zl.val.injEq]at hr
       obtain⟨rfl,rfl⟩:=hr
       rw[iJ (by simp[uk,Ab,he])]
       simp only[Q.asks,Q.log,he,hg,hl,if_true,iB,List.map_cons,List.map_nil,GR]
      ·simp[Q.run]at hr
   ·simp[Q.run]at hr
  ·rw[if_neg (by simp[hb])]at hr
   simp[Q.run]at hr
end
end Go.Proofs.YtblcbheipjeoeaaGreat
