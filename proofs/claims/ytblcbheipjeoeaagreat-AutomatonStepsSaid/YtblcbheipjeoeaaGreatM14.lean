/- Codes of flights and airports. The program's check of a flight. The program's check of a timetable. The program's check of a timetable, whole. Conditions: the theorems' own. -/
import Derived.Test.YtblcbheipjeoeaaGreatM13
import Derived.KernelRfl
set_option maxRecDepth 100000
set_option linter.unusedSimpArgs false
set_option linter.unusedVariables false
set_option maxHeartbeats 16000000
namespace Go.Proofs.YtblcbheipjeoeaaGreat
open Go Go.Ev
theorem Vw(c:Nat):vG c=(decide ((65:Int)≤c)&&decide ((c:Int)≤90)||decide ((48:Int)≤c)&&decide ((c:Int)≤57)):=by
 unfold vG zy zb
 by_cases a1:(65:Int)≤c <;> by_cases a2:(c:Int)≤90 <;> by_cases a3:(48:Int)≤c <;> by_cases a4:(c:Int)≤57 <;> simp[a1,a2,a3,a4]
theorem aif(s:List Nat)(hs:s.length≤8)(r:Bool)(hr:r=s.all vG)(o:Out)(ho:o=if r then .ext 0 else .ret)(fr:Fr)(lh:fC fg)(sh:List fg)(h0:an fr 0= .s s)(iM:an fr 14= .i .i64 (s.length:Int))(I0:an fr 15= .i .i64 0):
  DC pE 37 (.loop nh) ⟨fr,lh,sh⟩=some (o,⟨gr pE 37 nh fr lh sh,gp pE 37 nh fr lh sh,gn pE 37 nh fr lh sh⟩)∧
  ((r=false→an (gr pE 37 nh fr lh sh) 2= .b false)∧gn pE 37 nh fr lh sh=sh):=by
 refine fq (P:=fun fR fH fL=>(r=false→an fR 2= .b false)∧fL=sh)
  (fw (fun k st=> ∃(fr:Fr) (fG:fC fg),st=⟨fr,fG,sh⟩∧r=(s.drop k).all vG∧an fr 0= .s s∧an fr 14= .i .i64 (s.length:Int)∧an fr 15= .i .i64 (k:Int)) _ s.length ?_ ?_ 0 _ (Nat.zero_le _) ⟨fr,lh,rfl,hr,h0,iM,I0⟩)
 ·rintro k _ hk ⟨fr,fG,rfl,hr,h0,iM,I0⟩
  have fK:(k:Int)<s.length:=by omega
  have hw:=gl (k:=k) (by omega)
  have Ky:=oN hk
  rw[List.drop_eq_getElem_cons hk,List.all_cons,Vw]at hr
  generalize ((s[k]:Nat):Int)=c at*
  by_cases a1:(65:Int)≤c <;> by_cases a2:c≤90 <;> by_cases a3:(48:Int)≤c <;> by_cases a4:c≤57 <;>
   simp only[a1,a2,a3,a4,decide_true,decide_false,Bool.and_true,Bool.and_false,Bool.or_true,Bool.or_false,Bool.true_and,Bool.false_and]at hr <;>
   first
   |(left
     simp(maxDischargeDepth:=6) only[qA,seval,nh,h0,iM,I0,fK,Ky,hw,a1,a2,a3,a4]
     refine⟨_,rfl,_,_,rfl,hr, ?_, ?_, ?_⟩ <;> (simp(maxDischargeDepth:=6) only[qA,seval,h0,iM];done))
   |(right
     simp(maxDischargeDepth:=6) only[qA,seval,nh,h0,iM,I0,fK,Ky,a1,a2,a3,a4]
     refine⟨_,_,(by simp:Out.ret≠ .nrm),rfl,by rw[ho,hr];rfl,fun _=> ?_,rfl⟩
     simp(maxDischargeDepth:=6) only[qA,seval];done)
 ·rintro _ ⟨fr,fG,rfl,hr,h0,iM,I0⟩
  rw[List.drop_length,List.all_nil]at hr
  simp(maxDischargeDepth:=6) only[qA,seval,nh,iM,I0,Int.lt_irrefl]
  exact⟨_,_,(by simp:Out.ext 0≠ .nrm),rfl,by rw[ho,hr];rfl,fun h=>(by rw[hr]at h;cases h),rfl⟩
theorem Rh(s:List Nat):fj pE 224 [.s s] []=some (.b (Be s),[]):=by
 rw[fx W1 (by simp[Fh])]
 unfold Be
 by_cases h1:s.length<1
 ·have pJ:(s.length:Int)<1:=by omega
  have e: ¬1≤s.length:=by omega
  simp(maxDischargeDepth:=6) only[qA,seval,Fh,pJ,e]
 ·have pJ: ¬(s.length:Int)<1:=by omega
  have e:1≤s.length:=by omega
  by_cases h2:8<s.length
  ·have yA:(8:Int)<s.length:=by omega
   have e2: ¬s.length≤8:=by omega
   simp(maxDischargeDepth:=6) only[qA,seval,Fh,pJ,yA,e,e2]
  ·have yA: ¬(8:Int)<s.length:=by omega
   have e2:s.length≤8:=by omega
   have hL:=fun fr lh sh h0 iM I0=>aif s e2 _ rfl _ rfl fr lh sh h0 iM I0
   cases h3:s.all vG with
   |true=>
    rw[h3]at hL
    simp(maxDischargeDepth:=6) only[qA,seval,Fh,pJ,yA,e,e2,hL]
   |false=>
    rw[h3]at hL
    simp(maxDischargeDepth:=6) only[qA,seval,Fh,pJ,yA,e,e2,hL]
theorem xb(c:Nat):fj pE 238 [.i .u8 c] []=some (.b (decide (zy c)),[]):=by
 rw[fx Xb (by simp[LI])]
 by_cases h1:(65:Int)≤c
 ·by_cases h2:(c:Int)≤90 <;> simp(maxDischargeDepth:=6) only[qA,seval,LI,h1,h2,zy]
 ·simp(maxDischargeDepth:=6) only[qA,seval,LI,h1,zy]
theorem aih(s:List Nat)(hs:s.length≤kb)(r:Bool)(hr:r=s.all vG)(o:Out)(ho:o=if r then .ext 0 else .ret)(fr:Fr)(lh:fC fg)(sh:List fg)(h0:an fr 0= .s s)(h3:an fr 3= .i .i64 0):
  DC pE 30 (.loop mz) ⟨fr,lh,sh⟩=some (o,⟨gr pE 30 mz fr lh sh,gp pE 30 mz fr lh sh,gn pE 30 mz fr lh sh⟩)∧
  ((r=false→an (gr pE 30 mz fr lh sh) 2= .b false)∧gn pE 30 mz fr lh sh=sh):=by
 refine fq (P:=fun fR fH fL=>(r=false→an fR 2= .b false)∧fL=sh)
  (fw (fun k st=> ∃(fr:Fr) (fG:fC fg),st=⟨fr,fG,sh⟩∧r=(s.drop k).all vG∧an fr 0= .s s∧an fr 3= .i .i64 (k:Int)) _ s.length ?_ ?_ 0 _ (Nat.zero_le _) ⟨fr,lh,rfl,hr,h0,h3⟩)
 ·rintro k _ hk ⟨fr,fG,rfl,hr,h0,h3⟩
  have fK:(k:Int)<s.length:=by omega
  have hw:=mg (k:=k) (by omega)
  have Ky:=oN hk
  have u1:=xb s[k]
  have u2:=uA s[k]
  rw[List.drop_eq_getElem_cons hk,List.all_cons]at hr
  by_cases c1:zy s[k]
  ·left
   have e:vG s[k]=true:=by simp[vG,c1]
   rw[e,Bool.true_and]at hr
   rw[decide_eq_true c1]at u1
   simp(maxDischargeDepth:=6) only[qA,seval,mz,h0,h3,fK,Ky,hw,u1,JM]
   refine⟨_,rfl,_,_,rfl,hr, ?_, ?_⟩ <;> simp(maxDischargeDepth:=6) only[qA,seval,h0]
  ·rw[decide_eq_false c1]at u1
   by_cases c2:zb s[k]
   ·left
    have e:vG s[k]=true:=by simp[vG,c2]
    rw[e,Bool.true_and]at hr
    rw[decide_eq_true c2]at u2
    simp(maxDischargeDepth:=6) only[qA,seval,mz,h0,h3,fK,Ky,hw,u1,u2,JM,Fu]
    refine⟨_,rfl,_,_,rfl,hr, ?_, ?_⟩ <;> simp(maxDischargeDepth:=6) only[qA,seval,h0]
   ·right
    have e:vG s[k]=false:=by simp[vG,c1,c2]
    rw[e,Bool.false_and]at hr
    rw[decide_eq_false c2]at u2
    simp(maxDischargeDepth:=6) only[qA,seval,mz,h0,h3,fK,Ky,u1,u2,JM,Fu]
    refine⟨_,_,(by simp:Out.ret≠ .nrm),rfl,by rw[ho,hr];rfl,fun _=> ?_,rfl⟩
    simp(maxDischargeDepth:=6) only[qA,seval]
 ·rintro _ ⟨fr,fG,rfl,hr,h0,h3⟩
  rw[List.drop_length,List.all_nil]at hr
  simp(maxDischargeDepth:=6) only[qA,seval,mz,h0,h3,Int.lt_irrefl]
  exact⟨_,_,(by simp:Out.ext 0≠ .nrm),rfl,by rw[ho,hr];rfl,fun h=>(by rw[hr]at h;cases h),rfl⟩
theorem Ri(s:List Nat)(hs:s.length≤kb):fj pE 239 [.s s] []=some (.b (Be s),[]):=by
 rw[fx Xc (by simp[Fi])]
 unfold Be
 have hL:=fun fr lh sh h0 h3=>aih s hs _ rfl _ rfl fr lh sh h0 h3
 cases h3:s.all vG with
 |false=>
  rw[h3]at hL
  simp(maxDischargeDepth:=6) only[qA,seval,Fi,hL]
 |true=>
  rw[h3]at hL
  by_cases h1:1≤s.length
  ·have pJ:(1:Int)≤s.length:=by omega
   by_cases h2:s.length≤8
   ·have yA:(s.length:Int)≤8:=by omega
    simp(maxDischargeDepth:=6) only[qA,seval,Fi,xD,hL,h1,pJ,h2,yA]
   ·have yA: ¬(s.length:Int)≤8:=by omega
    simp(maxDischargeDepth:=6) only[qA,seval,Fi,xD,hL,h1,pJ,h2,yA]
  ·have pJ: ¬(1:Int)≤s.length:=by omega
   simp(maxDischargeDepth:=6) only[qA,seval,Fi,xD,hL,h1,pJ]
theorem aii(s:List Nat)(hs:s.length=3)(r:Bool)(hr:r=s.all fun c=>decide (zy c))(o:Out)(ho:o=if r then .ext 0 else .ret)(fr:Fr)(lh:fC fg)(sh:List fg)(h0:an fr 0= .s s)(h8:an fr 8= .i .i64 (s.length:Int))(h9:an fr 9= .i .i64 0):
  DC pE 23 (.loop mn) ⟨fr,lh,sh⟩=some (o,⟨gr pE 23 mn fr lh sh,gp pE 23 mn fr lh sh,gn pE 23 mn fr lh sh⟩)∧
  ((r=false→an (gr pE 23 mn fr lh sh) 2= .b false)∧gn pE 23 mn fr lh sh=sh):=by
 refine fq (P:=fun fR fH fL=>(r=false→an fR 2= .b false)∧fL=sh)
  (fw (fun k st=> ∃(fr:Fr) (fG:fC fg),st=⟨fr,fG,sh⟩∧r=((s.drop k).all fun c=>decide (zy c))∧an fr 0= .s s∧an fr 8= .i .i64 (s.length:Int)∧an fr 9= .i .i64 (k:Int)) _ s.length ?_ ?_ 0 _ (Nat.zero_le _) ⟨fr,lh,rfl,hr,h0,h8,h9⟩)
 ·rintro k _ hk ⟨fr,fG,rfl,hr,h0,h8,h9⟩
  have fK:(k:Int)<s.length:=by omega
  have hw:=gl (k:=k) (by omega)
  have Ky:=oN hk
  rw[List.drop_eq_getElem_cons hk,List.all_cons]at hr
  by_cases c1:(s[k]:Int)<65
  ·right
   have e:decide (zy s[k])=false:=decide_eq_false (by unfold zy;omega)
   rw[e,Bool.false_and]at hr
   simp(maxDischargeDepth:=6) only[qA,seval,mn,h0,h8,h9,fK,Ky,c1]
   refine⟨_,_,(by simp:Out.ret≠ .nrm),rfl,by rw[ho,hr];rfl,fun _=> ?_,rfl⟩
   simp(maxDischargeDepth:=6) only[qA,seval]
  ·by_cases c2:(90:Int)<s[k]
   ·right
    have e:decide (zy s[k])=false:=decide_eq_false (by unfold zy;omega)
    rw[e,Bool.false_and]at hr
    simp(maxDischargeDepth:=6) only[qA,seval,mn,h0,h8,h9,fK,Ky,c1,c2]
    refine⟨_,_,(by simp:Out.ret≠ .nrm),rfl,by rw[ho,hr];rfl,fun _=> ?_,rfl⟩
    simp(maxDischargeDepth:=6) only[qA,seval]
   ·left
    have e:decide (zy s[k])=true:=decide_eq_true (by unfold zy;omega)
    rw[e,Bool.true_and]at hr
    simp(maxDischargeDepth:=6) only[qA,seval,mn,h0,h8,h9,fK,Ky,hw,c1,c2]
    refine⟨_,rfl,_,_,rfl,hr, ?_, ?_, ?_⟩ <;> simp(maxDischargeDepth:=6) only[qA,seval,h0,h8]
 ·rintro _ ⟨fr,fG,rfl,hr,h0,h8,h9⟩
  rw[List.drop_length,List.all_nil]at hr
  simp(maxDischargeDepth:=6) only[qA,seval,mn,h8,h9,Int.lt_irrefl]
  exact⟨_,_,(by simp:Out.ext 0≠ .nrm),rfl,by rw[ho,hr];rfl,fun h=>(by rw[hr]at h;cases h),rfl⟩
theorem Vx(s:List Nat):fj pE 139 [.s s] []=some (.b (Bf s),[]):=by
 rw[fx WB (by simp[HO])]
 unfold Bf
 by_cases h1:s.length=3
 ·have pJ:(s.length:Int)=3:=by omega
  have hL:=fun fr lh sh h0 h8 h9=>aii s h1 _ rfl _ rfl fr lh sh h0 h8 h9
  rw[h1]at hL
  cases h3:s.all fun c=>decide (zy c)with
  |true=>
   rw[h3]at hL
   simp(maxDischargeDepth:=6) only[qA,seval,HO,h1,hL]
  |false=>
   rw[h3]at hL
   simp(maxDischargeDepth:=6) only[qA,seval,HO,h1,hL]
 ·have pJ: ¬(s.length:Int)=3:=by omega
  simp(maxDischargeDepth:=6) only[qA,seval,HO,h1,pJ]
theorem Vy(s:List Nat):fj pE 152 [.s s] []=some (.b (Bf s),[]):=by
 rw[fx WM (by simp[Lq])]
 by_cases h1:s.length=3
 ·obtain⟨a,b,c,rfl⟩: ∃a b c,s= [a,b,c]:=by
   match s,h1 with
   | [a,b,c],_=>exact⟨a,b,c,rfl⟩
  have u1:=xb a
  have u2:=xb b
  have u3:=xb c
  have i0: ∀kk,B7 (.s [a,b,c]) (.i kk 0)=some (.i .u8 (a:Int)):=fun kk=>oN (s:= [a,b,c]) (k:=0) (by simp) kk
  have i1: ∀kk,B7 (.s [a,b,c]) (.i kk 1)=some (.i .u8 (b:Int)):=fun kk=>oN (s:= [a,b,c]) (k:=1) (by simp) kk
  have i2: ∀kk,B7 (.s [a,b,c]) (.i kk 2)=some (.i .u8 (c:Int)):=fun kk=>oN (s:= [a,b,c]) (k:=2) (by simp) kk
  have e:Bf [a,b,c]=(decide (zy a)&&(decide (zy b)&&decide (zy c))):=by simp[Bf]
  have hl:(([a,b,c]:List Nat).length:Int)=3:=rfl
  rw[e]
  cases h1:decide (zy a) <;> cases h2:decide (zy b) <;> cases h3:decide (zy c) <;> rw[h1]at u1 <;> rw[h2]at u2 <;> rw[h3]at u3 <;> simp(maxDischargeDepth:=6) only[qA,seval,Lq,i0,i1,i2,u1,u2,u3,JM]
 ·have pJ: ¬(s.length:Int)=3:=by omega
  have e:Bf s=false:=by simp[Bf,h1]
  rw[e]
  simp(maxDischargeDepth:=6) only[qA,seval,Lq,pJ]
end Go.Proofs.YtblcbheipjeoeaaGreat
namespace Go.Proofs.YtblcbheipjeoeaaGreat
open Go Go.Ev
theorem anH(n0 n1 n2:Int)(r:Bool)(hr:r= [n0,n1,n2].all kD)(o:Out)(ho:o=if r then .ext 1 else .ret)(fr:Fr)(lh:fC fg)(sh:List fg)(GN:an fr 62= .agg [.i .i64 n0,.i .i64 n1,.i .i64 n2])(uM:an fr 63= .i .i64 0):
  DC pE 73 (.loop jx) ⟨fr,lh,sh⟩=some (o,⟨gr pE 73 jx fr lh sh,gp pE 73 jx fr lh sh,gn pE 73 jx fr lh sh⟩)∧
  ((r=false→an (gr pE 73 jx fr lh sh) 4= .i .i64 5)∧gn pE 73 jx fr lh sh=sh):=by
 have wA: ∀(n:Int) (rest:Bool),(r=(kD n&&rest))→(n<0∧r=false)∨(¬n<0∧8<n∧r=false)∨(¬n<0∧ ¬8<n∧r=rest):=by
  intro n rest h
  unfold kD at h
  by_cases a1:n<0
  ·exact .inl ⟨a1,by rw[h,decide_eq_false (by omega)];rfl⟩
  ·by_cases a2:8<n
   ·exact .inr (.inl ⟨a1,a2,by rw[h,decide_eq_false (p:=n≤8) (by omega),Bool.and_false,Bool.false_and]⟩)
   ·exact .inr (.inr ⟨a1,a2,by rw[h,decide_eq_true (p:=0≤n) (by omega),decide_eq_true (p:=n≤8) (by omega)];rfl⟩)
 refine fq (P:=fun fR fH fL=>(r=false→an fR 4= .i .i64 5)∧fL=sh)
  (fw (fun k st=> ∃(fr:Fr) (fG:fC fg),st=⟨fr,fG,sh⟩∧r=([n0,n1,n2].drop k).all kD∧an fr 62= .agg [.i .i64 n0,.i .i64 n1,.i .i64 n2]∧an fr 63= .i .i64 (k:Int)) _ 3 ?_ ?_ 0 _ (Nat.zero_le _) ⟨fr,lh,rfl,hr,GN,uM⟩)
 ·rintro k _ hk ⟨fr,fG,rfl,hr,GN,uM⟩
  have hc:k=0∨k=1∨k=2:=by omega
  have w1:wr .i64 (0+1)=((0+1:Nat):Int):=kM (by omega)
  have w2:wr .i64 (1+1)=((1+1:Nat):Int):=kM (by omega)
  have w3:wr .i64 (2+1)=((2+1:Nat):Int):=kM (by omega)
  rcases hc with rfl|rfl|rfl
  ·rcases wA n0 _ hr with⟨a1,e⟩|⟨a1,a2,e⟩|⟨a1,a2,e⟩
   ·right
    simp(maxDischargeDepth:=6) only[qA,seval,y9,jx,GN,uM,a1]
    refine⟨_,_,(by simp:Out.ret≠ .nrm),rfl,by rw[ho,e];rfl,fun _=> ?_,rfl⟩
    simp(maxDischargeDepth:=6) only[qA,seval]
   ·right
    simp(maxDischargeDepth:=6) only[qA,seval,y9,jx,GN,uM,a1,a2]
    refine⟨_,_,(by simp:Out.ret≠ .nrm),rfl,by rw[ho,e];rfl,fun _=> ?_,rfl⟩
    simp(maxDischargeDepth:=6) only[qA,seval]
   ·left
    simp(maxDischargeDepth:=6) only[qA,seval,y9,jx,GN,uM,a1,a2]
    refine⟨_,rfl,_,_,rfl,by simpa using e, ?_, ?_⟩ <;> simp(maxDischargeDepth:=6) only[qA,seval,GN]
  ·have En:an fr 63= .i .i64 1:=uM
   rcases wA n1 _ hr with⟨a1,e⟩|⟨a1,a2,e⟩|⟨a1,a2,e⟩
   ·right
    simp(maxDischargeDepth:=6) only[qA,seval,y9,jx,GN,En,a1]
    refine⟨_,_,(by simp:Out.ret≠ .nrm),rfl,by rw[ho,e];rfl,fun _=> ?_,rfl⟩
    simp(maxDischargeDepth:=6) only[qA,seval]
   ·right
    simp(maxDischargeDepth:=6) only[qA,seval,y9,jx,GN,En,a1,a2]
    refine⟨_,_,(by simp:Out.ret≠ .nrm),rfl,by rw[ho,e];rfl,fun _=> ?_,rfl⟩
    simp(maxDischargeDepth:=6) only[qA,seval]
   ·left
    simp(maxDischargeDepth:=6) only[qA,seval,y9,jx,GN,En,a1,a2]
    refine⟨_,rfl,_,_,rfl,by simpa using e, ?_, ?_⟩ <;> simp(maxDischargeDepth:=6) only[qA,seval,GN]
  ·have En:an fr 63= .i .i64 2:=uM
   rcases wA n2 _ hr with⟨a1,e⟩|⟨a1,a2,e⟩|⟨a1,a2,e⟩
   ·right
    simp(maxDischargeDepth:=6) only[qA,seval,y9,jx,GN,En,a1]
    refine⟨_,_,(by simp:Out.ret≠ .nrm),rfl,by rw[ho,e];rfl,fun _=> ?_,rfl⟩
    simp(maxDischargeDepth:=6) only[qA,seval]
   ·right
    simp(maxDischargeDepth:=6) only[qA,seval,y9,jx,GN,En,a1,a2]
    refine⟨_,_,(by simp:Out.ret≠ .nrm),rfl,by rw[ho,e];rfl,fun _=> ?_,rfl⟩
    simp(maxDischargeDepth:=6) only[qA,seval]
   ·left
    simp(maxDischargeDepth:=6) only[qA,seval,y9,jx,GN,En,a1,a2]
    refine⟨_,rfl,_,_,rfl,by simpa using e, ?_, ?_⟩ <;> simp(maxDischargeDepth:=6) only[qA,seval,GN]
 ·rintro _ ⟨fr,fG,rfl,hr,GN,uM⟩
  have En:an fr 63= .i .i64 3:=uM
  have X9:r=true:=hr
  simp(maxDischargeDepth:=6) only[qA,seval,jx,En,Int.lt_irrefl]
  exact⟨_,_,(by simp:Out.ext 1≠ .nrm),rfl,by rw[ho,X9];rfl,fun h=>(by rw[X9]at h;cases h),rfl⟩
theorem aa2(asX:List (List Nat))(f:Fl):fj pE 140 [.agg (MY f),.vm (KH asX) (KI asX)] []=some (.i .i64 (IZ asX f),[]):=by
 have i1:=Rh f.nu
 have i2:=tQ f.ty
 have l1:=GM asX f.fr
 have l2:=GM asX f.to
 rw[fx WC (by simp[vt])]
 unfold IZ MY
 cases b1:Be f.nu with
 |false=>
  rw[b1]at i1
  simp(maxDischargeDepth:=6) only[qA,seval,vt,i1,tz]
 |true=>
  rw[b1]at i1
  cases b2:iX f.ty with
  |false=>
   rw[b2]at i2
   simp(maxDischargeDepth:=6) only[qA,seval,vt,i1,i2,tz,qG]
  |true=>
   rw[b2]at i2
   by_cases m1:f.fr∈asX
   ·rw[decide_eq_true m1]at l1
    by_cases m2:f.to∈asX
    ·rw[decide_eq_true m2]at l2
     by_cases e1:f.fr=f.to
     ·simp(maxDischargeDepth:=6) only[qA,seval,vt,i1,i2,tz,qG,l2,m2,e1]
     ·by_cases t1:f.dp<2880
      ·have ht:qv f=false:=by simp[qv];omega
       simp(maxDischargeDepth:=6) only[qA,seval,vt,i1,i2,tz,qG,l1,l2,m1,m2,e1,t1,ht]
      by_cases t2:(52593120:Int)<f.ar
      ·have ht:qv f=false:=by simp[qv];omega
       simp(maxDischargeDepth:=6) only[qA,seval,vt,i1,i2,tz,qG,l1,l2,m1,m2,e1,t1,t2,ht]
      by_cases t3:f.ar≤f.dp
      ·have ht:qv f=false:=by simp[qv];omega
       simp(maxDischargeDepth:=6) only[qA,seval,vt,i1,i2,tz,qG,l1,l2,m1,m2,e1,t1,t2,t3,ht]
      have hw:wr .i64 (f.ar-f.dp)=f.ar-f.dp:=kM (by omega)
      by_cases t4:(1440:Int)<f.ar-f.dp
      ·have ht:qv f=false:=by simp[qv];omega
       simp(maxDischargeDepth:=6) only[qA,seval,vt,i1,i2,tz,qG,l1,l2,m1,m2,e1,t1,t2,t3,hw,t4,ht]
      have ht:qv f=true:=by simp[qv];omega
      have hL:=fun fr lh sh GN uM=>anH f.n0 f.n1 f.n2 _ rfl _ rfl fr lh sh GN uM
      have e: [f.n0,f.n1,f.n2].all kD=(kD f.n0&&(kD f.n1&&kD f.n2)):=by simp
      rw[e]at hL
      cases hb:(kD f.n0&&(kD f.n1&&kD f.n2))with
      |true=>
       rw[hb]at hL
       simp(maxDischargeDepth:=6) only[qA,seval,vt,i1,i2,tz,qG,l1,l2,m1,m2,e1,t1,t2,t3,hw,t4,ht,hL]
      |false=>
       rw[hb]at hL
       simp(maxDischargeDepth:=6) only[qA,seval,vt,i1,i2,tz,qG,l1,l2,m1,m2,e1,t1,t2,t3,hw,t4,ht,hL]
    ·rw[decide_eq_false m2]at l2
     simp(maxDischargeDepth:=6) only[qA,seval,vt,i1,i2,tz,qG,l1,l2,m1,m2]
   ·rw[decide_eq_false m1]at l1
    simp(maxDischargeDepth:=6) only[qA,seval,vt,i1,i2,tz,qG,l1,m1]
theorem Vz(f g:Fl):fj pE 141 [.agg (MY f),.agg (MY g)] []=some (.b (Bg f g),[]):=by
 rw[fx Ou (by simp[Ll])]
 unfold Bg MY
 by_cases h:f.dp=g.dp
 ·simp(maxDischargeDepth:=6) only[qA,seval,Ll,h]
 ·simp(maxDischargeDepth:=6) only[qA,seval,Ll,h]
end Go.Proofs.YtblcbheipjeoeaaGreat
namespace Go.Proofs.YtblcbheipjeoeaaGreat
open Go Go.Ev
theorem anI(l:List Zo)(a:T)(cc:List T)(ha:fD a l.length cc)(hc:fy HG l cc)(hlen:l.length≤100)(r:Int)(hr:r=IX [] l)(o:Out)(ho:o=if r=0 then .ext 0 else .ret)(g:Nat)(c1 SA:fg)(fr:Fr)(lh:fC fg)(sh:List fg)
  (h3:an fr 3= .mp .L 29 g) (Eg:an fr 31=a) (Cc:an fr 32= .i .i64 (l.length:Int)) (Eh:an fr 33= .i .i64 0) (o1:be lh 1=c1) (Eo:be lh 29=⟨g,.map [] [] false⟩) (uZ:be lh 50=SA):
  DC pE 106 (.loop mK) ⟨fr,lh,sh⟩=some (o,⟨gr pE 106 mK fr lh sh,gp pE 106 mK fr lh sh,gn pE 106 mK fr lh sh⟩)∧
  ((r≠0→an (gr pE 106 mK fr lh sh) 2= .i .i64 r)∧(r=0→be (gp pE 106 mK fr lh sh) 29=⟨g,.map (KH (l.map Zo.nm)) (KI (l.map Zo.nm)) false⟩)∧be (gp pE 106 mK fr lh sh) 1=c1∧be (gp pE 106 mK fr lh sh) 50=SA∧gn pE 106 mK fr lh sh=sh):=by
 refine fq (P:=fun fR fH fL=>(r≠0→an fR 2= .i .i64 r)∧(r=0→be fH 29=⟨g,.map (KH (l.map Zo.nm)) (KI (l.map Zo.nm)) false⟩)∧be fH 1=c1∧be fH 50=SA∧fL=sh)
  (fw (fun k st=> ∃(fr:Fr) (fG:fC fg),st=⟨fr,fG,sh⟩∧r=IX ((l.take k).map Zo.nm) (l.drop k)∧an fr 3= .mp .L 29 g∧an fr 31=a∧an fr 32= .i .i64 (l.length:Int)∧an fr 33= .i .i64 (k:Int)∧be fG 1=c1∧be fG 50=SA∧be fG 29=⟨g,.map (KH ((l.take k).map Zo.nm)) (KI ((l.take k).map Zo.nm)) false⟩) _ l.length ?_ ?_ 0 _ (Nat.zero_le _) ⟨fr,lh,rfl,hr,h3,Eg,Cc,Eh,o1,uZ,Eo⟩)
 ·rintro k _ hk ⟨fr,fG,rfl,hr,h3,Eg,Cc,Eh,o1,uZ,Eo⟩
  have fK:(k:Int)<l.length:=by omega
  have hw:=gl (k:=k) (by omega)
  obtain⟨sT,sc,rr,fF,tj,yw⟩:=GL ha hc k hk
  have hz:=Rd l[k] sT sc tj yw
  rw[List.drop_eq_getElem_cons hk,IX]at hr
  have ja:=GM ((l.take k).map Zo.nm) l[k].nm
  have j5:=Rg ((l.take k).map Zo.nm) l[k].nm
  rw[wZ Zo.nm hk]
  generalize (l.take k).map Zo.nm=seen at*
  generalize l[k]=z at*
  by_cases hv:tW z=0
  ·rw[if_neg (by simp[hv])]at hr
   rw[hv]at hz
   by_cases hs:z.nm∈seen
   ·right
    rw[if_pos hs]at hr
    rw[decide_eq_true hs]at ja
    simp(maxDischargeDepth:=6) only[qA,seval,mK,h3,Eg,Cc,Eh,Eo,fK,fF,tj.froz1,hz,Ot,gI,ja]
    refine⟨_,_,(by simp:Out.ret≠ .nrm),rfl,by rw[ho,hr];rfl,fun _=> ?_,fun h=>(by rw[hr]at h;cases h), ?_, ?_,rfl⟩ <;> simp(maxDischargeDepth:=6) only[qA,seval,hr,o1,uZ]
   ·left
    rw[if_neg hs]at hr
    rw[decide_eq_false hs]at ja
    have j5:=j5 hs
    simp(maxDischargeDepth:=6) only[qA,seval,mK,h3,Eg,Cc,Eh,Eo,fK,fF,hw,tj.froz1,hz,Ot,gI,ja,pM,wN,j5]
    refine⟨_,rfl,_,_,rfl,hr, ?_, ?_, ?_, ?_, ?_, ?_, ?_⟩ <;> simp(maxDischargeDepth:=6) only[qA,seval,h3,Eg,Cc,o1,uZ]
  ·right
   rw[if_pos hv]at hr
   generalize tW z=e at*
   simp(maxDischargeDepth:=6) only[qA,seval,mK,Eg,Cc,Eh,fK,fF,tj.froz1,hz,Ot,hv]
   refine⟨_,_,(by simp:Out.ret≠ .nrm),rfl,by rw[ho,hr,if_neg hv],fun _=> ?_,fun h=>absurd (hr▸h) hv, ?_, ?_,rfl⟩ <;> simp(maxDischargeDepth:=6) only[qA,seval,hr,o1,uZ]
 ·rintro _ ⟨fr,fG,rfl,hr,h3,Eg,Cc,Eh,o1,uZ,Eo⟩
  rw[List.drop_length,IX]at hr
  rw[List.take_length]at Eo
  simp(maxDischargeDepth:=6) only[qA,seval,mK,Cc,Eh,Int.lt_irrefl]
  exact⟨_,_,(by simp:Out.ext 0≠ .nrm),rfl,by rw[ho,hr];rfl,fun h=>absurd hr h,fun _=>Eo,o1,uZ,rfl⟩
theorem anJ(zs:List (List Nat))(l:List Ap)(a:T)(cc:List T)(ha:fD a l.length cc)(hc:fy IW l cc)(hlen:l.length≤100)(r:Int)(hr:r=IY zs [] l)(o:Out)(ho:o=if r=0 then .ext 2 else .ret)(g g3:Nat)(c1:fg)(fr:Fr)(lh:fC fg)(sh:List fg)
  (h3:an fr 3= .mp .L 29 g3) (h7:an fr 7= .mp .L 50 g) (E1:an fr 52=a) (yO:an fr 53= .i .i64 (l.length:Int)) (zd:an fr 54= .i .i64 0) (o1:be lh 1=c1) (Eo:be lh 29=⟨g3,.map (KH zs) (KI zs) false⟩) (uZ:be lh 50=⟨g,.map [] [] false⟩):
  DC pE 106 (.loop mJ) ⟨fr,lh,sh⟩=some (o,⟨gr pE 106 mJ fr lh sh,gp pE 106 mJ fr lh sh,gn pE 106 mJ fr lh sh⟩)∧
  ((r≠0→an (gr pE 106 mJ fr lh sh) 2= .i .i64 r)∧(r=0→be (gp pE 106 mJ fr lh sh) 50=⟨g,.map (KH (l.map Ap.cd)) (KI (l.map Ap.cd)) false⟩)∧be (gp pE 106 mJ fr lh sh) 1=c1∧gn pE 106 mJ fr lh sh=sh):=by
 refine fq (P:=fun fR fH fL=>(r≠0→an fR 2= .i .i64 r)∧(r=0→be fH 50=⟨g,.map (KH (l.map Ap.cd)) (KI (l.map Ap.cd)) false⟩)∧be fH 1=c1∧fL=sh)
  (fw (fun k st=> ∃(fr:Fr) (fG:fC fg),st=⟨fr,fG,sh⟩∧r=IY zs ((l.take k).map Ap.cd) (l.drop k)∧an fr 3= .mp .L 29 g3∧an fr 7= .mp .L 50 g∧an fr 52=a∧an fr 53= .i .i64 (l.length:Int)∧an fr 54= .i .i64 (k:Int)∧be fG 1=c1∧be fG 29=⟨g3,.map (KH zs) (KI zs) false⟩∧be fG 50=⟨g,.map (KH ((l.take k).map Ap.cd)) (KI ((l.take k).map Ap.cd)) false⟩) _ l.length ?_ ?_ 0 _ (Nat.zero_le _) ⟨fr,lh,rfl,hr,h3,h7,E1,yO,zd,o1,Eo,uZ⟩)
 ·rintro k _ hk ⟨fr,fG,rfl,hr,h3,h7,E1,yO,zd,o1,Eo,uZ⟩
  have fK:(k:Int)<l.length:=by omega
  have hw:=gl (k:=k) (by omega)
  obtain⟨rr,fF⟩:=KG ha hc k hk
  have hp:=Vx l[k].cd
  rw[List.drop_eq_getElem_cons hk,IY]at hr
  have ja:=GM ((l.take k).map Ap.cd) l[k].cd
  have j5:=Rg ((l.take k).map Ap.cd) l[k].cd
  have hlz:=GM zs l[k].zn
  rw[wZ Ap.cd hk]
  generalize (l.take k).map Ap.cd=seen at*
  generalize l[k]=z at*
  cases hv:Bf z.cd with
  |false=>
   right
   rw[if_pos hv]at hr
   rw[hv]at hp
   simp(maxDischargeDepth:=6) only[qA,seval,mJ,h7,E1,yO,zd,fK,fF,hp,JE]
   refine⟨_,_,(by simp:Out.ret≠ .nrm),rfl,by rw[ho,hr];rfl,fun _=> ?_,fun h=>(by rw[hr]at h;cases h), ?_,rfl⟩ <;> simp(maxDischargeDepth:=6) only[qA,seval,hr,o1]
  |true=>
   rw[if_neg (by simp[hv])]at hr
   rw[hv]at hp
   by_cases hs:z.cd∈seen
   ·right
    rw[if_pos hs]at hr
    rw[decide_eq_true hs]at ja
    simp(maxDischargeDepth:=6) only[qA,seval,mJ,h3,h7,E1,yO,zd,Eo,uZ,fK,fF,hp,JE,gI,ja]
    refine⟨_,_,(by simp:Out.ret≠ .nrm),rfl,by rw[ho,hr];rfl,fun _=> ?_,fun h=>(by rw[hr]at h;cases h), ?_,rfl⟩ <;> simp(maxDischargeDepth:=6) only[qA,seval,hr,o1]
   ·rw[if_neg hs]at hr
    rw[decide_eq_false hs]at ja
    have j5:=j5 hs
    by_cases hz:z.zn∈zs
    ·left
     rw[if_neg (by simp[hz])]at hr
     rw[decide_eq_true hz]at hlz
     simp(maxDischargeDepth:=6) only[qA,seval,mJ,h3,h7,E1,yO,zd,Eo,uZ,fK,fF,hw,hp,JE,gI,ja,hlz,pM,wN,j5]
     refine⟨_,rfl,_,_,rfl,hr, ?_, ?_, ?_, ?_, ?_, ?_, ?_, ?_⟩ <;> simp(maxDischargeDepth:=6) only[qA,seval,h3,h7,E1,yO,o1,Eo]
    ·right
     rw[if_pos hz]at hr
     rw[decide_eq_false hz]at hlz
     simp(maxDischargeDepth:=6) only[qA,seval,mJ,h3,h7,E1,yO,zd,Eo,uZ,fK,fF,hp,JE,gI,ja,hlz]
     refine⟨_,_,(by simp:Out.ret≠ .nrm),rfl,by rw[ho,hr];rfl,fun _=> ?_,fun h=>(by rw[hr]at h;cases h), ?_,rfl⟩ <;> simp(maxDischargeDepth:=6) only[qA,seval,hr,o1]
 ·rintro _ ⟨fr,fG,rfl,hr,h3,h7,E1,yO,zd,o1,Eo,uZ⟩
  rw[List.drop_length,IY]at hr
  rw[List.take_length]at uZ
  simp(maxDischargeDepth:=6) only[qA,seval,mJ,yO,zd,Int.lt_irrefl]
  exact⟨_,_,(by simp:Out.ext 2≠ .nrm),rfl,by rw[ho,hr];rfl,fun h=>absurd hr h,fun _=>uZ,o1,rfl⟩
def nA(l:List Fl)(k:Nat):Option Fl:=if k=0 then none else l[k-1]?
theorem C7{l:List Fl}{k:Nat}(h0:0<k)(hk:k-1<l.length):nA l k=some l[k-1]:=by
 unfold nA;rw[if_neg (by omega),List.getElem?_eq_getElem hk]
theorem Rj(asX:List (List Nat)){l:List Fl}{k:Nat}(hk:k<l.length):E0 asX (nA l k) (l.drop k)=if IZ asX l[k]≠0 then IZ asX l[k]else if(match nA l k with|some p=> !Bg p l[k]|none=>false)=true then 8 else E0 asX (nA l (k+1)) (l.drop (k+1)):=by
 have e:nA l (k+1)=some l[k]:=by unfold nA;rw[if_neg (by omega),Nat.add_sub_cancel,List.getElem?_eq_getElem hk]
 rw[List.drop_eq_getElem_cons hk,e]
 conv=>lhs;unfold E0
 rfl
theorem anK(asX:List (List Nat))(zT aT:T)(l:List Fl)(a:T)(cc:List T)(ha:fD a l.length cc)(hc:fy SX l cc)(hlen:l.length≤1000)(r:Int)(hr:r=E0 asX none l)(o:Out)(ho:o=if r=0 then .ext 5 else .ret)(g:Nat)(fr:Fr)(lh:fC fg)(sh:List fg)
  (h1:an fr 1= .ptr .L 1 1 0) (h7:an fr 7= .mp .L 50 g) (Rk:an fr 79=a) (NB:an fr 80= .i .i64 (l.length:Int)) (SY:an fr 81= .i .i64 0) (o1:be lh 1=⟨1,.cells [zT,aT,a] 0 true⟩) (uZ:be lh 50=⟨g,.map (KH asX) (KI asX) false⟩):
  DC pE 106 (.loop nX) ⟨fr,lh,sh⟩=some (o,⟨gr pE 106 nX fr lh sh,gp pE 106 nX fr lh sh,gn pE 106 nX fr lh sh⟩)∧
  ((r≠0→an (gr pE 106 nX fr lh sh) 2= .i .i64 r)∧gn pE 106 nX fr lh sh=sh):=by
 refine fq (P:=fun fR fH fL=>(r≠0→an fR 2= .i .i64 r)∧fL=sh)
  (fw (fun k st=> ∃(fr:Fr) (fG:fC fg) (wm:Bool),st=⟨fr,fG,sh⟩∧r=E0 asX (nA l k) (l.drop k)∧an fr 1= .ptr .L 1 1 0∧an fr 7= .mp .L 50 g∧an fr 79=a∧an fr 80= .i .i64 (l.length:Int)∧an fr 81= .i .i64 (k:Int)∧be fG 1=⟨1,.cells [zT,aT,a] 0 true⟩∧be fG 50=⟨g,.map (KH asX) (KI asX) wm⟩) _ l.length ?_ ?_ 0 _ (Nat.zero_le _) ⟨fr,lh,false,rfl,hr,h1,h7,Rk,NB,SY,o1,uZ⟩)
 ·rintro k _ hk ⟨fr,fG,wm,rfl,pq,h1,h7,Rk,NB,SY,o1,uZ⟩
  have fK:(k:Int)<l.length:=by omega
  have hw:=gl (k:=k) (by omega)
  obtain⟨rr,fF⟩:=tX ha hc k hk
  have hf:=aa2 asX l[k]
  unfold MY at hf
  rw[Rj asX hk]at pq
  by_cases hv:IZ asX l[k]=0
  ·rw[if_neg (by simp[hv])]at pq
   rw[hv]at hf
   by_cases hk0:k=0
   ·left
    have hz: ¬(0:Int)<k:=by omega
    have hp:nA l k=none:=by rw[hk0];rfl
    rw[hp]at pq
    simp only[Bool.false_eq_true,if_false]at pq
    generalize l[k]=z at*
    simp(maxDischargeDepth:=6) only[qA,seval,gW,nX,h7,Rk,NB,SY,uZ,fK,fF,hw,hf,JF,hz]
    refine⟨_,rfl,_,_,wm,rfl,pq, ?_, ?_, ?_, ?_, ?_, ?_, ?_⟩ <;> simp(maxDischargeDepth:=6) only[qA,seval,h1,h7,Rk,NB,o1,uZ]
   ·have hz:(0:Int)<k:=by omega
    have oR:=uB (k:=k) (by omega) (by omega)
    obtain⟨r2,rv⟩:=tX ha hc (k-1) (by omega)
    have hb:=Vz l[k-1] l[k]
    unfold MY at hb
    rw[C7 (by omega) (by omega)]at pq
    simp only at pq
    generalize l[k]=z at*
    generalize l[k-1]=y at*
    cases EY:Bg y z with
    |false=>
     right
     rw[EY]at hb
     simp only[EY,Bool.not_false,if_true]at pq
     simp(maxDischargeDepth:=6) only[qA,seval,gW,fU,nX,h1,h7,Rk,NB,SY,o1,uZ,fK,fF,hf,JF,hz,oR,rv,hb,WD,WE]
     refine⟨_,_,(by simp:Out.ret≠ .nrm),rfl,by rw[ho,pq];rfl,fun _=> ?_,rfl⟩
     simp(maxDischargeDepth:=6) only[qA,seval,pq]
    |true=>
     left
     rw[EY]at hb
     simp only[EY,Bool.not_true,Bool.false_eq_true,if_false]at pq
     simp(maxDischargeDepth:=6) only[qA,seval,gW,fU,nX,h1,h7,Rk,NB,SY,o1,uZ,fK,fF,hw,hf,JF,hz,oR,rv,hb,WD,WE]
     refine⟨_,rfl,_,_,wm,rfl,pq, ?_, ?_, ?_, ?_, ?_, ?_, ?_⟩ <;> simp(maxDischargeDepth:=6) only[qA,seval,h1,h7,Rk,NB,o1,uZ]
  ·right
   rw[if_pos hv]at pq
   generalize l[k]=z at*
   generalize IZ asX z=e at*
   simp(maxDischargeDepth:=6) only[qA,seval,nX,h7,Rk,NB,SY,uZ,fK,fF,hf,JF,hv]
   refine⟨_,_,(by simp:Out.ret≠ .nrm),rfl,by rw[ho,pq,if_neg hv],fun _=> ?_,rfl⟩
   simp(maxDischargeDepth:=6) only[qA,seval,pq]
 ·rintro _ ⟨fr,fG,wm,rfl,hr,h1,h7,Rk,NB,SY,o1,uZ⟩
  rw[List.drop_length,E0]at hr
  simp(maxDischargeDepth:=6) only[qA,seval,nX,NB,SY,Int.lt_irrefl]
  exact⟨_,_,(by simp:Out.ext 5≠ .nrm),rfl,by rw[ho,hr];rfl,fun h=>absurd hr h,rfl⟩
end Go.Proofs.YtblcbheipjeoeaaGreat
namespace Go.Proofs.YtblcbheipjeoeaaGreat
open Go Go.Ev
structure uC (t:Tt) (zT aT fT:T):Prop where
 z: ∃c,fD zT t.zo.length c∧fy HG t.zo c
 a: ∃c,fD aT t.ap.length c∧fy IW t.ap c
 f: ∃c,fD fT t.fl.length c∧fy SX t.fl c
theorem I1(t:Tt)(zT aT fT:T)(hT:uC t zT aT fT):fj pE 86 [.agg [zT,aT,fT]] []=some (.i .i64 (Em t),[]):=by
 obtain⟨⟨zc,z1,z2⟩,⟨ac,a1,a2⟩,⟨fc,f1,f2⟩⟩:=hT
 rw[fx afM (by simp[NS])]
 unfold Em
 by_cases q1:16<t.zo.length
 ·have GO:(16:Int)<t.zo.length:=by omega
  simp(maxDischargeDepth:=6) only[qA,seval,NS,z1.lenI,q1,GO]
 have GO: ¬(16:Int)<t.zo.length:=by omega
 by_cases q2:64<t.ap.length
 ·have I2:(64:Int)<t.ap.length:=by omega
  simp(maxDischargeDepth:=6) only[qA,seval,NS,z1.lenI,a1.lenI,q1,GO,q2,I2]
 have I2: ¬(64:Int)<t.ap.length:=by omega
 by_cases q3:200<t.fl.length
 ·have MZ:(200:Int)<t.fl.length:=by omega
  simp(maxDischargeDepth:=6) only[qA,seval,NS,z1.lenI,a1.lenI,f1.lenI,q1,GO,q2,I2,q3,MZ]
 have MZ: ¬(200:Int)<t.fl.length:=by omega
 rw[if_neg q1,if_neg q2,if_neg q3]
 have hz:=fun fr lh sh h3 Eg Cc Eh o1 Eo uZ=>anI t.zo zT zc z1 z2 (by omega) _ rfl _ rfl 1 ⟨1,.cells [zT,aT,fT] 0 true⟩ ⟨0,.none⟩ fr lh sh h3 Eg Cc Eh o1 Eo uZ
 have ha:=fun fr lh sh h3 h7 E1 yO zd o1 Eo uZ=>anJ (t.zo.map Zo.nm) t.ap aT ac a1 a2 (by omega) _ rfl _ rfl 1 1 ⟨1,.cells [zT,aT,fT] 0 true⟩ fr lh sh h3 h7 E1 yO zd o1 Eo uZ
 have hf:=fun fr lh sh h1 h7 Rk NB SY o1 uZ=>anK (t.ap.map Ap.cd) zT aT t.fl fT fc f1 f2 (by omega) _ rfl _ rfl 1 fr lh sh h1 h7 Rk NB SY o1 uZ
 generalize IX [] t.zo=r1 at*
 by_cases e1:r1=0
 ·subst e1
  rw[if_neg (by simp)]
  simp only[if_true,ne_eq,not_true_eq_false,false_implies,true_and,forall_const]at hz
  generalize IY (t.zo.map Zo.nm) [] t.ap=r2 at*
  by_cases e2:r2=0
  ·subst e2
   rw[if_neg (by simp)]
   simp only[if_true,ne_eq,not_true_eq_false,false_implies,true_and,forall_const]at ha
   generalize E0 (t.ap.map Ap.cd) none t.fl=r3 at*
   by_cases e3:r3=0
   ·subst e3
    simp only[if_true,ne_eq,not_true_eq_false,false_implies,true_and]at hf
    simp(maxDischargeDepth:=6) only[qA,seval,NS,E9,zR,z1.lenI,a1.lenI,f1.lenI,GO,I2,MZ,hz,ha,hf]
   ·simp only[e3,if_false,ne_eq,not_false_eq_true,forall_const]at hf
    simp(maxDischargeDepth:=6) only[qA,seval,NS,E9,zR,z1.lenI,a1.lenI,f1.lenI,GO,I2,MZ,hz,ha,hf]
  ·rw[if_pos e2]
   simp only[e2,if_false,ne_eq,not_false_eq_true,forall_const,false_implies,true_and]at ha
   simp(maxDischargeDepth:=6) only[qA,seval,NS,zR,z1.lenI,a1.lenI,f1.lenI,GO,I2,MZ,hz,ha]
 ·rw[if_pos e1]
  simp only[e1,if_false,ne_eq,not_false_eq_true,forall_const,false_implies,true_and]at hz
  simp(maxDischargeDepth:=6) only[qA,seval,NS,z1.lenI,a1.lenI,f1.lenI,GO,I2,MZ,hz]
end Go.Proofs.YtblcbheipjeoeaaGreat
