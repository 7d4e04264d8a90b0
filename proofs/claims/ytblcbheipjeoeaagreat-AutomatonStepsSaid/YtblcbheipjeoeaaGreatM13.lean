/- Zones: what the program and the reference take for one. Zones: the reference's check. The laws' measure of a contract: it answers. Timetables: records; what is wrong with one. Conditions: the theorems' own. -/
import Derived.Test.YtblcbheipjeoeaaGreatM12
import Derived.KernelRfl
set_option maxRecDepth 100000
set_option linter.unusedSimpArgs false
set_option linter.unusedVariables false
set_option maxHeartbeats 16000000
namespace Go.Proofs.YtblcbheipjeoeaaGreat
open Go Go.Ev
def Bc(n:Int):Bool:=decide (-840≤n)&&decide (n≤840)
def GK(n:Int):Bool:=decide (0≤n)&&decide (n<52596000)
theorem KD(n:Int):fj pE 222 [.i .i64 n] []=some (.b (Bc n),[]):=by
 rw[fx WZ (by simp[Ly])]
 unfold Bc
 by_cases h: -840≤n
 ·simp(maxDischargeDepth:=6) only[qA,seval,Ly,h]
 ·simp(maxDischargeDepth:=6) only[qA,seval,Ly,h]
theorem KE(n:Int):fj pE 236 [.i .i64 n] []=some (.b (Bc n),[]):=by
 rw[fx W9 (by simp[LG])]
 unfold Bc
 by_cases h: -840≤n
 ·simp(maxDischargeDepth:=6) only[qA,seval,LG,h]
 ·simp(maxDischargeDepth:=6) only[qA,seval,LG,h]
theorem Vu(n:Int):fj pE 223 [.i .i64 n] []=some (.b (GK n),[]):=by
 rw[fx W0 (by simp[LA])]
 unfold GK
 by_cases h:0≤n
 ·simp(maxDischargeDepth:=6) only[qA,seval,LA,h]
 ·simp(maxDischargeDepth:=6) only[qA,seval,LA,h]
theorem Vv(n:Int):fj pE 237 [.i .i64 n] []=some (.b (GK n),[]):=by
 rw[fx Xa (by simp[LH])]
 unfold GK
 by_cases h:0≤n
 ·simp(maxDischargeDepth:=6) only[qA,seval,LH,h]
 ·simp(maxDischargeDepth:=6) only[qA,seval,LH,h]
structure Zo where
 nm:List Nat
 o:Int
 sh:List (Int×Int)
def NA(s:Int×Int)(c:List T):Prop:=c= [.i .i64 s.1,.i .i64 s.2]
theorem NA.len(s:Int×Int)(c:List T)(h:NA s c):c.length=2:=by rw[h];rfl
def IV(prev:Option Int):List (Int×Int)→Int
 | []=>0
 |s::r=>if(GK s.1&&Bc s.2)=false then 5 else if(match prev with|some p=>decide (s.1≤p)|none=>false)=true then 8 else IV (some s.1) r
def tV(l:List (Int×Int))(k:Nat):Option Int:=if k=0 then none else(l[k-1]?).map (·.1)
theorem Rc{l:List (Int×Int)}{k:Nat}(hk:k<l.length):IV (tV l k) (l.drop k)=if(GK l[k].1&&Bc l[k].2)=false then 5 else if(match tV l k with|some p=>decide (l[k].1≤p)|none=>false)=true then 8 else IV (tV l (k+1)) (l.drop (k+1)):=by
 have e:tV l (k+1)=some l[k].1:=by unfold tV;rw[if_neg (by omega),Nat.add_sub_cancel,List.getElem?_eq_getElem hk];rfl
 rw[List.drop_eq_getElem_cons hk,e]
 conv=>lhs;unfold IV
theorem C5{l:List (Int×Int)}{k:Nat}(h0:0<k)(hk:k-1<l.length):tV l k=some l[k-1].1:=by
 unfold tV;rw[if_neg (by omega),List.getElem?_eq_getElem hk];rfl
theorem uB{k:Nat}(h0:0<k)(h:k<4611686018427387904):wr .i64 ((k:Int)-1)=((k-1:Nat):Int):=by rw[kM (by omega)];omega
def tW(z:Zo):Int:=if iX z.nm=false then 1 else if Bc z.o=false then 5 else if 16<z.sh.length then 10 else IV none z.sh
theorem KF{l:List (Int×Int)}{a:T}{cc:List T}(ha:fD a l.length cc)(hc:fy NA l cc){k:Nat}(hk:k<l.length): ∃r,∀kk,tf a (.i kk (k:Int)) 2=some (.vp (.i .i64 l[k].1:: .i .i64 l[k].2::r)):=by
 obtain⟨c,r,h1,h2⟩:=pN (k:=2) NA.len ha hc k hk
 rw[NA]at h2
 subst h2
 exact⟨r,h1⟩
theorem anA(z:Zo)(a:T)(cc:List T)(ha:fD a z.sh.length cc)(hc:fy NA z.sh cc)(hlen:z.sh.length≤16)(r:Int)(hr:r=IV none z.sh)(o:Out)(ho:o=if r=0 then .ext 0 else .ret)(fr:Fr)(lh:fC fg)(sh:List fg)
  (h1:an fr 1= .ptr .L 1 1 0) (oT:an fr 18=a) (MX:an fr 19= .i .i64 (z.sh.length:Int)) (Bd:an fr 20= .i .i64 0) (o1:be lh 1=⟨1,.cells [.s z.nm,.i .i64 z.o,a] 0 true⟩):
  DC pE 50 (.loop kP) ⟨fr,lh,sh⟩=some (o,⟨gr pE 50 kP fr lh sh,gp pE 50 kP fr lh sh,gn pE 50 kP fr lh sh⟩)∧
  ((r≠0→an (gr pE 50 kP fr lh sh) 2= .i .i64 r)∧gn pE 50 kP fr lh sh=sh):=by
 refine fq (P:=fun fR fH fL=>(r≠0→an fR 2= .i .i64 r)∧fL=sh)
  (fw (fun k st=> ∃(fr:Fr) (fG:fC fg),st=⟨fr,fG,sh⟩∧r=IV (tV z.sh k) (z.sh.drop k)∧an fr 1= .ptr .L 1 1 0∧an fr 18=a∧an fr 19= .i .i64 (z.sh.length:Int)∧an fr 20= .i .i64 (k:Int)∧be fG 1=⟨1,.cells [.s z.nm,.i .i64 z.o,a] 0 true⟩) _ z.sh.length ?_ ?_ 0 _ (Nat.zero_le _) ⟨fr,lh,rfl,hr,h1,oT,MX,Bd,o1⟩)
 ·rintro k _ hk ⟨fr,fG,rfl,pq,h1,oT,MX,Bd,o1⟩
  have fK:(k:Int)<z.sh.length:=by omega
  have hw:=gl (k:=k) (by omega)
  obtain⟨rr,fF⟩:=KF ha hc hk
  rw[Rc hk]at pq
  have i1:=Vu z.sh[k].1
  have i2:=KD z.sh[k].2
  cases iK:GK z.sh[k].1 with
  |false=>
   right
   rw[iK]at i1
   rw[iK,Bool.false_and,if_pos rfl]at pq
   subst pq
   simp(maxDischargeDepth:=6) only[qA,seval,forall_const,kP,oT,MX,Bd,fK,fF,i1,Fw]
   refine⟨_,_,by simp,rfl,by rw[ho];rfl, ?_,rfl⟩
   simp(maxDischargeDepth:=6) only[qA,seval]
  |true=>
   rw[iK]at i1
   cases oS:Bc z.sh[k].2 with
   |false=>
    right
    rw[oS]at i2
    rw[iK,oS,Bool.and_false,if_pos rfl]at pq
    subst pq
    simp(maxDischargeDepth:=6) only[qA,seval,forall_const,kP,oT,MX,Bd,fK,fF,i1,i2,Fw,vY]
    refine⟨_,_,by simp,rfl,by rw[ho];rfl, ?_,rfl⟩
    simp(maxDischargeDepth:=6) only[qA,seval]
   |true=>
    rw[oS]at i2
    rw[iK,oS,Bool.and_self,if_neg (by simp)]at pq
    by_cases hk0:k=0
    ·left
     have hz: ¬(0:Int)<k:=by omega
     have hp:tV z.sh k=none:=by rw[hk0];rfl
     rw[hp]at pq
     simp only[Bool.false_eq_true,if_false]at pq
     simp(maxDischargeDepth:=6) only[qA,seval,kP,oT,MX,Bd,fK,fF,i1,i2,hz,hw,Fw,vY]
     refine⟨_,rfl,_,_,rfl,pq, ?_, ?_, ?_, ?_, ?_⟩
     all_goals (simp(maxDischargeDepth:=6) only[qA,seval,h1,oT,MX,o1])
    ·have hz:(0:Int)<k:=by omega
     have oR:=uB (k:=k) (by omega) (by omega)
     obtain⟨r2,rv⟩:=KF ha hc (k:=k-1) (by omega)
     rw[C5 (by omega) (by omega)]at pq
     by_cases hle:z.sh[k].1≤z.sh[k-1].1
     ·right
      rw[if_pos (by simpa using hle)]at pq
      subst pq
      simp(maxDischargeDepth:=6) only[qA,seval,forall_const,kP,h1,oT,MX,Bd,o1,fK,fF,i1,i2,hz,oR,rv,hle,Fw,vY]
      refine⟨_,_,by simp,rfl,by rw[ho];rfl, ?_,rfl⟩
      simp(maxDischargeDepth:=6) only[qA,seval]
     ·left
      rw[if_neg (by simpa using hle)]at pq
      simp(maxDischargeDepth:=6) only[qA,seval,kP,h1,oT,MX,Bd,o1,fK,fF,i1,i2,hz,hw,oR,rv,hle,Fw,vY]
      refine⟨_,rfl,_,_,rfl,pq, ?_, ?_, ?_, ?_, ?_⟩
      all_goals (simp(maxDischargeDepth:=6) only[qA,seval,h1,oT,MX,o1])
 ·rintro _ ⟨fr,fG,rfl,pq,h1,oT,MX,Bd,o1⟩
  rw[List.drop_length,IV]at pq
  subst pq
  simp(maxDischargeDepth:=6) only[qA,seval,kP,MX,Bd,Int.lt_irrefl]
  exact⟨_,_,(by simp:Out.ext 0≠ .nrm),rfl,by rw[ho];rfl,by simp,rfl⟩
theorem C6(l:List (Int×Int)): ∀p,IV p l=0∨IV p l=5∨IV p l=8:=by
 induction l with
 |nil=>intro p;exact .inl rfl
 |cons s r ih=>
  intro p
  unfold IV
  repeat' split
  all_goals first
   |exact .inr (.inl rfl)
   |exact .inr (.inr rfl)
   |exact ih _
theorem Rd(z:Zo)(a:T)(cc:List T)(ha:fD a z.sh.length cc)(hc:fy NA z.sh cc):fj pE 138 [.agg [.s z.nm,.i .i64 z.o,a]] []=some (.i .i64 (tW z),[]):=by
 rw[fx WA (by simp[BR])]
 have i1:=tQ z.nm
 have i2:=KD z.o
 unfold tW
 cases iK:iX z.nm with
 |false=>
  rw[iK]at i1
  simp(maxDischargeDepth:=6) only[qA,seval,BR,i1,qG]
 |true=>
  rw[iK]at i1
  cases oS:Bc z.o with
  |false=>
   rw[oS]at i2
   simp(maxDischargeDepth:=6) only[qA,seval,BR,i1,i2,qG,vY]
  |true=>
   rw[oS]at i2
   by_cases hl:16<z.sh.length
   ·have BW:(16:Int)<z.sh.length:=by omega
    simp(maxDischargeDepth:=6) only[qA,seval,BR,i1,i2,ha.lenI,hl,BW,qG,vY]
   ·have BW: ¬(16:Int)<z.sh.length:=by omega
    have hL:=fun fr lh sh h1 oT MX Bd o1=>anA z a cc ha hc (by omega) _ rfl _ rfl fr lh sh h1 oT MX Bd o1
    rcases C6 z.sh none with h|h|h
    ·rw[h]at hL ⊢
     simp(maxDischargeDepth:=6) only[qA,seval,BR,i1,i2,ha.lenI,hl,BW,hL,qG,vY]
    ·rw[h]at hL ⊢
     simp(maxDischargeDepth:=6) only[qA,seval,BR,i1,i2,ha.lenI,hl,BW,hL,qG,vY]
    ·rw[h]at hL ⊢
     simp(maxDischargeDepth:=6) only[qA,seval,BR,i1,i2,ha.lenI,hl,BW,hL,qG,vY]
end Go.Proofs.YtblcbheipjeoeaaGreat
namespace Go.Proofs.YtblcbheipjeoeaaGreat
open Go Go.Ev
theorem anB(z:Zo)(a:T)(cc:List T)(ha:fD a z.sh.length cc)(hc:fy NA z.sh cc)(hlen:z.sh.length≤16)(r:Int)(hr:r=IV none z.sh)(o:Out)(ho:o=if r=0 then .ext 0 else .ret)(fr:Fr)(lh:fC fg)(sh:List fg)
  (h1:an fr 1= .ptr .L 1 1 0) (Bd:an fr 3= .i .i64 0) (o1:be lh 1=⟨1,.cells [.s z.nm,.i .i64 z.o,a] 0 true⟩):
  DC pE 59 (.loop kQ) ⟨fr,lh,sh⟩=some (o,⟨gr pE 59 kQ fr lh sh,gp pE 59 kQ fr lh sh,gn pE 59 kQ fr lh sh⟩)∧
  ((r≠0→an (gr pE 59 kQ fr lh sh) 2= .i .i64 r)∧gn pE 59 kQ fr lh sh=sh):=by
 refine fq (P:=fun fR fH fL=>(r≠0→an fR 2= .i .i64 r)∧fL=sh)
  (fw (fun k st=> ∃(fr:Fr) (fG:fC fg),st=⟨fr,fG,sh⟩∧r=IV (tV z.sh k) (z.sh.drop k)∧an fr 1= .ptr .L 1 1 0∧an fr 3= .i .i64 (k:Int)∧be fG 1=⟨1,.cells [.s z.nm,.i .i64 z.o,a] 0 true⟩) _ z.sh.length ?_ ?_ 0 _ (Nat.zero_le _) ⟨fr,lh,rfl,hr,h1,Bd,o1⟩)
 ·rintro k _ hk ⟨fr,fG,rfl,pq,h1,Bd,o1⟩
  have fK:(k:Int)<z.sh.length:=by omega
  have hw:=gl (k:=k) (by omega)
  obtain⟨rr,fF⟩:=KF ha hc hk
  rw[Rc hk]at pq
  have i1:=Vv z.sh[k].1
  have i2:=KE z.sh[k].2
  cases iK:GK z.sh[k].1 with
  |false=>
   right
   rw[iK]at i1
   rw[iK,Bool.false_and,if_pos rfl]at pq
   subst pq
   simp(maxDischargeDepth:=6) only[qA,seval,forall_const,kQ,h1,Bd,o1,ha.lenI,fK,fF,i1,FA]
   refine⟨_,_,by simp,rfl,by rw[ho];rfl, ?_,rfl⟩
   simp(maxDischargeDepth:=6) only[qA,seval]
  |true=>
   rw[iK]at i1
   cases oS:Bc z.sh[k].2 with
   |false=>
    right
    rw[oS]at i2
    rw[iK,oS,Bool.and_false,if_pos rfl]at pq
    subst pq
    simp(maxDischargeDepth:=6) only[qA,seval,forall_const,kQ,h1,Bd,o1,ha.lenI,fK,fF,i1,i2,FA,vZ]
    refine⟨_,_,by simp,rfl,by rw[ho];rfl, ?_,rfl⟩
    simp(maxDischargeDepth:=6) only[qA,seval]
   |true=>
    rw[oS]at i2
    rw[iK,oS,Bool.and_self,if_neg (by simp)]at pq
    by_cases hk0:k=0
    ·left
     have hz: ¬(0:Int)<k:=by omega
     have hp:tV z.sh k=none:=by rw[hk0];rfl
     rw[hp]at pq
     simp only[Bool.false_eq_true,if_false]at pq
     simp(maxDischargeDepth:=6) only[qA,seval,kQ,h1,Bd,o1,ha.lenI,fK,fF,i1,i2,hz,hw,FA,vZ]
     refine⟨_,rfl,_,_,rfl,pq, ?_, ?_, ?_⟩
     all_goals (simp(maxDischargeDepth:=6) only[qA,seval,h1,o1])
    ·have hz:(0:Int)<k:=by omega
     have oR:=uB (k:=k) (by omega) (by omega)
     obtain⟨r2,rv⟩:=KF ha hc (k:=k-1) (by omega)
     rw[C5 (by omega) (by omega)]at pq
     by_cases hle:z.sh[k].1≤z.sh[k-1].1
     ·right
      rw[if_pos (by simpa using hle)]at pq
      subst pq
      simp(maxDischargeDepth:=6) only[qA,seval,forall_const,kQ,h1,Bd,o1,ha.lenI,fK,fF,i1,i2,hz,oR,rv,hle,FA,vZ]
      refine⟨_,_,by simp,rfl,by rw[ho];rfl, ?_,rfl⟩
      simp(maxDischargeDepth:=6) only[qA,seval]
     ·left
      rw[if_neg (by simpa using hle)]at pq
      simp(maxDischargeDepth:=6) only[qA,seval,kQ,h1,Bd,o1,ha.lenI,fK,fF,i1,i2,hz,hw,oR,rv,hle,FA,vZ]
      refine⟨_,rfl,_,_,rfl,pq, ?_, ?_, ?_⟩
      all_goals (simp(maxDischargeDepth:=6) only[qA,seval,h1,o1])
 ·rintro _ ⟨fr,fG,rfl,pq,h1,Bd,o1⟩
  rw[List.drop_length,IV]at pq
  subst pq
  simp(maxDischargeDepth:=6) only[qA,seval,kQ,h1,Bd,o1,ha.lenI,Int.lt_irrefl]
  exact⟨_,_,(by simp:Out.ext 0≠ .nrm),rfl,by rw[ho];rfl,by simp,rfl⟩
theorem Re(z:Zo)(a:T)(cc:List T)(ha:fD a z.sh.length cc)(hc:fy NA z.sh cc):fj pE 150 [.agg [.s z.nm,.i .i64 z.o,a]] []=some (.i .i64 (tW z),[]):=by
 rw[fx WK (by simp[BS])]
 have i1:=tP z.nm
 have i2:=KE z.o
 unfold tW
 cases iK:iX z.nm with
 |false=>
  rw[iK]at i1
  simp(maxDischargeDepth:=6) only[qA,seval,BS,i1,qc]
 |true=>
  rw[iK]at i1
  cases oS:Bc z.o with
  |false=>
   rw[oS]at i2
   simp(maxDischargeDepth:=6) only[qA,seval,BS,i1,i2,qc,vZ]
  |true=>
   rw[oS]at i2
   by_cases hl:16<z.sh.length
   ·have BW:(16:Int)<z.sh.length:=by omega
    simp(maxDischargeDepth:=6) only[qA,seval,BS,i1,i2,ha.lenI,hl,BW,qc,vZ]
   ·have BW: ¬(16:Int)<z.sh.length:=by omega
    have hL:=fun fr lh sh h1 Bd o1=>anB z a cc ha hc (by omega) _ rfl _ rfl fr lh sh h1 Bd o1
    rcases C6 z.sh none with h|h|h
    ·rw[h]at hL ⊢
     simp(maxDischargeDepth:=6) only[qA,seval,BS,i1,i2,ha.lenI,hl,BW,hL,qc,vZ]
    ·rw[h]at hL ⊢
     simp(maxDischargeDepth:=6) only[qA,seval,BS,i1,i2,ha.lenI,hl,BW,hL,qc,vZ]
    ·rw[h]at hL ⊢
     simp(maxDischargeDepth:=6) only[qA,seval,BS,i1,i2,ha.lenI,hl,BW,hL,qc,vZ]
end Go.Proofs.YtblcbheipjeoeaaGreat
namespace Go.Proofs.YtblcbheipjeoeaaGreat
open Go Go.Ev
mutual
def Ex.al:Ex→Prop
 | .mk _ _ _ args=>args.length≤kb∧alL args
def alL:List Ex→Prop
 | []=>True
 |x::xs=>x.al∧alL xs
end
theorem Ex.al_eq(x:Ex):x.al↔(x.args.length≤kb∧alL x.args):=by obtain⟨_,_,_,_⟩:=x;rw[Ex.al];rfl
theorem Ek: ∀{xs:List Ex},alL xs↔ ∀x∈xs,x.al
 | []=>by simp[alL]
 |x::xs=>by rw[alL,Ek (xs:=xs)];simp
def xy:T→Bool
 | .i .i64 _=>true
 |_=>false
theorem nS{n:Int}:xy (.i .i64 n)=true:=nr rfl
theorem sQ{v:T}(h:xy v=true): ∃n,v= .i .i64 n:=by
 cases v with
 |i k n=>cases k <;> first|exact⟨n,rfl⟩|(simp[xy]at h)
 |_=>simp[xy]at h
def aie(y:Ex):Prop:= ∀cs:List T,jY y cs→y.al→ ∃n:Int,fj pE 85 [.agg cs] []=some (.i .i64 n,[])
theorem anC(xs:List Ex)(ih: ∀y∈xs,aie y)(a:T)(cc:List T)(ha:fD a xs.length cc)(hx:hH xs cc)(hlen:xs.length≤kb)(FR:alL xs)(op num:Int)(s:List Nat)(fr:Fr)(lh:fC fg)(sh:List fg)
  (h1:an fr 1= .ptr .L 1 1 0) (h3:xy (an fr 3)=true) (hi:an fr 4= .i .i64 0) (o1:be lh 1=⟨1,.cells [.i .i64 op,.i .i64 num,.s s,a] 0 true⟩):
  DC pE 25 (.loop pa) ⟨fr,lh,sh⟩=some (.ext 0,⟨gr pE 25 pa fr lh sh,gp pE 25 pa fr lh sh,gn pE 25 pa fr lh sh⟩)∧(xy (an (gr pE 25 pa fr lh sh) 3)=true∧gp pE 25 pa fr lh sh=lh∧gn pE 25 pa fr lh sh=sh):=by
 refine fq (P:=fun fR fH fL=>xy (an fR 3)=true∧fH=lh∧fL=sh)
  (fw (fun k st=> ∃(fr:Fr),st=⟨fr,lh,sh⟩∧an fr 1= .ptr .L 1 1 0∧xy (an fr 3)=true∧an fr 4= .i .i64 (k:Int)) _ xs.length ?_ ?_ 0 _ (Nat.zero_le _) ⟨fr,rfl,h1,h3,hi⟩)
 ·rintro k _ hk ⟨fr,rfl,h1,h3,hi⟩
  have fK:(k:Int)<xs.length:=by omega
  have hw:=mg (k:=k) (by omega)
  obtain⟨b,cb,rr,fF,iK,oS,hb⟩:=nw ha hx k hk
  obtain⟨n,hn⟩:=sQ h3
  obtain⟨m,fu⟩:=ih xs[k] (List.getElem_mem hk) _ hb (Ek.1 FR _ (List.getElem_mem hk))
  by_cases jm:n<1000
  ·left
   simp(maxDischargeDepth:=6) only[qA,seval,pa,h1,hn,hi,o1,ha.lenI,fK,jm,fF,hw,iK.froz1,fu,Oo]
   refine⟨_,rfl,_,rfl, ?_, ?_, ?_⟩
   ·simp(maxDischargeDepth:=6) only[qA,seval,h1]
   ·simp(maxDischargeDepth:=6) only[qA,seval,nS]
   ·simp(maxDischargeDepth:=6) only[qA,seval]
  ·right
   simp(maxDischargeDepth:=6) only[qA,seval,pa,h1,hn,hi,o1,ha.lenI,fK,jm]
   refine⟨_,_,(by simp:Out.ext 0≠ .nrm),rfl,rfl, ?_,rfl,rfl⟩
   simp(maxDischargeDepth:=6) only[qA,seval,hn,nS]
 ·rintro _ ⟨fr,rfl,h1,h3,hi⟩
  simp(maxDischargeDepth:=6) only[qA,seval,pa,h1,hi,o1,ha.lenI,Int.lt_irrefl]
  refine⟨_,_,(by simp:Out.ext 0≠ .nrm),rfl,rfl, ?_,rfl,rfl⟩
  simp(maxDischargeDepth:=6) only[qA,seval,h3]
theorem El(x:Ex):aie x:=by
 induction x using Ex.ind with
 |h x ih=>
  intro cs hx FR
  obtain⟨a,cc,rfl,ha,Bb⟩:=hx.cells
  obtain⟨hlen,gz⟩:=(Ex.al_eq x).1 FR
  have hL:=fun fr lh sh h1 h3 hi o1=>anC x.args (fun y hy=>ih y hy) a cc ha Bb hlen gz x.op x.num x.name fr lh sh h1 h3 hi o1
  rw[fx afL (by simp[c85])]
  simp(maxDischargeDepth:=6) only[qA,seval,c85,nS,hL]
  generalize hX:an (gr _ _ _ _ _ _) 3=X
  obtain⟨n,hn⟩: ∃n,X= .i .i64 n:=by
   rw[←hX]
   refine sQ (hL _ _ _ ?_ ?_ ?_ ?_).2.1 <;> simp(maxDischargeDepth:=6) only[qA,seval,nS]
  rw[hn]
  simp(maxDischargeDepth:=6) only[qA,seval]
  exact⟨n,rfl⟩
theorem anD(xs:Cs)(a:T)(cc:List T)(ha:fD a xs.length cc)(hx:iR xs cc)(hlen:xs.length≤kb)(FR: ∀u∈xs,u.2.al)(c:Ct)(a8 a9 a10 fB fA:T)(fr:Fr)(lh:fC fg)(sh:List fg)
  (h1:an fr 1= .ptr .L 1 1 0) (h3:xy (an fr 3)=true) (hi:an fr 4= .i .i64 0) (o1:be lh 1=⟨1,.cells [.i .i64 c.rp,.i .i64 c.rl,.i .i64 c.cn,.i .i64 c.st,.i .i64 c.ly,.i .i64 c.nf,.i .i64 c.nt,a,a8,a9,a10,fB,fA,.i .i64 c.gu] 0 true⟩):
  DC pE 96 (.loop oY) ⟨fr,lh,sh⟩=some (.ext 0,⟨gr pE 96 oY fr lh sh,gp pE 96 oY fr lh sh,gn pE 96 oY fr lh sh⟩)∧(xy (an (gr pE 96 oY fr lh sh) 3)=true∧gp pE 96 oY fr lh sh=lh∧gn pE 96 oY fr lh sh=sh):=by
 refine fq (P:=fun fR fH fL=>xy (an fR 3)=true∧fH=lh∧fL=sh)
  (fw (fun k st=> ∃(fr:Fr),st=⟨fr,lh,sh⟩∧an fr 1= .ptr .L 1 1 0∧xy (an fr 3)=true∧an fr 4= .i .i64 (k:Int)) _ xs.length ?_ ?_ 0 _ (Nat.zero_le _) ⟨fr,rfl,h1,h3,hi⟩)
 ·rintro k _ hk ⟨fr,rfl,h1,h3,hi⟩
  have fK:(k:Int)<xs.length:=by omega
  have hw:=mg (k:=k) (by omega)
  obtain⟨b,cb,rr,fF,iK,oS,hb⟩:=jZ ha hx k hk
  obtain⟨n,hn⟩:=sQ h3
  obtain⟨m,fu⟩:=El xs[k].2 _ hb (FR _ (List.getElem_mem hk))
  by_cases jm:n<3000
  ·left
   simp(maxDischargeDepth:=6) only[qA,seval,oY,h1,hn,hi,o1,ha.lenI,fK,jm,fF,hw,iK.froz1,fu,Oo]
   refine⟨_,rfl,_,rfl, ?_, ?_, ?_⟩
   ·simp(maxDischargeDepth:=6) only[qA,seval,h1]
   ·simp(maxDischargeDepth:=6) only[qA,seval,nS]
   ·simp(maxDischargeDepth:=6) only[qA,seval]
  ·right
   simp(maxDischargeDepth:=6) only[qA,seval,oY,h1,hn,hi,o1,ha.lenI,fK,jm]
   refine⟨_,_,(by simp:Out.ext 0≠ .nrm),rfl,rfl, ?_,rfl,rfl⟩
   simp(maxDischargeDepth:=6) only[qA,seval,hn,nS]
 ·rintro _ ⟨fr,rfl,h1,h3,hi⟩
  simp(maxDischargeDepth:=6) only[qA,seval,oY,h1,hi,o1,ha.lenI,Int.lt_irrefl]
  refine⟨_,_,(by simp:Out.ext 0≠ .nrm),rfl,rfl, ?_,rfl,rfl⟩
  simp(maxDischargeDepth:=6) only[qA,seval,h3]
theorem anE(xs:List Ru)(a:T)(cc:List T)(ha:fD a xs.length cc)(hx:fy Nz xs cc)(hlen:xs.length≤kb)(FR: ∀u∈xs,u.x.al)(c:Ct)(a7 a9 a10 fB fA:T)(fr:Fr)(lh:fC fg)(sh:List fg)
  (h1:an fr 1= .ptr .L 1 1 0) (h3:xy (an fr 3)=true) (hi:an fr 5= .i .i64 0) (o1:be lh 1=⟨1,.cells [.i .i64 c.rp,.i .i64 c.rl,.i .i64 c.cn,.i .i64 c.st,.i .i64 c.ly,.i .i64 c.nf,.i .i64 c.nt,a7,a,a9,a10,fB,fA,.i .i64 c.gu] 0 true⟩):
  DC pE 96 (.loop oX) ⟨fr,lh,sh⟩=some (.ext 2,⟨gr pE 96 oX fr lh sh,gp pE 96 oX fr lh sh,gn pE 96 oX fr lh sh⟩)∧(xy (an (gr pE 96 oX fr lh sh) 3)=true∧gp pE 96 oX fr lh sh=lh∧gn pE 96 oX fr lh sh=sh):=by
 refine fq (P:=fun fR fH fL=>xy (an fR 3)=true∧fH=lh∧fL=sh)
  (fw (fun k st=> ∃(fr:Fr),st=⟨fr,lh,sh⟩∧an fr 1= .ptr .L 1 1 0∧xy (an fr 3)=true∧an fr 5= .i .i64 (k:Int)) _ xs.length ?_ ?_ 0 _ (Nat.zero_le _) ⟨fr,rfl,h1,h3,hi⟩)
 ·rintro k _ hk ⟨fr,rfl,h1,h3,hi⟩
  have fK:(k:Int)<xs.length:=by omega
  have hw:=mg (k:=k) (by omega)
  obtain⟨b,cb,rr,fF,iK,hb⟩:=Ba ha hx k hk
  obtain⟨n,hn⟩:=sQ h3
  obtain⟨m,fu⟩:=El xs[k].x _ hb (FR _ (List.getElem_mem hk))
  by_cases jm:n<3000
  ·left
   simp(maxDischargeDepth:=6) only[qA,seval,oX,h1,hn,hi,o1,ha.lenI,fK,jm,fF,hw,iK.froz1,fu,Oo]
   refine⟨_,rfl,_,rfl, ?_, ?_, ?_⟩
   ·simp(maxDischargeDepth:=6) only[qA,seval,h1]
   ·simp(maxDischargeDepth:=6) only[qA,seval,nS]
   ·simp(maxDischargeDepth:=6) only[qA,seval]
  ·right
   simp(maxDischargeDepth:=6) only[qA,seval,oX,h1,hn,hi,o1,ha.lenI,fK,jm]
   refine⟨_,_,(by simp:Out.ext 2≠ .nrm),rfl,rfl, ?_,rfl,rfl⟩
   simp(maxDischargeDepth:=6) only[qA,seval,hn,nS]
 ·rintro _ ⟨fr,rfl,h1,h3,hi⟩
  simp(maxDischargeDepth:=6) only[qA,seval,oX,h1,hi,o1,ha.lenI,Int.lt_irrefl]
  refine⟨_,_,(by simp:Out.ext 2≠ .nrm),rfl,rfl, ?_,rfl,rfl⟩
  simp(maxDischargeDepth:=6) only[qA,seval,h3]
theorem anF(xs:List Co)(a:T)(cc:List T)(ha:fD a xs.length cc)(hx:fy SU xs cc)(hlen:xs.length≤kb)(FR: ∀u∈xs,u.x.al)(c:Ct)(a7 a8 a10 fB fA:T)(fr:Fr)(lh:fC fg)(sh:List fg)
  (h1:an fr 1= .ptr .L 1 1 0) (h3:xy (an fr 3)=true) (hi:an fr 6= .i .i64 0) (o1:be lh 1=⟨1,.cells [.i .i64 c.rp,.i .i64 c.rl,.i .i64 c.cn,.i .i64 c.st,.i .i64 c.ly,.i .i64 c.nf,.i .i64 c.nt,a7,a8,a,a10,fB,fA,.i .i64 c.gu] 0 true⟩):
  DC pE 96 (.loop oW) ⟨fr,lh,sh⟩=some (.ext 4,⟨gr pE 96 oW fr lh sh,gp pE 96 oW fr lh sh,gn pE 96 oW fr lh sh⟩)∧(xy (an (gr pE 96 oW fr lh sh) 3)=true∧gp pE 96 oW fr lh sh=lh∧gn pE 96 oW fr lh sh=sh):=by
 refine fq (P:=fun fR fH fL=>xy (an fR 3)=true∧fH=lh∧fL=sh)
  (fw (fun k st=> ∃(fr:Fr),st=⟨fr,lh,sh⟩∧an fr 1= .ptr .L 1 1 0∧xy (an fr 3)=true∧an fr 6= .i .i64 (k:Int)) _ xs.length ?_ ?_ 0 _ (Nat.zero_le _) ⟨fr,rfl,h1,h3,hi⟩)
 ·rintro k _ hk ⟨fr,rfl,h1,h3,hi⟩
  have fK:(k:Int)<xs.length:=by omega
  have hw:=mg (k:=k) (by omega)
  obtain⟨b,cb,rr,fF,iK,hb⟩:=C2 ha hx k hk
  obtain⟨n,hn⟩:=sQ h3
  obtain⟨m,fu⟩:=El xs[k].x _ hb (FR _ (List.getElem_mem hk))
  by_cases jm:n<3000
  ·left
   simp(maxDischargeDepth:=6) only[qA,seval,oW,h1,hn,hi,o1,ha.lenI,fK,jm,fF,hw,iK.froz1,fu,Oo]
   refine⟨_,rfl,_,rfl, ?_, ?_, ?_⟩
   ·simp(maxDischargeDepth:=6) only[qA,seval,h1]
   ·simp(maxDischargeDepth:=6) only[qA,seval,nS]
   ·simp(maxDischargeDepth:=6) only[qA,seval]
  ·right
   simp(maxDischargeDepth:=6) only[qA,seval,oW,h1,hn,hi,o1,ha.lenI,fK,jm]
   refine⟨_,_,(by simp:Out.ext 4≠ .nrm),rfl,rfl, ?_,rfl,rfl⟩
   simp(maxDischargeDepth:=6) only[qA,seval,hn,nS]
 ·rintro _ ⟨fr,rfl,h1,h3,hi⟩
  simp(maxDischargeDepth:=6) only[qA,seval,oW,h1,hi,o1,ha.lenI,Int.lt_irrefl]
  refine⟨_,_,(by simp:Out.ext 4≠ .nrm),rfl,rfl, ?_,rfl,rfl⟩
  simp(maxDischargeDepth:=6) only[qA,seval,h3]
theorem anG(xs:List Ex)(a:T)(cc:List T)(ha:fD a xs.length cc)(hx:hH xs cc)(hlen:xs.length≤kb)(FR: ∀u∈xs,u.al)(c:Ct)(a7 a8 a9 fB fA:T)(fr:Fr)(lh:fC fg)(sh:List fg)
  (h1:an fr 1= .ptr .L 1 1 0) (h3:xy (an fr 3)=true) (hi:an fr 7= .i .i64 0) (o1:be lh 1=⟨1,.cells [.i .i64 c.rp,.i .i64 c.rl,.i .i64 c.cn,.i .i64 c.st,.i .i64 c.ly,.i .i64 c.nf,.i .i64 c.nt,a7,a8,a9,a,fB,fA,.i .i64 c.gu] 0 true⟩):
  DC pE 96 (.loop nV) ⟨fr,lh,sh⟩=some (.ext 6,⟨gr pE 96 nV fr lh sh,gp pE 96 nV fr lh sh,gn pE 96 nV fr lh sh⟩)∧(xy (an (gr pE 96 nV fr lh sh) 3)=true∧gp pE 96 nV fr lh sh=lh∧gn pE 96 nV fr lh sh=sh):=by
 refine fq (P:=fun fR fH fL=>xy (an fR 3)=true∧fH=lh∧fL=sh)
  (fw (fun k st=> ∃(fr:Fr),st=⟨fr,lh,sh⟩∧an fr 1= .ptr .L 1 1 0∧xy (an fr 3)=true∧an fr 7= .i .i64 (k:Int)) _ xs.length ?_ ?_ 0 _ (Nat.zero_le _) ⟨fr,rfl,h1,h3,hi⟩)
 ·rintro k _ hk ⟨fr,rfl,h1,h3,hi⟩
  have fK:(k:Int)<xs.length:=by omega
  have hw:=mg (k:=k) (by omega)
  obtain⟨b,cb,rr,fF,iK,oS,hb⟩:=nw ha hx k hk
  obtain⟨n,hn⟩:=sQ h3
  obtain⟨m,fu⟩:=El xs[k] _ hb (FR _ (List.getElem_mem hk))
  by_cases jm:n<3000
  ·left
   simp(maxDischargeDepth:=6) only[qA,seval,nV,h1,hn,hi,o1,ha.lenI,fK,jm,fF,hw,iK.froz1,fu,Oo]
   refine⟨_,rfl,_,rfl, ?_, ?_, ?_⟩
   ·simp(maxDischargeDepth:=6) only[qA,seval,h1]
   ·simp(maxDischargeDepth:=6) only[qA,seval,nS]
   ·simp(maxDischargeDepth:=6) only[qA,seval]
  ·right
   simp(maxDischargeDepth:=6) only[qA,seval,nV,h1,hn,hi,o1,ha.lenI,fK,jm]
   refine⟨_,_,(by simp:Out.ext 6≠ .nrm),rfl,rfl, ?_,rfl,rfl⟩
   simp(maxDischargeDepth:=6) only[qA,seval,hn,nS]
 ·rintro _ ⟨fr,rfl,h1,h3,hi⟩
  simp(maxDischargeDepth:=6) only[qA,seval,nV,h1,hi,o1,ha.lenI,Int.lt_irrefl]
  refine⟨_,_,(by simp:Out.ext 6≠ .nrm),rfl,rfl, ?_,rfl,rfl⟩
  simp(maxDischargeDepth:=6) only[qA,seval,h3]
structure CtA (c:Ct):Prop where
 a7:(∀u∈c.cs,u.2.al)∧c.cs.length≤kb
 a8:(∀u∈c.ru,u.x.al)∧c.ru.length≤kb
 a9:(∀u∈c.co,u.x.al)∧c.co.length≤kb
 a10:(∀u∈c.cr,u.al)∧c.cr.length≤kb
 fB:c.li.length≤kb
 fA:c.fs.length≤kb
theorem Rf(c:Ct)(a7 a8 a9 a10 fB fA:T)(hT:xu c a7 a8 a9 a10 fB fA)(hA:CtA c): ∃b,fj pE 39 [.agg (fX c a7 a8 a9 a10 fB fA)] []=some (.b b,[]):=by
 obtain⟨⟨c7,i7,j7⟩,⟨c8,i8,j8⟩,⟨c9,i9,j9⟩,⟨pw,i10,rY⟩,⟨pX,i11,tu⟩,⟨qD,i12,tT⟩⟩:=hT
 have h7:=fun fr lh sh h1 h3 hi o1=>anD c.cs a7 c7 i7 j7 hA.a7.2 hA.a7.1 c a8 a9 a10 fB fA fr lh sh h1 h3 hi o1
 have h8:=fun fr lh sh h1 h3 hi o1=>anE c.ru a8 c8 i8 j8 hA.a8.2 hA.a8.1 c a7 a9 a10 fB fA fr lh sh h1 h3 hi o1
 have h9:=fun fr lh sh h1 h3 hi o1=>anF c.co a9 c9 i9 j9 hA.a9.2 hA.a9.1 c a7 a8 a10 fB fA fr lh sh h1 h3 hi o1
 have nJ:=fun fr lh sh h1 h3 hi o1=>anG c.cr a10 pw i10 rY hA.a10.2 hA.a10.1 c a7 a8 a9 fB fA fr lh sh h1 h3 hi o1
 unfold fX
 rw[fx afs (by simp[c39])]
 simp(maxDischargeDepth:=6) only[qA,seval,c39,E6,E7,E8,i11.lenI,i12.lenI,nS,h7,h8,h9,nJ]
 generalize hX:an (gr _ _ nV _ _ _) 3=X
 obtain⟨n,hn⟩: ∃n,X= .i .i64 n:=by
  rw[←hX]
  refine sQ (nJ _ _ _ ?_ ?_ ?_ ?_).2.1 <;> simp(maxDischargeDepth:=6) only[qA,seval,E6,E7,E8,nS,h7,h8,h9]
 rw[hn]
 simp(maxDischargeDepth:=6) only[qA,seval]
 exact⟨_,rfl⟩
end Go.Proofs.YtblcbheipjeoeaaGreat
namespace Go.Proofs.YtblcbheipjeoeaaGreat
open Go Go.Ev
def zy(c:Nat):Prop:=(65:Int)≤c∧(c:Int)≤90
instance (c:Nat):Decidable (zy c):=by unfold zy;infer_instance
def vG(c:Nat):Bool:=decide (zy c∨zb c)
def Be(s:List Nat):Bool:=decide (1≤s.length)&&(decide (s.length≤8)&&s.all vG)
def Bf(s:List Nat):Bool:=decide (s.length=3)&&s.all fun c=>decide (zy c)
structure Ap where
 cd:List Nat
 zn:List Nat
structure Fl where
 nu:List Nat
 fr:List Nat
 to:List Nat
 dp:Int
 ar:Int
 ty:List Nat
 n0:Int
 n1:Int
 n2:Int
structure Tt where
 zo:List Zo
 ap:List Ap
 fl:List Fl
def HG(z:Zo)(c:List T):Prop:= ∃a cc,c= [.s z.nm,.i .i64 z.o,a]∧fD a z.sh.length cc∧fy NA z.sh cc
def IW(u:Ap)(c:List T):Prop:=c= [.s u.cd,.s u.zn]
def MY(f:Fl):List T:= [.s f.nu,.s f.fr,.s f.to,.i .i64 f.dp,.i .i64 f.ar,.s f.ty,.i .i64 f.n0,.i .i64 f.n1,.i .i64 f.n2]
def SX(f:Fl)(c:List T):Prop:=c=MY f
theorem HG.len(z:Zo)(c:List T)(h:HG z c):c.length=3:=by obtain⟨a,cc,rfl,_⟩:=h;rfl
theorem IW.len(u:Ap)(c:List T)(h:IW u c):c.length=2:=by rw[h];rfl
theorem SX.len(f:Fl)(c:List T)(h:SX f c):c.length=9:=by rw[h];rfl
theorem GL{xs:List Zo}{a:T}{cc:List T}(h1:fD a xs.length cc)(h2:fy HG xs cc)(i:Nat)(hi:i<xs.length): ∃sT sc r,(∀kk,tf a (.i kk (i:Int)) 3=some (.vp (.s xs[i].nm:: .i .i64 xs[i].o::sT::r)))∧fD sT xs[i].sh.length sc∧fy NA xs[i].sh sc:=by
 obtain⟨c,r,e,h⟩:=pN (k:=3) HG.len h1 h2 i hi
 obtain⟨sT,sc,rfl,q1,q2⟩:=h
 exact⟨sT,sc,r,e,q1,q2⟩
theorem KG{xs:List Ap}{a:T}{cc:List T}(h1:fD a xs.length cc)(h2:fy IW xs cc)(i:Nat)(hi:i<xs.length): ∃r,∀kk,tf a (.i kk (i:Int)) 2=some (.vp (.s xs[i].cd:: .s xs[i].zn::r)):=by
 obtain⟨c,r,e,h⟩:=pN (k:=2) IW.len h1 h2 i hi
 rw[IW]at h
 subst h
 exact⟨r,e⟩
theorem tX{xs:List Fl}{a:T}{cc:List T}(h1:fD a xs.length cc)(h2:fy SX xs cc)(i:Nat)(hi:i<xs.length): ∃r,∀kk,tf a (.i kk (i:Int)) 9=some (.vp (.s xs[i].nu:: .s xs[i].fr:: .s xs[i].to:: .i .i64 xs[i].dp:: .i .i64 xs[i].ar:: .s xs[i].ty:: .i .i64 xs[i].n0:: .i .i64 xs[i].n1:: .i .i64 xs[i].n2::r)):=by
 obtain⟨c,r,e,h⟩:=pN (k:=9) SX.len h1 h2 i hi
 rw[SX]at h
 subst h
 exact⟨r,e⟩
def IX(seen:List (List Nat)):List Zo→Int
 | []=>0
 |z::r=>if tW z≠0 then tW z else if z.nm∈seen then 7 else IX (seen++ [z.nm]) r
def IY(zs seen:List (List Nat)):List Ap→Int
 | []=>0
 |a::r=>if Bf a.cd=false then 1 else if a.cd∈seen then 7 else if a.zn∉zs then 6 else IY zs (seen++ [a.cd]) r
def kD(n:Int):Bool:=decide (0≤n)&&decide (n≤8)
def qv(f:Fl):Bool:=decide (2880≤f.dp)&&(decide (f.ar≤52593120)&&(decide (f.dp<f.ar)&&decide (f.ar-f.dp≤1440)))
def IZ(asX:List (List Nat))(f:Fl):Int:=
 if Be f.nu=false then 1 else if iX f.ty=false then 1 else if f.fr∉asX then 6 else if f.to∉asX then 6 else if f.fr=f.to then 14 else if qv f=false then 5 else if(kD f.n0&&(kD f.n1&&kD f.n2))=false then 5 else 0
def Bg(f g:Fl):Bool:=if f.dp≠g.dp then decide (f.dp<g.dp)else gS f.nu g.nu
def E0(asX:List (List Nat))(prev:Option Fl):List Fl→Int
 | []=>0
 |f::r=>if IZ asX f≠0 then IZ asX f else if(match prev with|some p=> !Bg p f|none=>false)=true then 8 else E0 asX (some f) r
def Tt.big(t:Tt):Prop:=16<t.zo.length∨64<t.ap.length∨200<t.fl.length
def Em(t:Tt):Int:=
 if 16<t.zo.length then 10 else if 64<t.ap.length then 10 else if 200<t.fl.length then 10 else if IX [] t.zo≠0 then IX [] t.zo else if IY (t.zo.map Zo.nm) [] t.ap≠0 then IY (t.zo.map Zo.nm) [] t.ap else E0 (t.ap.map Ap.cd) none t.fl
def KH(seen:List (List Nat)):List T:=(seen.map fun x=>(x,true)).map fun p=>sK p.1
def KI(seen:List (List Nat)):List T:=(seen.map fun x=>(x,true)).map fun p=>T.b p.2
theorem GM(seen:List (List Nat))(s:List Nat):mX (.one .str) (KH seen) (KI seen) (.s s) (.b false) false=some (.b (decide (s∈seen))):=Ec seen s
theorem Rg(seen:List (List Nat))(s:List Nat)(h:s∉seen):pH (.one .str) (.s s) (.b true) (KH seen) (KI seen)=some (KH (seen++ [s]),KI (seen++ [s])):=A7 seen s h
theorem wZ{α β:Type}(f:α→β){l:List α}{k:Nat}(hk:k<l.length):(l.take (k+1)).map f=(l.take k).map f++ [f l[k]]:=by rw[List.take_succ_eq_append_getElem hk,List.map_append];rfl
end Go.Proofs.YtblcbheipjeoeaaGreat
