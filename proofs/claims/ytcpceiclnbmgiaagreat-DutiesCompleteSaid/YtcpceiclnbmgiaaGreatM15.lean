/- Walks of functions of the program and of the reference, and their plain laws, part 15. Conditions: the theorems' own. -/
import Derived.Test.YtcpceiclnbmgiaaGreatM14
import Derived.KernelRfl
set_option linter.unusedVariables false
set_option maxRecDepth 100000
set_option linter.unusedSimpArgs false
set_option maxHeartbeats 16000000
namespace Go.Proofs.YtcpceiclnbmgiaaGreat
def Sm:Nat→(Nat→Nat)→Nat
 |0,_=>0
 |n+1,f=>Sm n f+f n
theorem jv{f g:Nat→Nat}: ∀{n:Nat},(∀i,i<n→f i=g i)→Sm n f=Sm n g
 |0,_=>rfl
 |n+1,h=>by rw[Sm,Sm,jv (fun i hi=>h i (by omega)),h n (by omega)]
theorem xK(f g:Nat→Nat): ∀n,Sm n (fun i=>f i+g i)=Sm n f+Sm n g
 |0=>rfl
 |n+1=>by simp only[Sm,xK f g n];omega
theorem A7(c:Nat)(f:Nat→Nat): ∀n,Sm n (fun i=>c*f i)=c*Sm n f
 |0=>rfl
 |n+1=>by simp only[Sm,A7 c f n,Nat.mul_add]
theorem acT(c:Nat)(f:Nat→Nat)(n:Nat):Sm n (fun i=>f i*c)=Sm n f*c:=by
 rw[Nat.mul_comm,←A7];exact jv fun i _=>Nat.mul_comm _ _
theorem pz: ∀n,Sm n (fun _=>0)=0
 |0=>rfl
 |n+1=>by rw[Sm,pz n]
theorem CM(f:Nat→Nat→Nat)(m:Nat): ∀n,Sm n (fun i=>Sm m fun j=>f i j)=Sm m fun j=>Sm n fun i=>f i j
 |0=>by simp only[Sm,pz]
 |n+1=>by simp only[Sm,CM f m n];rw[←xK]
theorem zK(f:Nat→Nat): ∀n,Sm (n+1) f=f 0+Sm n fun i=>f (i+1)
 |0=>by simp[Sm]
 |n+1=>by rw[Sm,zK f n,Sm];omega
def cv(p q:Nat→Nat)(h:Nat):Nat:=Sm (h+1) fun i=>p i*q (h-i)
def sf(p:Nat→Nat):Nat→Nat
 |0=>0
 |h+1=>p h
theorem X8(p q:Nat→Nat): ∀h,cv (sf p) q h=match h with|0=>0|h+1=>cv p q h
 |0=>by simp[cv,Sm,sf]
 |h+1=>by
  unfold cv
  rw[zK]
  simp only[sf,Nat.zero_mul,Nat.zero_add]
  exact jv fun i hi=>by rw[show h+1-(i+1)=h-i by omega]
theorem ajH(p q:Nat→Nat): ∀h,cv p (sf q) h=match h with|0=>0|h+1=>cv p q h
 |0=>by simp[cv,Sm,sf]
 |h+1=>by
  unfold cv
  rw[Sm]
  simp only[Nat.sub_self,sf,Nat.mul_zero,Nat.add_zero]
  exact jv fun i hi=>by rw[show h+1-i=(h-i)+1 by omega]
theorem acU(p q r:Nat→Nat)(h:Nat):cv (fun i=>p i+q i) r h=cv p r h+cv q r h:=by
 unfold cv;rw[←xK];exact jv fun i _=>Nat.add_mul _ _ _
theorem acV(p q r:Nat→Nat)(h:Nat):cv p (fun i=>q i+r i) h=cv p q h+cv p r h:=by
 unfold cv;rw[←xK];exact jv fun i _=>Nat.mul_add _ _ _
theorem ajI(n:Nat)(p:Nat→Nat→Nat)(r:Nat→Nat)(h:Nat):cv (fun i=>Sm n fun f=>p f i) r h=Sm n fun f=>cv (p f) r h:=by
 unfold cv;rw[←CM];exact jv fun i _=>(acT _ _ _).symm
theorem ajJ(n:Nat)(p:Nat→Nat)(r:Nat→Nat→Nat)(h:Nat):cv p (fun i=>Sm n fun f=>r f i) h=Sm n fun f=>cv p (r f) h:=by
 unfold cv;rw[←CM];exact jv fun i _=>(A7 _ _ _).symm
theorem af8(c:Nat)(p q:Nat→Nat)(h:Nat):cv (fun i=>c*p i) q h=c*cv p q h:=by
 unfold cv;rw[←A7];exact jv fun i _=>Nat.mul_assoc _ _ _
theorem af9(c:Nat)(p q:Nat→Nat)(h:Nat):cv p (fun i=>c*q i) h=c*cv p q h:=by
 unfold cv;rw[←A7];exact jv fun i _=>by rw[Nat.mul_left_comm]
def vi:Nat→Nat
 |0=>1
 |_+1=>0
theorem ajK(p:Nat→Nat): ∀h,cv p vi h=p h:=by
 intro h
 unfold cv
 rw[Sm,Nat.sub_self,vi,Nat.mul_one]
 have:Sm h (fun i=>p i*vi (h-i))=0:=by
  rw[←pz h]
  exact jv fun i hi=>by rw[show h-i=(h-i-1)+1 by omega,vi,Nat.mul_zero]
 omega
theorem PM(p:Nat→Nat)(h:Nat):cv vi p h=p h:=by
 unfold cv
 rw[zK,vi,Nat.one_mul,Nat.sub_zero]
 have:Sm h (fun i=>vi (i+1)*p (h-(i+1)))=0:=by
  rw[←pz h]
  exact jv fun i _=>by rw[vi,Nat.zero_mul]
 omega
section
variable(N:Nat)(J:Nat→Nat→Bool)(iC:Nat→Bool)
def oG(b:Bool):Nat:=if b then 1 else 0
def FU(g:Nat)(p:Nat→Nat)(h:Nat):Nat:=oG (iC g)*p h+sf p h
def cA:Nat→Nat→Nat→Nat
 |0,_,_=>0
 |1,g,h=>FU iC g vi h
 |k+2,g,h=>FU iC g (fun h=>Sm N fun f=>oG (J f g)*cA (k+1) f h) h
def cB:Nat→Nat→Nat→Nat
 |0,_,_=>0
 |1,i,h=>FU iC i vi h
 |k+2,i,h=>FU iC i (fun h=>Sm N fun j=>oG (J i j)*cB (k+1) j h) h
def cC(k f h:Nat):Nat:=match k with|0=>vi h|k+1=>Sm N fun j=>oG (J f j)*cB N J iC (k+1) j h
theorem aga(k i h:Nat):cB N J iC (k+1) i h=FU iC i (fun h=>cC N J iC k i h) h:=by
 cases k <;> rfl
theorem acW(g:Nat)(p q:Nat→Nat)(h:Nat):cv p (fun h=>FU iC g q h) h=oG (iC g)*cv p q h+cv p (sf q) h:=by
 unfold FU;rw[acV,af9]
theorem PN(g:Nat)(p q:Nat→Nat)(h:Nat):cv (fun h=>FU iC g p h) q h=oG (iC g)*cv p q h+cv (sf p) q h:=by
 unfold FU;rw[acU,af8]
theorem acX(m k h:Nat):(Sm N fun f=>cv (fun i=>cA N J iC (m+1) f i) (fun i=>cC N J iC (k+1) f i) h)=Sm N fun g=>cv (fun i=>cA N J iC (m+2) g i) (fun i=>cC N J iC k g i) h:=by
 have r:(Sm N fun f=>cv (fun i=>cA N J iC (m+1) f i) (fun i=>cC N J iC (k+1) f i) h)=Sm N fun g=>cv (fun i=>Sm N fun f=>oG (J f g)*cA N J iC (m+1) f i) (fun i=>cB N J iC (k+1) g i) h:=by
  have: ∀f,cv (fun i=>cA N J iC (m+1) f i) (fun i=>cC N J iC (k+1) f i) h=Sm N fun g=>oG (J f g)*cv (fun i=>cA N J iC (m+1) f i) (fun i=>cB N J iC (k+1) g i) h:=by
   intro f
   rw[show(fun i=>cC N J iC (k+1) f i)=fun i=>Sm N fun j=>oG (J f j)*cB N J iC (k+1) j i from rfl,ajJ]
   exact jv fun g _=>af9 _ _ _ _
  simp only[this]
  rw[CM]
  refine jv fun g _=> ?_
  rw[ajI]
  exact jv fun f _=>(af8 _ _ _ _).symm
 rw[r]
 refine jv fun g _=> ?_
 rw[show(fun i=>cB N J iC (k+1) g i)=fun i=>FU iC g (fun h=>cC N J iC k g h) i from funext fun i=>aga N J iC k g i,acW,show(fun i=>cA N J iC (m+2) g i)=fun i=>FU iC g (fun h=>Sm N fun f=>oG (J f g)*cA N J iC (m+1) f h) i from rfl,PN,X8,ajH]
theorem cAB(k h:Nat):(Sm N fun g=>cA N J iC (k+1) g h)=Sm N fun i=>cB N J iC (k+1) i h:=by
 have r: ∀k m,(Sm N fun f=>cv (fun i=>cA N J iC (m+1) f i) (fun i=>cC N J iC k f i) h)=Sm N fun f=>cv (fun i=>cA N J iC (m+k+1) f i) (fun i=>cC N J iC 0 f i) h:=by
  intro k
  induction k with
  |zero=>intro m;rfl
  |succ k ih=>intro m;rw[acX,ih (m+1),show m+1+k+1=m+(k+1)+1 by omega]
 have D:=r k 0
 rw[show 0+k+1=k+1 by omega]at D
 have F:(Sm N fun f=>cv (fun i=>cA N J iC (k+1) f i) (fun i=>cC N J iC 0 f i) h)=Sm N fun g=>cA N J iC (k+1) g h:=jv fun f _=>ajK _ _
 have I:(Sm N fun f=>cv (fun i=>cA N J iC 1 f i) (fun i=>cC N J iC k f i) h)=Sm N fun i=>cB N J iC (k+1) i h:=jv fun f _=>by
  rw[show(fun i=>cA N J iC 1 f i)=fun i=>FU iC f vi i from rfl,PN,PM,X8,aga]
  unfold FU
  cases h with
  |zero=>rfl
  |succ h=>simp only[sf,PM]
 rw[←F,←D]
 exact I
end
section
variable(N H:Nat)(J:Nat→Nat→Bool)(iC:Nat→Bool)
def Ew(h g w:Nat)(n:Nat→Nat→Nat):Nat→Nat→Nat:=fun i r=>n i r+(if r=g then(if i=h then oG (iC r)*w else 0)+(if i=h+1∧h<H then w else 0)else 0)
def FV(h g w:Nat):Nat:=oG (iC g)*w+(if h<H then w else 0)
def qy(f:Nat):List Nat:=(List.range N).filter fun g=>J f g
def Z1(h w:Nat):List Nat→(Nat→Nat→Nat)→Nat→Nat→Nat
 | [],n=>n
 |g::l,n=>Z1 h w l (Ew H iC h g w n)
def rnF(i:Nat→Nat→Nat)(h:Nat):Nat→(Nat→Nat→Nat)→Nat→Nat→Nat
 |0,n=>n
 |k+1,n=>Z1 H iC h (i h k) (qy N J k) (rnF i h k n)
def X9(i:Nat→Nat→Nat):Nat→Nat→Nat→Nat
 |0=>fun _ _=>0
 |k+1=>rnF N H J iC i k N (X9 i k)
theorem NG(h w:Nat): ∀(l:List Nat) (n:Nat→Nat→Nat) (r i:Nat),Z1 H iC h w l n r i=n r i+l.count i*((if r=h then oG (iC i)*w else 0)+(if r=h+1∧h<H then w else 0))
 | [],n,r,i=>by simp[Z1]
 |g::l,n,r,i=>by
  rw[Z1,NG h w l,Ew,List.count_cons]
  by_cases e:i=g
  ·subst e
   simp only[if_true,BEq.rfl,Nat.add_mul,Nat.one_mul]
   omega
  ·have D:(g==i)=false:=by simpa using fun h=>e h.symm
   simp only[if_neg e,D,Bool.false_eq_true,if_false,Nat.add_zero]
theorem A8{g:Nat}: ∀{n:Nat},g<n→(List.range n).count g=1
 |n+1,h=>by
  rw[List.range_succ,List.count_append]
  by_cases e:g=n
  ·subst e
   rw[List.count_eq_zero_of_not_mem (by simp)]
   simp
  ·rw[A8 (n:=n) (by omega),List.count_cons]
   simp
   exact fun h=>e h.symm
theorem SA(f g:Nat)(i:g<N):(qy N J f).count g=oG (J f g):=by
 unfold qy oG
 by_cases h:J f g=true
 ·rw[List.count_filter h,if_pos h]
  exact A8 i
 ·rw[if_neg h]
  exact List.count_eq_zero_of_not_mem fun r=>h (List.mem_filter.1 r).2
theorem Ya(i:Nat→Nat→Nat)(h:Nat): ∀(k:Nat) (n:Nat→Nat→Nat) (D r:Nat),r<N→rnF N H J iC i h k n D r=n D r+Sm k fun f=>oG (J f r)*((if D=h then oG (iC r)*i h f else 0)+(if D=h+1∧h<H then i h f else 0))
 |0,n,D,r,_=>rfl
 |k+1,n,D,r,F=>by
  rw[rnF,NG,Ya i h k n D r F,SA N J k r F,Sm]
  omega
theorem Yb(i:Nat→Nat→Nat): ∀(k:Nat) (D r:Nat),k≤H+1→r<N→X9 N H J iC i k D r=Sm k fun h=>Sm N fun f=>oG (J f r)*((if D=h then oG (iC r)*i h f else 0)+(if D=h+1∧h<H then i h f else 0))
 |0,D,r,_,_=>rfl
 |k+1,D,r,hk,F=>by
  rw[X9,Ya N H J iC i k N _ D r F,Yb i k D r (by omega) F,Sm]
theorem wa(f:Nat→Nat)(j:Nat): ∀n,Sm n (fun i=>if i=j then f i else 0)=if j<n then f j else 0
 |0=>rfl
 |n+1=>by
  rw[Sm,wa f j n]
  by_cases h:n=j
  ·subst h;simp
  ·rw[if_neg h]
   by_cases r:j<n
   ·rw[if_pos r,if_pos (by omega)];omega
   ·rw[if_neg r,if_neg (by omega)]
theorem Yc(i:Nat→Nat→Nat)(r D:Nat)(U:r≤H)(O:D<N):X9 N H J iC i (H+1) r D=FU iC D (fun h=>Sm N fun f=>oG (J f D)*i h f) r:=by
 rw[Yb N H J iC i (H+1) r D (Nat.le_refl _) O]
 have e:(Sm (H+1) fun h=>Sm N fun f=>oG (J f D)*((if r=h then oG (iC D)*i h f else 0)+(if r=h+1∧h<H then i h f else 0)))=
   (Sm (H+1) fun h=>if h=r then oG (iC D)*Sm N (fun f=>oG (J f D)*i h f)else 0)+Sm (H+1) fun h=>if h+1=r then(if h<H then Sm N (fun f=>oG (J f D)*i h f)else 0)else 0:=by
  rw[←xK]
  refine jv fun h _=> ?_
  by_cases I:h=r
  ·subst I
   have F: ¬h=h+1:=by omega
   simp only[if_true,F,false_and,if_false,Nat.add_zero,show¬h+1=h by omega]
   rw[←A7]
   exact jv fun f _=>Nat.mul_left_comm _ _ _
  ·have DM: ¬r=h:=fun e=>I e.symm
   simp only[if_neg I,if_neg DM,Nat.zero_add]
   by_cases F:h+1=r
   ·have OV:r=h+1:=F.symm
    by_cases K:h<H
    ·simp only[OV,K,and_self,if_true]
    ·simp only[OV,K,and_false,if_false,if_true,Nat.mul_zero,pz]
   ·have OV: ¬r=h+1:=fun e=>F e.symm
    simp only[if_neg F,OV,false_and,if_false,Nat.mul_zero,pz]
 rw[e,wa,if_pos (by omega)]
 unfold FU
 congr 1
 cases r with
 |zero=>
  exact(jv (g:=fun _=>0) fun h _=>if_neg (Nat.succ_ne_zero h)).trans (pz _)
 |succ m=>
  rw[sf]
  have:(Sm (H+1) fun h=>if h+1=m+1 then(if h<H then Sm N (fun f=>oG (J f D)*i h f)else 0)else 0)=Sm (H+1) fun h=>if h=m then(if h<H then Sm N (fun f=>oG (J f D)*i h f)else 0)else 0:=jv fun h _=>by
   by_cases e:h=m
   ·rw[if_pos e,if_pos (by omega)]
   ·rw[if_neg e,if_neg (by omega)]
  rw[this,wa,if_pos (by omega),if_pos (by omega)]
def Mn(n:Nat→Nat→Nat):Nat:=Sm (H+1) fun h=>Sm N fun g=>n h g
theorem acY(h g w:Nat)(n:Nat→Nat→Nat)(I:h≤H)(F:g<N):Mn N H (Ew H iC h g w n)=Mn N H n+FV H iC h g w:=by
 unfold Mn Ew
 simp only[xK]
 congr 1
 have e: ∀i,(Sm N fun r=>if r=g then(if i=h then oG (iC r)*w else 0)+(if i=h+1∧h<H then w else 0)else 0)=(if i=h then oG (iC g)*w else 0)+(if i=h+1∧h<H then w else 0):=fun i=>by
  rw[wa (fun r=>(if i=h then oG (iC r)*w else 0)+(if i=h+1∧h<H then w else 0)),if_pos F]
 simp only[e,xK]
 unfold FV
 congr 1
 ·rw[wa (fun _=>oG (iC g)*w),if_pos (by omega)]
 ·by_cases D:h<H
  ·simp only[D,and_true,if_true]
   rw[wa (fun _=>w),if_pos (by omega)]
  ·simp only[D,and_false,if_false,pz]
def tnG(h w:Nat):List Nat→Nat→Nat
 | [],t=>t
 |g::l,t=>tnG h w l (t+FV H iC h g w)
def tnF(i:Nat→Nat→Nat)(h:Nat):Nat→Nat→Nat
 |0,t=>t
 |k+1,t=>tnG H iC h (i h k) (qy N J k) (tnF i h k t)
def tnH(i:Nat→Nat→Nat):Nat→Nat→Nat
 |0,t=>t
 |k+1,t=>tnF N H J iC i k N (tnH i k t)
theorem NH(h w:Nat)(i:h≤H): ∀(l:List Nat) (n:Nat→Nat→Nat) (t:Nat),(∀g∈l,g<N)→tnG H iC h w l t+Mn N H n=t+Mn N H (Z1 H iC h w l n)
 | [],n,t,_=>rfl
 |g::l,n,t,r=>by
  have:=NH h w i l (Ew H iC h g w n) (t+FV H iC h g w) fun x hx=>r x (List.mem_cons_of_mem _ hx)
  rw[acY N H iC h g w n i (r g List.mem_cons_self)]at this
  rw[tnG,Z1]
  omega
theorem Yd(i:Nat→Nat→Nat)(h:Nat)(r:h≤H)(n:Nat→Nat→Nat)(t:Nat): ∀k,tnF N H J iC i h k t+Mn N H n=t+Mn N H (rnF N H J iC i h k n)
 |0=>rfl
 |k+1=>by
  have F:=Yd i h r n t k
  have I:=NH N H iC h (i h k) r (qy N J k) (rnF N H J iC i h k n) (tnF N H J iC i h k t) fun g D=>List.mem_range.1 (List.mem_filter.1 D).1
  rw[tnF,rnF]
  omega
theorem Ye(i:Nat→Nat→Nat)(t:Nat): ∀k,k≤H+1→tnH N H J iC i k t=t+Mn N H (X9 N H J iC i k)
 |0,_=>by
  rw[tnH,X9]
  unfold Mn
  simp only[pz,Nat.add_zero]
 |k+1,hk=>by
  have r:=Ye i t k (by omega)
  have D:=Yd N H J iC i k (by omega) (X9 N H J iC i k) (tnH N H J iC i k t) N
  rw[tnH,X9]
  omega
end
end Go.Proofs.YtcpceiclnbmgiaaGreat
namespace Go.Ev
open Go
section
variable{E:Env}{call:qa}{n:Nat}{fr:Fr}{lh:iq b8}{sh:List b8}{os:List dy}{d:Nat}
theorem re{sh:List b8}{v:b8}:iH sh sh.length v=sh++ [v]:=by
 induction sh with
 |nil=>rfl
 |cons e l ih=>rw[List.length_cons,sU,ih];rfl
theorem acZ{sh:List b8}{v:b8}{k:Nat}(h:k=sh.length):iH sh k v=sh++ [v]:=by rw[h];exact re
end
end Go.Ev
namespace Go.Proofs.YtcpceiclnbmgiaaGreat
open Go Go.Ev
theorem ajM(n:Nat)(h:n≤1000)(sh:List b8):be pE 95 [.i .i64 (n:Int)] sh=some (.agg [.isl .S sh.length 1 0 n 1,.isl .S (sh.length+1) 1 0 n 1,.isl .S (sh.length+2) 1 0 n 1,.isl .S (sh.length+3) 1 0 n 1,.isl .S (sh.length+4) 1 0 n 1,.isl .S (sh.length+5) 1 0 n 1,.isl .S (sh.length+6) 1 0 n 1],sh++List.replicate 7 ⟨1,.cells (repl [.i .i64 0] n) 0 false⟩):=by
 have r:n*8≤roomy:=by unfold roomy;omega
 have D:n≤roomy:=by unfold roomy;omega
 rw[il aqt (by simp[c95])]
 generalize F:repl [T.i .i64 0] n=R
 simp(maxDischargeDepth:=6) only[qA,jl,seval,k9,Cw,c95,TZ,PF,r,D,List.append_assoc,List.cons_append,List.nil_append,Option.bind_some,acZ,List.replicate,List.length_append,List.length_cons,List.length_nil,F,Nat.add_assoc]
 rfl
theorem uf{α:Type}(v:α): ∀(cs:List α) (i:Nat),i<cs.length→splice cs i [v]=cs.set i v
 |c::cs,0,_=>by simp[splice]
 |c::cs,i+1,h=>by simp[splice,uf v cs i (by simpa using h)]
def inB(N:Nat)(l:List Int):List Bool:=(List.range N).map fun(i:Nat)=>decide ((i:Int)∈l)
def xV(l:List Bool):List T:=l.map T.b
theorem zL(N:Nat)(l:List Int):(xV (inB N l)).length=N:=by simp[xV,inB]
theorem ac0(N:Nat):xV (inB N [])=List.replicate N (.b false):=by
 simp only[xV,inB,List.map_map]
 exact List.eq_replicate_iff.2 ⟨by simp,fun b r=>by
  obtain⟨i,_,rfl⟩:=List.mem_map.1 r
  simp⟩
theorem Yf(N:Nat)(l:List Int)(x:Int)(r:0≤x)(D:x<N):splice (xV (inB N l)) x.toNat [.b true]=xV (inB N (l++ [x])):=by
 rw[uf _ _ _ (by rw[zL];omega)]
 refine List.ext_getElem (by simp[xV,inB]) fun i F I=> ?_
 rw[List.getElem_set]
 simp only[xV,inB,List.getElem_map,List.getElem_range,List.mem_append,List.mem_singleton]
 by_cases e:x.toNat=i
 ·rw[if_pos e]
  have:(i:Int)=x:=by omega
  simp[this]
 ·rw[if_neg e]
  have: ¬(i:Int)=x:=by omega
  simp[this]
theorem az6(N:Nat)(hN:N≤1000)(ops:List Int)(O:T)(V:IsSl O ops.length (ints ops))(hl:ops.length≤1000)(W: ∀x∈ops,0≤x∧x<(N:Int))(G:Nat)(fr:Fr)(lh:iq b8)(sh:List b8)(X:an fr 5= .isl .L 14 G 0 N 1)(Y:an fr 15=O)(U:an fr 16= .i .i64 (ops.length:Int))(Z:an fr 17= .i .i64 0)(r:b7 lh 14=⟨G,.cells (xV (inB N [])) 0 false⟩):
  Lp pE 26 Dd fr lh sh (.ext 0) fun f l s=>s=sh∧b7 l 14=⟨G,.cells (xV (inB N ops)) 0 false⟩:=by
 refine ky Jx (fun k f l s=>an f 17= .i .i64 (k:Int)∧s=sh∧b7 l 14=⟨G,.cells (xV (inB N (ops.take k))) 0 false⟩) ops.length ⟨Z,rfl,r⟩ ?_ ?_
 ·rintro k f l _ hk F ⟨D,rfl,r⟩
  have iX:(k:Int)<ops.length:=by omega
  have hw:wr .i64 ((k:Int)+1)=((k+1:Nat):Int):=by rw[js (by omega)];omega
  have I:=fun kk=>V.ia (sz:=1) (k:=k) (kk:=kk) (by rw[kO];omega) hk
  simp only[Nat.mul_one]at I
  have hd:(ints ops).drop k= .i .i64 ops[k]::(ints ops).drop (k+1):=by
   simp only[ints]
   rw[List.drop_eq_getElem_cons (by simpa using hk)]
   simp
  rw[hd]at I
  obtain⟨x0,xN⟩:=W ops[k] (List.getElem_mem hk)
  have FW:=Yf N (ops.take k) ops[k] x0 xN
  rw[←List.take_succ_eq_append_getElem hk]at FW
  have wq:=zL N (ops.take k)
  generalize ops[k]=x at*
  have xn:x.toNat<N:=by omega
  have K:x.toNat+1≤N:=by omega
  simp(maxDischargeDepth:=6) only[qA,seval,gd,Dd,F,X,Y,U,D,r,iX,hw,I,x0,xn,K,wq,FW]
 ·rintro f l _ F ⟨D,rfl,r⟩
  rw[List.take_length]at r
  simp only[qA,seval,gd,Dd,F,U,D,r,Int.lt_irrefl]
theorem Ey(Y Z K:T)(r:List T)(N:Nat)(D:lenI K=some (.i .i64 (N:Int)))(O:N≤1000)(ops:List Int)(I:T)(U:IsSl I ops.length (ints ops))(hl:ops.length≤1000)(V: ∀x∈ops,0≤x∧x<(N:Int)):
  be pE 56 [.vp (Y::Z::K::r),I] []=some (.sl (xV (inB N ops)) N false,[]):=by
 have W:=fun fr lh sh=>az6 N O ops I U hl V 1 fr lh sh
 have X:N*1≤roomy:=by unfold roomy;omega
 have F:N≤roomy:=by unfold roomy;omega
 have mf:=U.lenI
 have TB:repl [T.b false] N=xV (inB N []):=by
  rw[ac0]
  clear W D O V X F
  induction N with
  |zero=>rfl
  |succ n ih=>rw[repl,ih,List.replicate_succ];rfl
 have wq:=zL N ops
 have I6:(xV (inB N ops)).take N=xV (inB N ops):=List.take_of_length_le (by omega)
 rw[il aak (by simp[c56])]
 simp(maxDischargeDepth:=6) only[qA,Ee,seval,c56,Jx,D,mf,TB,X,F,W,wq,I6]
def nF(N:Nat)(r:Nat→Int):List T:=(List.range N).map fun(g:Nat)=>T.i .i64 (r g)
def xL(i N:Nat):List T:= [.isl .S i 1 0 N 1,.isl .S (i+1) 1 0 N 1,.isl .S (i+2) 1 0 N 1,.isl .S (i+3) 1 0 N 1,.isl .S (i+4) 1 0 N 1,.isl .S (i+5) 1 0 N 1,.isl .S (i+6) 1 0 N 1]
theorem zM(i N:Nat){h:Nat}(r:h<7):(xL i N)[h]? =some (.isl .S (i+h) 1 0 N 1):=by
 have:h=0∨h=1∨h=2∨h=3∨h=4∨h=5∨h=6:=by omega
 rcases this with rfl|rfl|rfl|rfl|rfl|rfl|rfl <;> rfl
theorem vn(N:Nat)(r:Nat→Int){f:Nat}(D:f<N):(nF N r)[f]? =some (.i .i64 (r f)):=by
 unfold nF;rw[List.getElem?_map,List.getElem?_range D];rfl
theorem te(N:Nat)(r:Nat→Int):(nF N r).length=N:=by simp[nF]
theorem zN(N:Nat)(r:Nat→Int)(f:Nat)(v:Int)(D:f<N):splice (nF N r) f [.i .i64 v]=nF N fun g=>if g=f then v else r g:=by
 rw[uf _ _ _ (by rw[te];exact D)]
 refine List.ext_getElem (by simp[nF]) fun i F I=> ?_
 rw[List.getElem_set]
 simp only[nF,List.getElem_map,List.getElem_range]
 by_cases e:f=i
 ·subst e;simp
 ·rw[if_neg e,if_neg (fun h=>e h.symm)]
theorem az8(sh:List b8)(N H r a kT:Nat)(lM:T)(b:Bool)(q:List T)(n:Nat→Nat→Int)(t w:Int)(h f:Nat)(W:h≤H)(X:H≤6)(Y:f<N)
  (D:iz sh 0=⟨1,.cells [.i .i64 (H:Int)] 0 true⟩) (F:iz sh 1=⟨1,.cells [lM] 0 true⟩) (I:iz sh a=⟨1,.cells (xL r N) 0 true⟩) (K:iz sh kT=⟨1,.cells [.i .i64 t] 0 true⟩) (Z:iz sh (r+h)=⟨1,.cells (nF N (n h)) 0 false⟩)
  (O: ∀kk,lY lM (.i kk (f:Int)) 1=some (.vp (.b b::q))) (U:b=false) (V: ¬(h:Int)<(H:Int)):
  be pE 96 [.ptr .S a 1 0,.i .i64 (h:Int),.i .i64 (f:Int),.i .i64 w,.ptr .S 1 1 0,.ptr .S kT 1 0,.ptr .S 0 1 0] sh=some (.tup [],sh):=by
 subst U
 rw[il UJ (by simp[c96])]
 simp(maxDischargeDepth:=6) only[qA,jl,seval,iE,k9,c96,D,F,I,K,O,V]
 rfl
theorem lz(R:List b8)(i j:Nat)(e:b8):iz (iH R i e) j=if j=i then e else iz R j:=sD _ _ _ _ _
theorem az9(sh:List b8)(N H r a kT:Nat)(lM:T)(b:Bool)(q:List T)(n:Nat→Nat→Int)(t w:Int)(h f:Nat)(hh:h≤H)(hH:H≤6)(D:f<N)(hN:N≤1000)
  (K:iz sh 0=⟨1,.cells [.i .i64 (H:Int)] 0 true⟩) (O:iz sh 1=⟨1,.cells [lM] 0 true⟩) (U:iz sh a=⟨1,.cells (xL r N) 0 true⟩) (V:iz sh kT=⟨1,.cells [.i .i64 t] 0 true⟩) (W:iz sh (r+h)=⟨1,.cells (nF N (n h)) 0 false⟩)
  (X: ∀kk,lY lM (.i kk (f:Int)) 1=some (.vp (.b b::q))) (Y:b=true) (Z: ¬(h:Int)<(H:Int)) (d1:kT≠r+h) (d2:a≠r+h) (d3:1≠r+h) (d4:0≠r+h) (d5:0≠kT):
  be pE 96 [.ptr .S a 1 0,.i .i64 (h:Int),.i .i64 (f:Int),.i .i64 w,.ptr .S 1 1 0,.ptr .S kT 1 0,.ptr .S 0 1 0] sh=some (.tup [],iH (iH sh (r+h) ⟨1,.cells (nF N fun g=>if g=f then wr .i64 (n h f+w)else n h g) 0 false⟩) kT ⟨1,.cells [.i .i64 (wr .i64 (t+w))] 0 true⟩):=by
 subst Y
 have hg:=zM r N (h:=h) (by omega)
 have hr:=vn N (n h) D
 have hs:=zN N (n h) f (wr .i64 (n h f+w)) D
 have hl:=te N (n h)
 have F:(xL r N).length=7:=rfl
 have h7:h<7:=by omega
 have I:h+1≤7:=by omega
 have B7:f+1≤N:=by omega
 rw[il UJ (by simp[c96])]
 simp(maxDischargeDepth:=6) only[qA,jl,seval,iE,k9,c96,lz,K,O,U,V,W,X,Z,hg,hr,hs,hl,F,h7,I,D,B7,d1,d2,d3,d4,d5]
 rfl
theorem aAa(sh:List b8)(N H r a kT:Nat)(lM:T)(b:Bool)(q:List T)(n:Nat→Nat→Int)(t w:Int)(h f:Nat)(hh:h<H)(hH:H≤6)(D:f<N)(hN:N≤1000)
  (K:iz sh 0=⟨1,.cells [.i .i64 (H:Int)] 0 true⟩) (O:iz sh 1=⟨1,.cells [lM] 0 true⟩) (U:iz sh a=⟨1,.cells (xL r N) 0 true⟩) (V:iz sh kT=⟨1,.cells [.i .i64 t] 0 true⟩) (W:iz sh (r+(h+1))=⟨1,.cells (nF N (n (h+1))) 0 false⟩)
  (X: ∀kk,lY lM (.i kk (f:Int)) 1=some (.vp (.b b::q))) (Y:b=false) (Z:kT≠r+(h+1)) (d2:a≠r+(h+1)) (d3:1≠r+(h+1)) (d4:0≠r+(h+1)) (d5:0≠kT):
  be pE 96 [.ptr .S a 1 0,.i .i64 (h:Int),.i .i64 (f:Int),.i .i64 w,.ptr .S 1 1 0,.ptr .S kT 1 0,.ptr .S 0 1 0] sh=some (.tup [],iH (iH sh (r+(h+1)) ⟨1,.cells (nF N fun g=>if g=f then wr .i64 (n (h+1) f+w)else n (h+1) g) 0 false⟩) kT ⟨1,.cells [.i .i64 (wr .i64 (t+w))] 0 true⟩):=by
 subst Y
 have hg:=zM r N (h:=h+1) (by omega)
 have hr:=vn N (n (h+1)) D
 have hs:=zN N (n (h+1)) f (wr .i64 (n (h+1) f+w)) D
 have hl:=te N (n (h+1))
 have F:(xL r N).length=7:=rfl
 have hw:wr .i64 ((h:Int)+1)=((h+1:Nat):Int):=by rw[js (by omega)];omega
 have h7:h+1<7:=by omega
 have I:h+1+1≤7:=by omega
 have B7:f+1≤N:=by omega
 have oF:(h:Int)<(H:Int):=by omega
 generalize h+1=m at*
 rw[il UJ (by simp[c96])]
 simp(maxDischargeDepth:=6) only[qA,jl,seval,iE,k9,c96,lz,K,O,U,V,W,X,oF,hg,hr,hs,hl,F,h7,I,hw,D,B7,Z,d2,d3,d4,d5]
 rfl
theorem aAb(sh:List b8)(N H r a kT:Nat)(lM:T)(b:Bool)(q:List T)(n:Nat→Nat→Int)(t w:Int)(h f:Nat)(hh:h<H)(hH:H≤6)(D:f<N)(hN:N≤1000)
  (Y:iz sh 0=⟨1,.cells [.i .i64 (H:Int)] 0 true⟩) (Z:iz sh 1=⟨1,.cells [lM] 0 true⟩) (gA:iz sh a=⟨1,.cells (xL r N) 0 true⟩) (gT:iz sh kT=⟨1,.cells [.i .i64 t] 0 true⟩) (gR:iz sh (r+h)=⟨1,.cells (nF N (n h)) 0 false⟩) (gS:iz sh (r+(h+1))=⟨1,.cells (nF N (n (h+1))) 0 false⟩)
  (my: ∀kk,lY lM (.i kk (f:Int)) 1=some (.vp (.b b::q))) (hb:b=true) (c1:kT≠r+h) (c2:a≠r+h) (c3:1≠r+h) (c4:0≠r+h) (X:kT≠r+(h+1)) (d2:a≠r+(h+1)) (d3:1≠r+(h+1)) (d4:0≠r+(h+1)) (d5:0≠kT) (d6:a≠kT) (d7:1≠kT):
  be pE 96 [.ptr .S a 1 0,.i .i64 (h:Int),.i .i64 (f:Int),.i .i64 w,.ptr .S 1 1 0,.ptr .S kT 1 0,.ptr .S 0 1 0] sh=some (.tup [],iH (iH (iH (iH sh (r+h) ⟨1,.cells (nF N fun g=>if g=f then wr .i64 (n h f+w)else n h g) 0 false⟩) kT ⟨1,.cells [.i .i64 (wr .i64 (t+w))] 0 true⟩) (r+(h+1)) ⟨1,.cells (nF N fun g=>if g=f then wr .i64 (n (h+1) f+w)else n (h+1) g) 0 false⟩) kT ⟨1,.cells [.i .i64 (wr .i64 (wr .i64 (t+w)+w))] 0 true⟩):=by
 subst hb
 have hg:=zM r N (h:=h+1) (by omega)
 have hr:=vn N (n (h+1)) D
 have hs:=zN N (n (h+1)) f (wr .i64 (n (h+1) f+w)) D
 have hl:=te N (n (h+1))
 have F:=zM r N (h:=h) (by omega)
 have I:=vn N (n h) D
 have K:=zN N (n h) f (wr .i64 (n h f+w)) D
 have Bx:=te N (n h)
 have O:(xL r N).length=7:=rfl
 have hw:wr .i64 ((h:Int)+1)=((h+1:Nat):Int):=by rw[js (by omega)];omega
 have e7:h<7:=by omega
 have U:h+1≤7:=by omega
 have h7:h+1<7:=by omega
 have V:h+1+1≤7:=by omega
 have B7:f+1≤N:=by omega
 have oF:(h:Int)<(H:Int):=by omega
 have d8:r+(h+1)≠r+h:=by omega
 have W:=Ne.symm X
 generalize h+1=m at*
 rw[il UJ (by simp[c96])]
 simp(maxDischargeDepth:=6) only[qA,jl,seval,iE,k9,Go.Proofs.YtcpceiclnbmgiaaGreat.c96,lz,Y,Z,gA,gT,gR,gS,my,oF,hg,hr,hs,hl,F,I,K,Bx,O,h7,V,e7,U,hw,D,B7,c1,c2,c3,c4,X,W,d2,d3,d4,d5,d6,d7,d8]
 rfl
structure Cc (sh:List b8) (N H rb a kT:Nat) (lM:T) (n:Nat→Nat→Int) (t:Int):Prop where
 g0:iz sh 0=⟨1,.cells [.i .i64 (H:Int)] 0 true⟩
 g1:iz sh 1=⟨1,.cells [lM] 0 true⟩
 gA:iz sh a=⟨1,.cells (xL rb N) 0 true⟩
 gT:iz sh kT=⟨1,.cells [.i .i64 t] 0 true⟩
 gR: ∀i,i<7→iz sh (rb+i)=⟨1,.cells (nF N (n i)) 0 false⟩
 b:rb+7≤sh.length∧kT<sh.length
def Ge(i a kT:Nat):Prop:=2≤i∧(a<i∨i+7≤a)∧(kT<i∨i+7≤kT)∧a≠kT∧2≤a∧2≤kT
def xM(H:Nat)(b:Bool)(h f:Nat)(w:Int)(n:Nat→Nat→Int):Nat→Nat→Int:=fun i g=>if g=f∧((i=h∧b=true)∨(i=h+1∧h<H))then wr .i64 (n i g+w)else n i g
def Ez(H:Nat)(b:Bool)(h:Nat)(w t:Int):Int:=if h<H then wr .i64 ((if b=true then wr .i64 (t+w)else t)+w)else if b=true then wr .i64 (t+w)else t
theorem nQ{N:Nat}{r s:Nat→Int}(h: ∀g,r g=s g):nF N r=nF N s:=by rw[show r=s from funext h]
theorem Yg(sh:List b8)(N H r a kT:Nat)(lM:T)(b:Bool)(q:List T)(n:Nat→Nat→Int)(t w:Int)(h f:Nat)(hh:h≤H)(Z:H≤6)(hf:f<N)(hN:N≤1000)(hG:Ge r a kT)(hC:Cc sh N H r a kT lM n t)(my: ∀kk,lY lM (.i kk (f:Int)) 1=some (.vp (.b b::q))):
  ∃iT,be pE 96 [.ptr .S a 1 0,.i .i64 (h:Int),.i .i64 (f:Int),.i .i64 w,.ptr .S 1 1 0,.ptr .S kT 1 0,.ptr .S 0 1 0] sh=some (.tup [],iT)∧Cc iT N H r a kT lM (xM H b h f w n) (Ez H b h w t)∧iT.length=sh.length∧ ∀k,k≠kT→(k<r∨r+7≤k)→iz iT k=iz sh k:=by
 obtain⟨F,I,K,X,D,b1,b2⟩:=hC
 obtain⟨U,W,Y,e4,e5,e6⟩:=hG
 have I7: ∀(R:List b8) (k:Nat) (e:b8),k<R.length→(iH R k e).length=R.length:=fun R k e h=>jM R k e h
 by_cases O:h<H
 ·cases b with
  |false=>
   refine⟨_,aAa sh N H r a kT lM false q n t w h f O Z hf hN F I K X (D (h+1) (by omega)) my rfl (by omega) (by omega) (by omega) (by omega) (by omega),⟨?_, ?_, ?_, ?_, ?_, ?_⟩, ?_, ?_⟩
   ·rw[lz,lz,if_neg (by omega),if_neg (by omega)];exact F
   ·rw[lz,lz,if_neg (by omega),if_neg (by omega)];exact I
   ·rw[lz,lz,if_neg (by omega),if_neg (by omega)];exact K
   ·rw[lz,if_pos rfl];unfold Ez;rw[if_pos O,if_neg (by decide)]
   ·intro i hi
    rw[lz,lz,if_neg (by omega)]
    by_cases e:i=h+1
    ·subst e
     rw[if_pos rfl]
     refine congrArg (fun c=>b8.mk 1 (.cells c 0 false)) (nQ fun g=> ?_)
     unfold xM
     by_cases V:g=f <;> simp[V,O]
    ·rw[if_neg (by omega),D i hi]
     refine congrArg (fun c=>b8.mk 1 (.cells c 0 false)) (nQ fun g=> ?_)
     unfold xM
     rw[if_neg (by simp[e])]
   ·rw[I7 _ _ _ (by rw[I7 _ _ _ (by omega)];omega),I7 _ _ _ (by omega)];exact⟨b1,b2⟩
   ·rw[I7 _ _ _ (by rw[I7 _ _ _ (by omega)];omega),I7 _ _ _ (by omega)]
   ·intro k k1 k2;rw[lz,lz,if_neg (by omega),if_neg (by omega)]
  |true=>
   have SC: ∀(U W Y e4:b8),(iH (iH (iH (iH sh (r+h) U) kT W) (r+(h+1)) Y) kT e4).length=sh.length:=fun U W Y e4=>by
    have q1:=I7 sh (r+h) U (by omega)
    have q2:=I7 (iH sh (r+h) U) kT W (by omega)
    have q3:=I7 (iH (iH sh (r+h) U) kT W) (r+(h+1)) Y (by omega)
    have q4:=I7 (iH (iH (iH sh (r+h) U) kT W) (r+(h+1)) Y) kT e4 (by omega)
    omega
   refine⟨_,aAb sh N H r a kT lM true q n t w h f O Z hf hN F I K X (D h (by omega)) (D (h+1) (by omega)) my rfl (by omega) (by omega) (by omega) (by omega) (by omega) (by omega) (by omega) (by omega) (by omega) (by omega) (by omega),⟨?_, ?_, ?_, ?_, ?_, ?_⟩,SC _ _ _ _, ?_⟩
   ·rw[lz,lz,lz,lz,if_neg (by omega),if_neg (by omega),if_neg (by omega),if_neg (by omega)];exact F
   ·rw[lz,lz,lz,lz,if_neg (by omega),if_neg (by omega),if_neg (by omega),if_neg (by omega)];exact I
   ·rw[lz,lz,lz,lz,if_neg (by omega),if_neg (by omega),if_neg (by omega),if_neg (by omega)];exact K
   ·rw[lz,if_pos rfl];unfold Ez;rw[if_pos O,if_pos rfl]
   ·intro i hi
    rw[lz,if_neg (by omega),lz]
    by_cases e:i=h+1
    ·subst e
     rw[if_pos rfl]
     refine congrArg (fun c=>b8.mk 1 (.cells c 0 false)) (nQ fun g=> ?_)
     unfold xM
     by_cases V:g=f <;> simp[V,O]
    ·rw[if_neg (by omega),lz,if_neg (by omega),lz]
     by_cases e':i=h
     ·subst e'
      rw[if_pos rfl]
      refine congrArg (fun c=>b8.mk 1 (.cells c 0 false)) (nQ fun g=> ?_)
      unfold xM
      by_cases V:g=f <;> simp[V]
     ·rw[if_neg (by omega),D i hi]
      refine congrArg (fun c=>b8.mk 1 (.cells c 0 false)) (nQ fun g=> ?_)
      unfold xM
      rw[if_neg (by simp[e,e'])]
   ·rw[SC];exact⟨b1,b2⟩
   ·intro k k1 k2;rw[lz,lz,lz,lz,if_neg (by omega),if_neg (by omega),if_neg (by omega),if_neg (by omega)]
 ·cases b with
  |false=>
   refine⟨sh,az8 sh N H r a kT lM false q n t w h f hh Z hf F I K X (D h (by omega)) my rfl (by omega), ?_,rfl,fun _ _ _=>rfl⟩
   have ez:xM H false h f w n=n:=funext fun h'=>funext fun g=>by unfold xM;rw[if_neg (by simp;omega)]
   have ey:Ez H false h w t=t:=by unfold Ez;rw[if_neg O,if_neg (by decide)]
   rw[ez,ey]
   exact⟨F,I,K,X,D,b1,b2⟩
  |true=>
   refine⟨_,az9 sh N H r a kT lM true q n t w h f hh Z hf hN F I K X (D h (by omega)) my rfl (by omega) (by omega) (by omega) (by omega) (by omega) (by omega),⟨?_, ?_, ?_, ?_, ?_, ?_⟩, ?_, ?_⟩
   ·rw[lz,lz,if_neg (by omega),if_neg (by omega)];exact F
   ·rw[lz,lz,if_neg (by omega),if_neg (by omega)];exact I
   ·rw[lz,lz,if_neg (by omega),if_neg (by omega)];exact K
   ·rw[lz,if_pos rfl];unfold Ez;rw[if_neg O,if_pos rfl]
   ·intro i hi
    rw[lz,lz,if_neg (by omega)]
    by_cases e:i=h
    ·subst e
     rw[if_pos rfl]
     refine congrArg (fun c=>b8.mk 1 (.cells c 0 false)) (nQ fun g=> ?_)
     unfold xM
     by_cases V:g=f <;> simp[V]
    ·rw[if_neg (by omega),D i hi]
     refine congrArg (fun c=>b8.mk 1 (.cells c 0 false)) (nQ fun g=> ?_)
     unfold xM
     rw[if_neg (by simp[e];omega)]
   ·rw[I7 _ _ _ (by rw[I7 _ _ _ (by omega)];omega),I7 _ _ _ (by omega)];exact⟨b1,b2⟩
   ·rw[I7 _ _ _ (by rw[I7 _ _ _ (by omega)];omega),I7 _ _ _ (by omega)]
   ·intro k k1 k2;rw[lz,lz,if_neg (by omega),if_neg (by omega)]
def Ce(H:Nat)(iC:Nat→Bool)(h:Nat)(w:Int):List Nat→(Nat→Nat→Int)×Int→(Nat→Nat→Int)×Int
 | [],p=>p
 |g::l,p=>Ce H iC h w l (xM H (iC g) h g w p.1,Ez H (iC g) h w p.2)
theorem cd1(N H D a kT:Nat)(lM:T)(iC:Nat→Bool)(my: ∀f,f<N→ ∃q,∀kk,lY lM (.i kk (f:Int)) 1=some (.vp (.b (iC f)::q)))(hH:H≤6)(hN:N≤1000)(hG:Ge D a kT)(r:List Nat)(V: ∀g∈r,g<N)(gT:T)(hg:IsSl gT r.length (ints (r.map Int.ofNat)))(h:Nat)(hh:h≤H)(w:Int)(n:Nat→Nat→Int)(t:Int)(hlen:r.length≤1000)(fr:Fr)(lh:iq b8)(sh:List b8)(W:an fr 12= .fn 96 [] [.ptr .S 1 1 0,.ptr .S kT 1 0,.ptr .S 0 1 0])(jH:an fr 14= .ptr .S a 1 0)(qv:an fr 15= .i .i64 (h:Int))(sr:an fr 17= .i .i64 w)(Cf:an fr 65=gT)(I:an fr 66= .i .i64 (r.length:Int))(X:an fr 67= .i .i64 0)(K:Cc sh N H D a kT lM n t):
  Lp pE 82 Dc fr lh sh (.ext 8) fun f l s=>l=lh∧Cc s N H D a kT lM (Ce H iC h w r (n,t)).1 (Ce H iC h w r (n,t)).2∧s.length=sh.length∧ ∀k,k≠kT→(k<D∨D+7≤k)→iz s k=iz sh k:=by
 refine ky Js (fun k f l s=>an f 67= .i .i64 (k:Int)∧l=lh∧s.length=sh.length∧(∀k,k≠kT→(k<D∨D+7≤k)→iz s k=iz sh k)∧ ∃p:(Nat→Nat→Int)×Int,Cc s N H D a kT lM p.1 p.2∧Ce H iC h w (r.drop k) p=Ce H iC h w r (n,t)) r.length ⟨X,rfl,rfl,fun _ _ _=>rfl,(n,t),K,rfl⟩ ?_ ?_
 ·rintro k f _ s hk Y ⟨F,rfl,hl,Z,p,K,O⟩
  have iX:(k:Int)<r.length:=by omega
  have hw:wr .i64 ((k:Int)+1)=((k+1:Nat):Int):=by rw[js (by omega)];omega
  have jg:=fun kk=>hg.ia (sz:=1) (k:=k) (kk:=kk) (by rw[kO,List.length_map];omega) hk
  have hd:(ints (r.map Int.ofNat)).drop (k*1)= .i .i64 (r[k]:Int)::(ints (r.map Int.ofNat)).drop (k+1):=by
   rw[Nat.mul_one,List.drop_eq_getElem_cons (by simpa[ints]using hk)]
   simp[ints]
  rw[hd]at jg
  have U:=V r[k] (List.getElem_mem hk)
  obtain⟨q,hq⟩:=my r[k] U
  obtain⟨s',e1,e2,e3,e4⟩:=Yg s N H D a kT lM (iC r[k]) q p.1 p.2 w h r[k] hh hH U hN hG K hq
  rw[List.drop_eq_getElem_cons hk,Ce]at O
  generalize r[k]=g at*
  simp(maxDischargeDepth:=6) only[qA,jl,seval,gd,Dc,Y,W,jH,qv,sr,Cf,I,F,iX,hw,jg,e1,aqv]
  exact⟨by omega,fun k h1 h2=>(e4 k h1 h2).trans (Z k h1 h2),(_,_),e2,O⟩
 ·rintro f _ s Y ⟨F,rfl,hl,Z,p,K,O⟩
  rw[List.drop_length,Ce]at O
  subst O
  simp only[qA,seval,gd,Dc,Y,I,F,Int.lt_irrefl]
  exact⟨K,hl,Z⟩
def xO(H:Nat)(iC:Nat→Bool)(i:Nat→List Nat)(h:Nat)(r:Nat→Int):List Nat→(Nat→Nat→Int)×Int→(Nat→Nat→Int)×Int
 | [],p=>p
 |f::l,p=>xO H iC i h r l (if r f=0 then p else Ce H iC h (r f) (i f) p)
theorem cd2(N H W a kT Z:Nat)(lM nT:T)(iC:Nat→Bool)(X:Nat→List Nat)(my: ∀f,f<N→ ∃q,∀kk,lY lM (.i kk (f:Int)) 1=some (.vp (.b (iC f)::q)))(qG: ∀f,f<N→ ∃gT q,(∀kk,lY nT (.i kk (f:Int)) 1=some (.vp (gT::q)))∧IsSl gT (X f).length (ints ((X f).map Int.ofNat))∧(X f).length≤1000∧ ∀g∈X f,g<N)(hH:H≤6)(hN:N≤1000)(hG:Ge W a kT)(h:Nat)(hh:h≤H)(r:Nat→Int)(n:Nat→Nat→Int)(t:Int)(hrn:Z+h≠kT∧(Z+h<W∨W+7≤Z+h))(fr:Fr)(lh:iq b8)(sh:List b8)(U:an fr 9=nT)(D:an fr 12= .fn 96 [] [.ptr .S 1 1 0,.ptr .S kT 1 0,.ptr .S 0 1 0])(F:an fr 14= .ptr .S a 1 0)(I:an fr 15= .i .i64 (h:Int))(V:an fr 53= .isl .S (Z+h) 1 0 N 1)(O:an fr 54= .i .i64 (N:Int))(h55:an fr 55= .i .i64 0)(hr:iz sh (Z+h)=⟨1,.cells (nF N r) 0 false⟩)(hC:Cc sh N H W a kT lM n t):
  Lp pE 82 Ar fr lh sh (.ext 6) fun f l s=>l=lh∧Cc s N H W a kT lM (xO H iC X h r (List.range N) (n,t)).1 (xO H iC X h r (List.range N) (n,t)).2∧s.length=sh.length∧ ∀k,k≠kT→(k<W∨W+7≤k)→iz s k=iz sh k:=by
 refine ky Jt (fun k f l s=>an f 55= .i .i64 (k:Int)∧l=lh∧s.length=sh.length∧(∀k,k≠kT→(k<W∨W+7≤k)→iz s k=iz sh k)∧ ∃p:(Nat→Nat→Int)×Int,Cc s N H W a kT lM p.1 p.2∧xO H iC X h r ((List.range N).drop k) p=xO H iC X h r (List.range N) (n,t)) N ⟨h55,rfl,rfl,fun _ _ _=>rfl,(n,t),hC,rfl⟩ ?_ ?_
 ·rintro k f _ s hk K ⟨I8,rfl,hl,nl,p,hC,Y⟩
  have iX:(k:Int)<N:=by omega
  have hw:wr .i64 ((k:Int)+1)=((k+1:Nat):Int):=by rw[js (by omega)];omega
  obtain⟨gT,q,jg,hgl,hg1,hg2⟩:=qG k hk
  have ac3:iz s (Z+h)=⟨1,.cells (nF N r) 0 false⟩:=(nl _ hrn.1 hrn.2).trans hr
  have MQ:=vn N r hk
  have wq:=te N r
  have hk1:k+1≤N:=by omega
  rw[List.drop_eq_getElem_cons (by simpa using hk),List.getElem_range,xO]at Y
  have mf:=hgl.lenI
  by_cases hz:r k=0
  ·rw[if_pos hz]at Y
   simp(maxDischargeDepth:=6) only[qA,jl,seval,gd,iE,Ar,K,U,D,F,I,V,O,I8,iX,hk,hk1,hw,ac3,MQ,wq,hz]
   exact⟨hl,nl,p,hC,Y⟩
  ·rw[if_neg hz]at Y
   have hL:=fun fr lh D F I sr Cf h66 h67=>cd1 N H W a kT lM iC my hH hN hG (X k) hg2 gT hgl h hh (r k) p.1 p.2 hg1 fr lh s D F I sr Cf h66 h67 hC
   simp(maxDischargeDepth:=6) only[qA,jl,seval,gd,iE,Ar,Js,K,U,D,F,I,V,O,I8,iX,hk,hk1,hw,ac3,MQ,wq,hz,jg,mf,hL]
   exact⟨hl,fun j h1 h2=>((hL _ _ (by simp only[qA,seval,K,U,D,F,I,V,O,I8]) (by simp only[qA,seval,K,U,D,F,I,V,O,I8]) (by simp only[qA,seval,K,U,D,F,I,V,O,I8]) (by simp only[qA,seval,K,U,D,F,I,V,O,I8]) (by simp only[qA,seval,K,U,D,F,I,V,O,I8]) (by simp only[qA,seval,K,U,D,F,I,V,O,I8]) (by simp only[qA,seval,K,U,D,F,I,V,O,I8])).2.2.2.2 j h1 h2).trans (nl j h1 h2),(_,_),(hL _ _ (by simp only[qA,seval,K,U,D,F,I,V,O,I8]) (by simp only[qA,seval,K,U,D,F,I,V,O,I8]) (by simp only[qA,seval,K,U,D,F,I,V,O,I8]) (by simp only[qA,seval,K,U,D,F,I,V,O,I8]) (by simp only[qA,seval,K,U,D,F,I,V,O,I8]) (by simp only[qA,seval,K,U,D,F,I,V,O,I8]) (by simp only[qA,seval,K,U,D,F,I,V,O,I8])).2.2.1,Y⟩
 ·rintro f _ s K ⟨I8,rfl,hl,nl,p,hC,Y⟩
  rw[List.drop_of_length_le (by simp),xO]at Y
  subst Y
  simp only[qA,seval,gd,Ar,K,O,I8,Int.lt_irrefl]
  exact⟨hC,hl,nl⟩
def A9(N H:Nat)(iC:Nat→Bool)(r:Nat→List Nat)(i:Nat→Nat→Int):List Nat→(Nat→Nat→Int)×Int→(Nat→Nat→Int)×Int
 | [],p=>p
 |h::l,p=>A9 N H iC r i l (xO H iC r h (i h) (List.range N) p)
theorem cd3(N H U a kT V Y:Nat)(lM nT:T)(iC:Nat→Bool)(W:Nat→List Nat)(my: ∀f,f<N→ ∃q,∀kk,lY lM (.i kk (f:Int)) 1=some (.vp (.b (iC f)::q)))(qG: ∀f,f<N→ ∃gT q,(∀kk,lY nT (.i kk (f:Int)) 1=some (.vp (gT::q)))∧IsSl gT (W f).length (ints ((W f).map Int.ofNat))∧(W f).length≤1000∧ ∀g∈W f,g<N)(hH:H≤6)(hN:N≤1000)(hG:Ge U a kT)(O n:Nat→Nat→Int)(t:Int)(X: ∀h,h<7→V+h≠kT∧(V+h<U∨U+7≤V+h))(hnb:Y≠kT∧(Y<U∨U+7≤Y))(fr:Fr)(lh:iq b8)(sh:List b8)(F:an fr 9=nT)(D:an fr 10= .ptr .S Y 1 0)(r:an fr 12= .fn 96 [] [.ptr .S 1 1 0,.ptr .S kT 1 0,.ptr .S 0 1 0])(I:an fr 14= .ptr .S a 1 0)(Ii:an fr 47= .i .i64 ((H+1:Nat):Int))(h48:an fr 48= .i .i64 0)(hb:iz sh Y=⟨1,.cells (xL V N) 0 true⟩)(hr: ∀h,h<7→iz sh (V+h)=⟨1,.cells (nF N (O h)) 0 false⟩)(hC:Cc sh N H U a kT lM n t):
  Lp pE 82 As fr lh sh (.ext 4) fun f l s=>l=lh∧Cc s N H U a kT lM (A9 N H iC W O (List.range (H+1)) (n,t)).1 (A9 N H iC W O (List.range (H+1)) (n,t)).2∧s.length=sh.length∧ ∀k,k≠kT→(k<U∨U+7≤k)→iz s k=iz sh k:=by
 refine ky Ju (fun k f l s=>an f 48= .i .i64 (k:Int)∧l=lh∧s.length=sh.length∧(∀k,k≠kT→(k<U∨U+7≤k)→iz s k=iz sh k)∧ ∃p:(Nat→Nat→Int)×Int,Cc s N H U a kT lM p.1 p.2∧A9 N H iC W O ((List.range (H+1)).drop k) p=A9 N H iC W O (List.range (H+1)) (n,t)) (H+1) ⟨h48,rfl,rfl,fun _ _ _=>rfl,(n,t),hC,rfl⟩ ?_ ?_
 ·rintro k f _ s hk K ⟨Ln,rfl,hl,nl,p,hC,hp⟩
  have iX:(k:Int)<((H+1:Nat):Int):=by omega
  have hw:wr .i64 ((k:Int)+1)=((k+1:Nat):Int):=by rw[js (by omega)];omega
  have Z:k<7:=by omega
  have k7':k+1≤7:=by omega
  have hbs:iz s Y=⟨1,.cells (xL V N) 0 true⟩:=(nl _ hnb.1 hnb.2).trans hb
  have ac3:iz s (V+k)=⟨1,.cells (nF N (O k)) 0 false⟩:=(nl _ (X k Z).1 (X k Z).2).trans (hr k Z)
  have hg:=zM V N Z
  have hl7:(xL V N).length=7:=rfl
  rw[List.drop_eq_getElem_cons (by simpa using hk),List.getElem_range,A9]at hp
  have hL:=fun fr lh F r I qv tZ uw h55=>cd2 N H U a kT V lM nT iC W my qG hH hN hG k (by omega) (O k) p.1 p.2 (X k Z) fr lh s F r I qv tZ uw h55 ac3 hC
  simp(maxDischargeDepth:=6) only[qA,jl,seval,gd,iE,k9,As,Jt,K,F,D,r,I,Ii,Ln,iX,hw,hbs,hg,hl7,Z,k7',hL]
  exact⟨hl,fun j h1 h2=>((hL _ _ (by simp only[qA,seval,K,F,D,r,I,Ii,Ln]) (by simp only[qA,seval,K,F,D,r,I,Ii,Ln]) (by simp only[qA,seval,K,F,D,r,I,Ii,Ln]) (by simp only[qA,seval,K,F,D,r,I,Ii,Ln]) (by simp only[qA,seval,K,F,D,r,I,Ii,Ln]) (by simp only[qA,seval,K,F,D,r,I,Ii,Ln]) (by simp only[qA,seval,K,F,D,r,I,Ii,Ln])).2.2.2.2 j h1 h2).trans (nl j h1 h2),(_,_),(hL _ _ (by simp only[qA,seval,K,F,D,r,I,Ii,Ln]) (by simp only[qA,seval,K,F,D,r,I,Ii,Ln]) (by simp only[qA,seval,K,F,D,r,I,Ii,Ln]) (by simp only[qA,seval,K,F,D,r,I,Ii,Ln]) (by simp only[qA,seval,K,F,D,r,I,Ii,Ln]) (by simp only[qA,seval,K,F,D,r,I,Ii,Ln]) (by simp only[qA,seval,K,F,D,r,I,Ii,Ln])).2.2.1,hp⟩
 ·rintro f _ s K ⟨Ln,rfl,hl,nl,p,hC,hp⟩
  rw[List.drop_of_length_le (by simp),A9]at hp
  subst hp
  simp only[qA,seval,gd,As,K,Ii,Ln,Int.lt_irrefl]
  exact⟨hC,hl,nl⟩
def EA(H:Nat)(iC:Nat→Bool):List Nat→(Nat→Nat→Int)×Int→(Nat→Nat→Int)×Int
 | [],p=>p
 |f::l,p=>EA H iC l (xM H (iC f) 0 f 1 p.1,Ez H (iC f) 0 1 p.2)
theorem cd0(N H r a kT:Nat)(lM:T)(iC:Nat→Bool)(my: ∀f,f<N→ ∃q,∀kk,lY lM (.i kk (f:Int)) 1=some (.vp (.b (iC f)::q)))(hH:H≤6)(hN:N≤1000)(hG:Ge r a kT)(n:Nat→Nat→Int)(t:Int)(fr:Fr)(lh:iq b8)(sh:List b8)(K:an fr 10= .ptr .S a 1 0)(O:an fr 12= .fn 96 [] [.ptr .S 1 1 0,.ptr .S kT 1 0,.ptr .S 0 1 0])(H6:an fr 34= .i .i64 (N:Int))(U:an fr 35= .i .i64 0)(F:Cc sh N H r a kT lM n t):
  Lp pE 82 Au fr lh sh (.ext 0) fun f l s=>l=lh∧Cc s N H r a kT lM (EA H iC (List.range N) (n,t)).1 (EA H iC (List.range N) (n,t)).2∧s.length=sh.length∧ ∀k,k≠kT→(k<r∨r+7≤k)→iz s k=iz sh k:=by
 refine ky Jw (fun k f l s=>an f 35= .i .i64 (k:Int)∧l=lh∧s.length=sh.length∧(∀k,k≠kT→(k<r∨r+7≤k)→iz s k=iz sh k)∧ ∃p:(Nat→Nat→Int)×Int,Cc s N H r a kT lM p.1 p.2∧EA H iC ((List.range N).drop k) p=EA H iC (List.range N) (n,t)) N ⟨U,rfl,rfl,fun _ _ _=>rfl,(n,t),F,rfl⟩ ?_ ?_
 ·rintro k f _ s hk V ⟨D,rfl,Y,W,p,F,I⟩
  have iX:(k:Int)<N:=by omega
  have hw:wr .i64 ((k:Int)+1)=((k+1:Nat):Int):=by rw[js (by omega)];omega
  obtain⟨q,hq⟩:=my k hk
  obtain⟨s',X,e2,e3,e4⟩:=Yg s N H r a kT lM (iC k) q p.1 p.2 1 0 k (by omega) hH hk hN hG F hq
  have X:be pE 96 [.ptr .S a 1 0,.i .i64 0,.i .i64 (k:Int),.i .i64 1,.ptr .S 1 1 0,.ptr .S kT 1 0,.ptr .S 0 1 0] s=some (.tup [],s'):=X
  rw[List.drop_eq_getElem_cons (by simpa using hk),List.getElem_range,EA]at I
  simp(maxDischargeDepth:=6) only[qA,jl,seval,gd,Au,V,K,O,H6,D,iX,hw,X,aqv]
  exact⟨by omega,fun k Z h2=>(e4 k Z h2).trans (W k Z h2),(_,_),e2,I⟩
 ·rintro f _ s V ⟨D,rfl,Y,W,p,F,I⟩
  rw[List.drop_of_length_le (by simp),EA]at I
  subst I
  simp only[qA,seval,gd,Au,V,H6,D,Int.lt_irrefl]
  exact⟨F,Y,W⟩
end Go.Proofs.YtcpceiclnbmgiaaGreat
