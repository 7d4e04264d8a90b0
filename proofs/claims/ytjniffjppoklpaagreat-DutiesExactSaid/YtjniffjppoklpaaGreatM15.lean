/- Walks of functions of the program and of the reference, and their plain laws, part 15. Conditions: the theorems' own. -/
import Derived.Test.YtjniffjppoklpaaGreatM14
import Derived.KernelRfl
set_option linter.unusedVariables false
set_option maxRecDepth 100000
set_option linter.unusedSimpArgs false
set_option maxHeartbeats 16000000
namespace Go.Proofs.YtjniffjppoklpaaGreat
def Sm:Nat→(Nat→Nat)→Nat
 |0,_=>0
 |n+1,f=>Sm n f+f n
theorem jJ{f g:Nat→Nat}: ∀{n:Nat},(∀i,i<n→f i=g i)→Sm n f=Sm n g
 |0,_=>rfl
 |n+1,h=>by rw[Sm,Sm,jJ (fun i hi=>h i (by omega)),h n (by omega)]
theorem ze(f g:Nat→Nat): ∀n,Sm n (fun i=>f i+g i)=Sm n f+Sm n g
 |0=>rfl
 |n+1=>by simp only[Sm,ze f g n];omega
theorem B8(c:Nat)(f:Nat→Nat): ∀n,Sm n (fun i=>c*f i)=c*Sm n f
 |0=>rfl
 |n+1=>by simp only[Sm,B8 c f n,Nat.mul_add]
theorem afu(c:Nat)(f:Nat→Nat)(n:Nat):Sm n (fun i=>f i*c)=Sm n f*c:=by
 rw[Nat.mul_comm,←B8];exact jJ fun i _=>Nat.mul_comm _ _
theorem qv: ∀n,Sm n (fun _=>0)=0
 |0=>rfl
 |n+1=>by rw[Sm,qv n]
theorem AW(f:Nat→Nat→Nat)(m:Nat): ∀n,Sm n (fun i=>Sm m fun j=>f i j)=Sm m fun j=>Sm n fun i=>f i j
 |0=>by simp only[Sm,qv]
 |n+1=>by simp only[Sm,AW f m n];rw[←ze]
theorem F2(f:Nat→Nat): ∀n,Sm (n+1) f=f 0+Sm n fun i=>f (i+1)
 |0=>by simp[Sm]
 |n+1=>by rw[Sm,F2 f n,Sm];omega
def cv(p q:Nat→Nat)(h:Nat):Nat:=Sm (h+1) fun i=>p i*q (h-i)
def sf(p:Nat→Nat):Nat→Nat
 |0=>0
 |h+1=>p h
theorem aas(p q:Nat→Nat): ∀h,cv (sf p) q h=match h with|0=>0|h+1=>cv p q h
 |0=>by simp[cv,Sm,sf]
 |h+1=>by
  unfold cv
  rw[F2]
  simp only[sf,Nat.zero_mul,Nat.zero_add]
  exact jJ fun i hi=>by rw[show h+1-(i+1)=h-i by omega]
theorem amr(p q:Nat→Nat): ∀h,cv p (sf q) h=match h with|0=>0|h+1=>cv p q h
 |0=>by simp[cv,Sm,sf]
 |h+1=>by
  unfold cv
  rw[Sm]
  simp only[Nat.sub_self,sf,Nat.mul_zero,Nat.add_zero]
  exact jJ fun i hi=>by rw[show h+1-i=(h-i)+1 by omega]
theorem afv(p q r:Nat→Nat)(h:Nat):cv (fun i=>p i+q i) r h=cv p r h+cv q r h:=by
 unfold cv;rw[←ze];exact jJ fun i _=>Nat.add_mul _ _ _
theorem afw(p q r:Nat→Nat)(h:Nat):cv p (fun i=>q i+r i) h=cv p q h+cv p r h:=by
 unfold cv;rw[←ze];exact jJ fun i _=>Nat.mul_add _ _ _
theorem ams(n:Nat)(p:Nat→Nat→Nat)(r:Nat→Nat)(h:Nat):cv (fun i=>Sm n fun f=>p f i) r h=Sm n fun f=>cv (p f) r h:=by
 unfold cv;rw[←AW];exact jJ fun i _=>(afu _ _ _).symm
theorem amt(n:Nat)(p:Nat→Nat)(r:Nat→Nat→Nat)(h:Nat):cv p (fun i=>Sm n fun f=>r f i) h=Sm n fun f=>cv p (r f) h:=by
 unfold cv;rw[←AW];exact jJ fun i _=>(B8 _ _ _).symm
theorem aiU(c:Nat)(p q:Nat→Nat)(h:Nat):cv (fun i=>c*p i) q h=c*cv p q h:=by
 unfold cv;rw[←B8];exact jJ fun i _=>Nat.mul_assoc _ _ _
theorem aiV(c:Nat)(p q:Nat→Nat)(h:Nat):cv p (fun i=>c*q i) h=c*cv p q h:=by
 unfold cv;rw[←B8];exact jJ fun i _=>by rw[Nat.mul_left_comm]
def vJ:Nat→Nat
 |0=>1
 |_+1=>0
theorem amu(p:Nat→Nat): ∀h,cv p vJ h=p h:=by
 intro h
 unfold cv
 rw[Sm,Nat.sub_self,vJ,Nat.mul_one]
 have:Sm h (fun i=>p i*vJ (h-i))=0:=by
  rw[←qv h]
  exact jJ fun i hi=>by rw[show h-i=(h-i-1)+1 by omega,vJ,Nat.mul_zero]
 omega
theorem Rx(p:Nat→Nat)(h:Nat):cv vJ p h=p h:=by
 unfold cv
 rw[F2,vJ,Nat.one_mul,Nat.sub_zero]
 have:Sm h (fun i=>vJ (i+1)*p (h-(i+1)))=0:=by
  rw[←qv h]
  exact jJ fun i _=>by rw[vJ,Nat.zero_mul]
 omega
section
variable(N:Nat)(J:Nat→Nat→Bool)(iQ:Nat→Bool)
def rk(b:Bool):Nat:=if b then 1 else 0
def H9(g:Nat)(p:Nat→Nat)(h:Nat):Nat:=rk (iQ g)*p h+sf p h
def cA:Nat→Nat→Nat→Nat
 |0,_,_=>0
 |1,g,h=>H9 iQ g vJ h
 |k+2,g,h=>H9 iQ g (fun h=>Sm N fun f=>rk (J f g)*cA (k+1) f h) h
def cB:Nat→Nat→Nat→Nat
 |0,_,_=>0
 |1,i,h=>H9 iQ i vJ h
 |k+2,i,h=>H9 iQ i (fun h=>Sm N fun j=>rk (J i j)*cB (k+1) j h) h
def cC(k f h:Nat):Nat:=match k with|0=>vJ h|k+1=>Sm N fun j=>rk (J f j)*cB N J iQ (k+1) j h
theorem Ry(k i h:Nat):cB N J iQ (k+1) i h=H9 iQ i (fun h=>cC N J iQ k i h) h:=by
 cases k <;> rfl
theorem afx(g:Nat)(p q:Nat→Nat)(h:Nat):cv p (fun h=>H9 iQ g q h) h=rk (iQ g)*cv p q h+cv p (sf q) h:=by
 unfold H9;rw[afw,aiV]
theorem Rz(g:Nat)(p q:Nat→Nat)(h:Nat):cv (fun h=>H9 iQ g p h) q h=rk (iQ g)*cv p q h+cv (sf p) q h:=by
 unfold H9;rw[afv,aiU]
theorem afy(m k h:Nat):(Sm N fun f=>cv (fun i=>cA N J iQ (m+1) f i) (fun i=>cC N J iQ (k+1) f i) h)=Sm N fun g=>cv (fun i=>cA N J iQ (m+2) g i) (fun i=>cC N J iQ k g i) h:=by
 have r:(Sm N fun f=>cv (fun i=>cA N J iQ (m+1) f i) (fun i=>cC N J iQ (k+1) f i) h)=Sm N fun g=>cv (fun i=>Sm N fun f=>rk (J f g)*cA N J iQ (m+1) f i) (fun i=>cB N J iQ (k+1) g i) h:=by
  have: ∀f,cv (fun i=>cA N J iQ (m+1) f i) (fun i=>cC N J iQ (k+1) f i) h=Sm N fun g=>rk (J f g)*cv (fun i=>cA N J iQ (m+1) f i) (fun i=>cB N J iQ (k+1) g i) h:=by
   intro f
   rw[show(fun i=>cC N J iQ (k+1) f i)=fun i=>Sm N fun j=>rk (J f j)*cB N J iQ (k+1) j i from rfl,amt]
   exact jJ fun g _=>aiV _ _ _ _
  simp only[this]
  rw[AW]
  refine jJ fun g _=> ?_
  rw[ams]
  exact jJ fun f _=>(aiU _ _ _ _).symm
 rw[r]
 refine jJ fun g _=> ?_
 rw[show(fun i=>cB N J iQ (k+1) g i)=fun i=>H9 iQ g (fun h=>cC N J iQ k g h) i from funext fun i=>Ry N J iQ k g i,afx,show(fun i=>cA N J iQ (m+2) g i)=fun i=>H9 iQ g (fun h=>Sm N fun f=>rk (J f g)*cA N J iQ (m+1) f h) i from rfl,Rz,aas,amr]
theorem cAB(k h:Nat):(Sm N fun g=>cA N J iQ (k+1) g h)=Sm N fun i=>cB N J iQ (k+1) i h:=by
 have r: ∀k m,(Sm N fun f=>cv (fun i=>cA N J iQ (m+1) f i) (fun i=>cC N J iQ k f i) h)=Sm N fun f=>cv (fun i=>cA N J iQ (m+k+1) f i) (fun i=>cC N J iQ 0 f i) h:=by
  intro k
  induction k with
  |zero=>intro m;rfl
  |succ k ih=>intro m;rw[afy,ih (m+1),show m+1+k+1=m+(k+1)+1 by omega]
 have D:=r k 0
 rw[show 0+k+1=k+1 by omega]at D
 have F:(Sm N fun f=>cv (fun i=>cA N J iQ (k+1) f i) (fun i=>cC N J iQ 0 f i) h)=Sm N fun g=>cA N J iQ (k+1) g h:=jJ fun f _=>amu _ _
 have I:(Sm N fun f=>cv (fun i=>cA N J iQ 1 f i) (fun i=>cC N J iQ k f i) h)=Sm N fun i=>cB N J iQ (k+1) i h:=jJ fun f _=>by
  rw[show(fun i=>cA N J iQ 1 f i)=fun i=>H9 iQ f vJ i from rfl,Rz,Rx,aas,Ry]
  unfold H9
  cases h with
  |zero=>rfl
  |succ h=>simp only[sf,Rx]
 rw[←F,←D]
 exact I
end
section
variable(N H:Nat)(J:Nat→Nat→Bool)(iQ:Nat→Bool)
def F3(h g w:Nat)(n:Nat→Nat→Nat):Nat→Nat→Nat:=fun r D=>n r D+(if D=g then(if r=h then rk (iQ D)*w else 0)+(if r=h+1∧h<H then w else 0)else 0)
def G5(h g w:Nat):Nat:=rk (iQ g)*w+(if h<H then w else 0)
def ln(f:Nat):List Nat:=(List.range N).filter fun g=>J f g
def rnG(h w:Nat):List Nat→(Nat→Nat→Nat)→Nat→Nat→Nat
 | [],n=>n
 |g::l,n=>rnG h w l (F3 H iQ h g w n)
def rnF(r:Nat→Nat→Nat)(h:Nat):Nat→(Nat→Nat→Nat)→Nat→Nat→Nat
 |0,n=>n
 |k+1,n=>rnG H iQ h (r h k) (ln N J k) (rnF r h k n)
def rnH(r:Nat→Nat→Nat):Nat→Nat→Nat→Nat
 |0=>fun _ _=>0
 |k+1=>rnF N H J iQ r k N (rnH r k)
theorem PJ(h w:Nat): ∀(l:List Nat) (n:Nat→Nat→Nat) (D r:Nat),rnG H iQ h w l n D r=n D r+l.count r*((if D=h then rk (iQ r)*w else 0)+(if D=h+1∧h<H then w else 0))
 | [],n,D,r=>by simp[rnG]
 |g::l,n,D,r=>by
  rw[rnG,PJ h w l,F3,List.count_cons]
  by_cases e:r=g
  ·subst e
   simp only[if_true,BEq.rfl,Nat.add_mul,Nat.one_mul]
   omega
  ·have F:(g==r)=false:=by simpa using fun h=>e h.symm
   simp only[if_neg e,F,Bool.false_eq_true,if_false,Nat.add_zero]
theorem B9{g:Nat}: ∀{n:Nat},g<n→(List.range n).count g=1
 |n+1,h=>by
  rw[List.range_succ,List.count_append]
  by_cases e:g=n
  ·subst e
   rw[List.count_eq_zero_of_not_mem (by simp)]
   simp
  ·rw[B9 (n:=n) (by omega),List.count_cons]
   simp
   exact fun h=>e h.symm
theorem Uu(f g:Nat)(r:g<N):(ln N J f).count g=rk (J f g):=by
 unfold ln rk
 by_cases h:J f g=true
 ·rw[List.count_filter h,if_pos h]
  exact B9 r
 ·rw[if_neg h]
  exact List.count_eq_zero_of_not_mem fun D=>h (List.mem_filter.1 D).2
theorem aau(r:Nat→Nat→Nat)(h:Nat): ∀(k:Nat) (n:Nat→Nat→Nat) (F D:Nat),D<N→rnF N H J iQ r h k n F D=n F D+Sm k fun f=>rk (J f D)*((if F=h then rk (iQ D)*r h f else 0)+(if F=h+1∧h<H then r h f else 0))
 |0,n,F,D,_=>rfl
 |k+1,n,F,D,I=>by
  rw[rnF,PJ,aau r h k n F D I,Uu N J k D I,Sm]
  omega
theorem aav(r:Nat→Nat→Nat): ∀(k:Nat) (F D:Nat),k≤H+1→D<N→rnH N H J iQ r k F D=Sm k fun h=>Sm N fun f=>rk (J f D)*((if F=h then rk (iQ D)*r h f else 0)+(if F=h+1∧h<H then r h f else 0))
 |0,F,D,_,_=>rfl
 |k+1,F,D,K,I=>by
  rw[rnH,aau N H J iQ r k N _ F D I,aav r k F D (by omega) I,Sm]
theorem xP(f:Nat→Nat)(j:Nat): ∀n,Sm n (fun i=>if i=j then f i else 0)=if j<n then f j else 0
 |0=>rfl
 |n+1=>by
  rw[Sm,xP f j n]
  by_cases h:n=j
  ·subst h;simp
  ·rw[if_neg h]
   by_cases r:j<n
   ·rw[if_pos r,if_pos (by omega)];omega
   ·rw[if_neg r,if_neg (by omega)]
theorem aaw(r:Nat→Nat→Nat)(D F:Nat)(W:D≤H)(U:F<N):rnH N H J iQ r (H+1) D F=H9 iQ F (fun h=>Sm N fun f=>rk (J f F)*r h f) D:=by
 rw[aav N H J iQ r (H+1) D F (Nat.le_refl _) U]
 have e:(Sm (H+1) fun h=>Sm N fun f=>rk (J f F)*((if D=h then rk (iQ F)*r h f else 0)+(if D=h+1∧h<H then r h f else 0)))=
   (Sm (H+1) fun h=>if h=D then rk (iQ F)*Sm N (fun f=>rk (J f F)*r h f)else 0)+Sm (H+1) fun h=>if h+1=D then(if h<H then Sm N (fun f=>rk (J f F)*r h f)else 0)else 0:=by
  rw[←ze]
  refine jJ fun h _=> ?_
  by_cases K:h=D
  ·subst K
   have I: ¬h=h+1:=by omega
   simp only[if_true,I,false_and,if_false,Nat.add_zero,show¬h+1=h by omega]
   rw[←B8]
   exact jJ fun f _=>Nat.mul_left_comm _ _ _
  ·have V: ¬D=h:=fun e=>K e.symm
   simp only[if_neg K,if_neg V,Nat.zero_add]
   by_cases I:h+1=D
   ·have N0:D=h+1:=I.symm
    by_cases O:h<H
    ·simp only[N0,O,and_self,if_true]
    ·simp only[N0,O,and_false,if_false,if_true,Nat.mul_zero,qv]
   ·have N0: ¬D=h+1:=fun e=>I e.symm
    simp only[if_neg I,N0,false_and,if_false,Nat.mul_zero,qv]
 rw[e,xP,if_pos (by omega)]
 unfold H9
 congr 1
 cases D with
 |zero=>
  exact(jJ (g:=fun _=>0) fun h _=>if_neg (Nat.succ_ne_zero h)).trans (qv _)
 |succ m=>
  rw[sf]
  have:(Sm (H+1) fun h=>if h+1=m+1 then(if h<H then Sm N (fun f=>rk (J f F)*r h f)else 0)else 0)=Sm (H+1) fun h=>if h=m then(if h<H then Sm N (fun f=>rk (J f F)*r h f)else 0)else 0:=jJ fun h _=>by
   by_cases e:h=m
   ·rw[if_pos e,if_pos (by omega)]
   ·rw[if_neg e,if_neg (by omega)]
  rw[this,xP,if_pos (by omega),if_pos (by omega)]
def RA(n:Nat→Nat→Nat):Nat:=Sm (H+1) fun h=>Sm N fun g=>n h g
theorem afz(h g w:Nat)(n:Nat→Nat→Nat)(K:h≤H)(I:g<N):RA N H (F3 H iQ h g w n)=RA N H n+G5 H iQ h g w:=by
 unfold RA F3
 simp only[ze]
 congr 1
 have e: ∀r,(Sm N fun D=>if D=g then(if r=h then rk (iQ D)*w else 0)+(if r=h+1∧h<H then w else 0)else 0)=(if r=h then rk (iQ g)*w else 0)+(if r=h+1∧h<H then w else 0):=fun r=>by
  rw[xP (fun D=>(if r=h then rk (iQ D)*w else 0)+(if r=h+1∧h<H then w else 0)),if_pos I]
 simp only[e,ze]
 unfold G5
 congr 1
 ·rw[xP (fun _=>rk (iQ g)*w),if_pos (by omega)]
 ·by_cases F:h<H
  ·simp only[F,and_true,if_true]
   rw[xP (fun _=>w),if_pos (by omega)]
  ·simp only[F,and_false,if_false,qv]
def tnG(h w:Nat):List Nat→Nat→Nat
 | [],t=>t
 |g::l,t=>tnG h w l (t+G5 H iQ h g w)
def tnF(r:Nat→Nat→Nat)(h:Nat):Nat→Nat→Nat
 |0,t=>t
 |k+1,t=>tnG H iQ h (r h k) (ln N J k) (tnF r h k t)
def tnH(r:Nat→Nat→Nat):Nat→Nat→Nat
 |0,t=>t
 |k+1,t=>tnF N H J iQ r k N (tnH r k t)
theorem PK(h w:Nat)(r:h≤H): ∀(l:List Nat) (n:Nat→Nat→Nat) (t:Nat),(∀g∈l,g<N)→tnG H iQ h w l t+RA N H n=t+RA N H (rnG H iQ h w l n)
 | [],n,t,_=>rfl
 |g::l,n,t,D=>by
  have:=PK h w r l (F3 H iQ h g w n) (t+G5 H iQ h g w) fun x F=>D x (List.mem_cons_of_mem _ F)
  rw[afz N H iQ h g w n r (D g List.mem_cons_self)]at this
  rw[tnG,rnG]
  omega
theorem aax(r:Nat→Nat→Nat)(h:Nat)(D:h≤H)(n:Nat→Nat→Nat)(t:Nat): ∀k,tnF N H J iQ r h k t+RA N H n=t+RA N H (rnF N H J iQ r h k n)
 |0=>rfl
 |k+1=>by
  have I:=aax r h D n t k
  have K:=PK N H iQ h (r h k) D (ln N J k) (rnF N H J iQ r h k n) (tnF N H J iQ r h k t) fun g F=>List.mem_range.1 (List.mem_filter.1 F).1
  rw[tnF,rnF]
  omega
theorem aay(r:Nat→Nat→Nat)(t:Nat): ∀k,k≤H+1→tnH N H J iQ r k t=t+RA N H (rnH N H J iQ r k)
 |0,_=>by
  rw[tnH,rnH]
  unfold RA
  simp only[qv,Nat.add_zero]
 |k+1,D=>by
  have F:=aay r t k (by omega)
  have I:=aax N H J iQ r k (by omega) (rnH N H J iQ r k) (tnH N H J iQ r k t) N
  rw[tnH,rnH]
  omega
end
end Go.Proofs.YtjniffjppoklpaaGreat
namespace Go.Ev
open Go
section
variable{E:Env}{call:qT}{n:Nat}{fr:Fr}{lh:iL iy}{sh:List iy}{os:List iz}{d:Nat}
theorem qN{sh:List iy}{v:iy}:iR sh sh.length v=sh++ [v]:=by
 induction sh with
 |nil=>rfl
 |cons e l ih=>rw[List.length_cons,tW,ih];rfl
theorem RB{sh:List iy}{v:iy}{k:Nat}(h:k=sh.length):iR sh k v=sh++ [v]:=by rw[h];exact qN
end
end Go.Ev
namespace Go.Proofs.YtjniffjppoklpaaGreat
open Go Go.Ev
theorem amw(n:Nat)(h:n≤1000)(sh:List iy):be pE 41 [.i .i64 (n:Int)] sh=some (.agg [.isl .S sh.length 1 0 n 1,.isl .S (sh.length+1) 1 0 n 1,.isl .S (sh.length+2) 1 0 n 1,.isl .S (sh.length+3) 1 0 n 1,.isl .S (sh.length+4) 1 0 n 1,.isl .S (sh.length+5) 1 0 n 1,.isl .S (sh.length+6) 1 0 n 1],sh++List.replicate 7 ⟨1,.cells (repl [.i .i64 0] n) 0 false⟩):=by
 have r:n*8≤roomy:=by unfold roomy;omega
 have D:n≤roomy:=by unfold roomy;omega
 rw[iD arp (by simp[c41])]
 generalize F:repl [T.i .i64 0] n=R
 simp(maxDischargeDepth:=6) only[qA,jA,seval,lZ,xE,c41,Vr,AR,r,D,List.append_assoc,List.cons_append,List.nil_append,Option.bind_some,RB,List.replicate,List.length_append,List.length_cons,List.length_nil,F,Nat.add_assoc]
 rfl
theorem sq{α:Type}(v:α): ∀(cs:List α) (i:Nat),i<cs.length→splice cs i [v]=cs.set i v
 |c::cs,0,_=>by simp[splice]
 |c::cs,i+1,h=>by simp[splice,sq v cs i (by simpa using h)]
def nl(N:Nat)(l:List Int):List Bool:=(List.range N).map fun(i:Nat)=>decide ((i:Int)∈l)
def sC(l:List Bool):List T:=l.map T.b
theorem vK(N:Nat)(l:List Int):(sC (nl N l)).length=N:=by simp[sC,nl]
theorem RC(N:Nat):sC (nl N [])=List.replicate N (.b false):=by
 simp only[sC,nl,List.map_map]
 exact List.eq_replicate_iff.2 ⟨by simp,fun b r=>by
  obtain⟨i,_,rfl⟩:=List.mem_map.1 r
  simp⟩
theorem M7(N:Nat)(l:List Int)(x:Int)(r:0≤x)(D:x<N):splice (sC (nl N l)) x.toNat [.b true]=sC (nl N (l++ [x])):=by
 rw[sq _ _ _ (by rw[vK];omega)]
 refine List.ext_getElem (by simp[sC,nl]) fun i F I=> ?_
 rw[List.getElem_set]
 simp only[sC,nl,List.getElem_map,List.getElem_range,List.mem_append,List.mem_singleton]
 by_cases e:x.toNat=i
 ·rw[if_pos e]
  have:(i:Int)=x:=by omega
  simp[this]
 ·rw[if_neg e]
  have: ¬(i:Int)=x:=by omega
  simp[this]
theorem aCH(N:Nat)(hN:N≤1000)(ops:List Int)(O:T)(X:iJ O ops.length (ints ops))(hl:ops.length≤1000)(Y: ∀x∈ops,0≤x∧x<(N:Int))(G:Nat)(fr:Fr)(lh:iL iy)(sh:List iy)(Z:an fr 5= .isl .L 14 G 0 N 1)(nj:an fr 15=O)(U:an fr 16= .i .i64 (ops.length:Int))(pH:an fr 17= .i .i64 0)(r:a6 lh 14=⟨G,.cells (sC (nl N [])) 0 false⟩):
  Lp pE 26 Ec fr lh sh (.ext 0) fun f l s=>s=sh∧a6 l 14=⟨G,.cells (sC (nl N ops)) 0 false⟩:=by
 refine kO Le (fun k f l s=>an f 17= .i .i64 (k:Int)∧s=sh∧a6 l 14=⟨G,.cells (sC (nl N (ops.take k))) 0 false⟩) ops.length ⟨pH,rfl,r⟩ ?_ ?_
 ·rintro k f l _ D F ⟨JH,rfl,r⟩
  have iU:(k:Int)<ops.length:=by omega
  have hw:wr .i64 ((k:Int)+1)=((k+1:Nat):Int):=by rw[jE (by omega)];omega
  have I:=fun kk=>X.ia (sz:=1) (k:=k) (kk:=kk) (by rw[kb];omega) D
  simp only[Nat.mul_one]at I
  have hd:(ints ops).drop k= .i .i64 ops[k]::(ints ops).drop (k+1):=by
   simp only[ints]
   rw[List.drop_eq_getElem_cons (by simpa using D)]
   simp
  rw[hd]at I
  obtain⟨V,xN⟩:=Y ops[k] (List.getElem_mem D)
  have W:=M7 N (ops.take k) ops[k] V xN
  rw[←List.take_succ_eq_append_getElem D]at W
  have wg:=vK N (ops.take k)
  generalize ops[k]=x at*
  have xn:x.toNat<N:=by omega
  have K:x.toNat+1≤N:=by omega
  simp(maxDischargeDepth:=6) only[qA,seval,gd,Ec,F,Z,nj,U,JH,r,iU,hw,I,V,xn,K,wg,W]
 ·rintro f l _ F ⟨JH,rfl,r⟩
  rw[List.take_length]at r
  simp only[qA,seval,gd,Ec,F,U,JH,r,Int.lt_irrefl]
theorem F4(Y Z K:T)(r:List T)(N:Nat)(D:lenI K=some (.i .i64 (N:Int)))(O:N≤1000)(ops:List Int)(I:T)(U:iJ I ops.length (ints ops))(hl:ops.length≤1000)(V: ∀x∈ops,0≤x∧x<(N:Int)):
  be pE 40 [.vp (Y::Z::K::r),I] []=some (.sl (sC (nl N ops)) N false,[]):=by
 have W:=fun fr lh sh=>aCH N O ops I U hl V 1 fr lh sh
 have X:N*1≤roomy:=by unfold roomy;omega
 have F:N≤roomy:=by unfold roomy;omega
 have lV:=U.lenI
 have A9:repl [T.b false] N=sC (nl N []):=by
  rw[RC]
  clear W D O V X F
  induction N with
  |zero=>rfl
  |succ n ih=>rw[repl,ih,List.replicate_succ];rfl
 have wg:=vK N ops
 have Ky:(sC (nl N ops)).take N=sC (nl N ops):=List.take_of_length_le (by omega)
 rw[iD acA (by simp[c40])]
 simp(maxDischargeDepth:=6) only[qA,yU,seval,c40,Le,D,lV,A9,X,F,W,wg,Ky]
def kH(N:Nat)(r:Nat→Int):List T:=(List.range N).map fun(g:Nat)=>T.i .i64 (r g)
def zf(r N:Nat):List T:= [.isl .S r 1 0 N 1,.isl .S (r+1) 1 0 N 1,.isl .S (r+2) 1 0 N 1,.isl .S (r+3) 1 0 N 1,.isl .S (r+4) 1 0 N 1,.isl .S (r+5) 1 0 N 1,.isl .S (r+6) 1 0 N 1]
theorem AX(r N:Nat){h:Nat}(D:h<7):(zf r N)[h]? =some (.isl .S (r+h) 1 0 N 1):=by
 have:h=0∨h=1∨h=2∨h=3∨h=4∨h=5∨h=6:=by omega
 rcases this with rfl|rfl|rfl|rfl|rfl|rfl|rfl <;> rfl
theorem pF(N:Nat)(r:Nat→Int){f:Nat}(D:f<N):(kH N r)[f]? =some (.i .i64 (r f)):=by
 unfold kH;rw[List.getElem?_map,List.getElem?_range D];rfl
theorem n6(N:Nat)(r:Nat→Int):(kH N r).length=N:=by simp[kH]
theorem uv(N:Nat)(r:Nat→Int)(f:Nat)(v:Int)(D:f<N):splice (kH N r) f [.i .i64 v]=kH N fun g=>if g=f then v else r g:=by
 rw[sq _ _ _ (by rw[n6];exact D)]
 refine List.ext_getElem (by simp[kH]) fun i F I=> ?_
 rw[List.getElem_set]
 simp only[kH,List.getElem_map,List.getElem_range]
 by_cases e:f=i
 ·subst e;simp
 ·rw[if_neg e,if_neg (fun h=>e h.symm)]
theorem aCI(sh:List iy)(N H r a kT:Nat)(lW:T)(b:Bool)(q:List T)(n:Nat→Nat→Int)(t w:Int)(h f:Nat)(W:h≤H)(X:H≤6)(Y:f<N)
  (D:iM sh 0=⟨1,.cells [.i .i64 (H:Int)] 0 true⟩) (F:iM sh 1=⟨1,.cells [lW] 0 true⟩) (I:iM sh a=⟨1,.cells (zf r N) 0 true⟩) (K:iM sh kT=⟨1,.cells [.i .i64 t] 0 true⟩) (Z:iM sh (r+h)=⟨1,.cells (kH N (n h)) 0 false⟩)
  (O: ∀kk,ng lW (.i kk (f:Int)) 1=some (.vp (.b b::q))) (U:b=false) (V: ¬(h:Int)<(H:Int)):
  be pE 42 [.ptr .S a 1 0,.i .i64 (h:Int),.i .i64 (f:Int),.i .i64 w,.ptr .S 1 1 0,.ptr .S kT 1 0,.ptr .S 0 1 0] sh=some (.tup [],sh):=by
 subst U
 rw[iD WH (by simp[c42])]
 simp(maxDischargeDepth:=6) only[qA,jA,seval,iN,lZ,c42,D,F,I,K,O,V]
 rfl
theorem lD(R:List iy)(i j:Nat)(e:iy):iM (iR R i e) j=if j=i then e else iM R j:=tI _ _ _ _ _
theorem aCJ(sh:List iy)(N H r a kT:Nat)(lW:T)(b:Bool)(q:List T)(n:Nat→Nat→Int)(t w:Int)(h f:Nat)(hh:h≤H)(hH:H≤6)(D:f<N)(hN:N≤1000)
  (K:iM sh 0=⟨1,.cells [.i .i64 (H:Int)] 0 true⟩) (O:iM sh 1=⟨1,.cells [lW] 0 true⟩) (U:iM sh a=⟨1,.cells (zf r N) 0 true⟩) (V:iM sh kT=⟨1,.cells [.i .i64 t] 0 true⟩) (W:iM sh (r+h)=⟨1,.cells (kH N (n h)) 0 false⟩)
  (X: ∀kk,ng lW (.i kk (f:Int)) 1=some (.vp (.b b::q))) (Y:b=true) (Z: ¬(h:Int)<(H:Int)) (d1:kT≠r+h) (d2:a≠r+h) (d3:1≠r+h) (d4:0≠r+h) (d5:0≠kT):
  be pE 42 [.ptr .S a 1 0,.i .i64 (h:Int),.i .i64 (f:Int),.i .i64 w,.ptr .S 1 1 0,.ptr .S kT 1 0,.ptr .S 0 1 0] sh=some (.tup [],iR (iR sh (r+h) ⟨1,.cells (kH N fun g=>if g=f then wr .i64 (n h f+w)else n h g) 0 false⟩) kT ⟨1,.cells [.i .i64 (wr .i64 (t+w))] 0 true⟩):=by
 subst Y
 have hg:=AX r N (h:=h) (by omega)
 have hr:=pF N (n h) D
 have hs:=uv N (n h) f (wr .i64 (n h f+w)) D
 have hl:=n6 N (n h)
 have F:(zf r N).length=7:=rfl
 have h7:h<7:=by omega
 have I:h+1≤7:=by omega
 have Ay:f+1≤N:=by omega
 rw[iD WH (by simp[c42])]
 simp(maxDischargeDepth:=6) only[qA,jA,seval,iN,lZ,c42,lD,K,O,U,V,W,X,Z,hg,hr,hs,hl,F,h7,I,D,Ay,d1,d2,d3,d4,d5]
 rfl
theorem aCK(sh:List iy)(N H r a kT:Nat)(lW:T)(b:Bool)(q:List T)(n:Nat→Nat→Int)(t w:Int)(h f:Nat)(hh:h<H)(hH:H≤6)(D:f<N)(hN:N≤1000)
  (K:iM sh 0=⟨1,.cells [.i .i64 (H:Int)] 0 true⟩) (O:iM sh 1=⟨1,.cells [lW] 0 true⟩) (U:iM sh a=⟨1,.cells (zf r N) 0 true⟩) (V:iM sh kT=⟨1,.cells [.i .i64 t] 0 true⟩) (W:iM sh (r+(h+1))=⟨1,.cells (kH N (n (h+1))) 0 false⟩)
  (X: ∀kk,ng lW (.i kk (f:Int)) 1=some (.vp (.b b::q))) (Y:b=false) (Z:kT≠r+(h+1)) (d2:a≠r+(h+1)) (d3:1≠r+(h+1)) (d4:0≠r+(h+1)) (d5:0≠kT):
  be pE 42 [.ptr .S a 1 0,.i .i64 (h:Int),.i .i64 (f:Int),.i .i64 w,.ptr .S 1 1 0,.ptr .S kT 1 0,.ptr .S 0 1 0] sh=some (.tup [],iR (iR sh (r+(h+1)) ⟨1,.cells (kH N fun g=>if g=f then wr .i64 (n (h+1) f+w)else n (h+1) g) 0 false⟩) kT ⟨1,.cells [.i .i64 (wr .i64 (t+w))] 0 true⟩):=by
 subst Y
 have hg:=AX r N (h:=h+1) (by omega)
 have hr:=pF N (n (h+1)) D
 have hs:=uv N (n (h+1)) f (wr .i64 (n (h+1) f+w)) D
 have hl:=n6 N (n (h+1))
 have F:(zf r N).length=7:=rfl
 have hw:wr .i64 ((h:Int)+1)=((h+1:Nat):Int):=by rw[jE (by omega)];omega
 have h7:h+1<7:=by omega
 have I:h+1+1≤7:=by omega
 have Ay:f+1≤N:=by omega
 have nv:(h:Int)<(H:Int):=by omega
 generalize h+1=m at*
 rw[iD WH (by simp[c42])]
 simp(maxDischargeDepth:=6) only[qA,jA,seval,iN,lZ,c42,lD,K,O,U,V,W,X,nv,hg,hr,hs,hl,F,h7,I,hw,D,Ay,Z,d2,d3,d4,d5]
 rfl
theorem aCL(sh:List iy)(N H r a kT:Nat)(lW:T)(b:Bool)(q:List T)(n:Nat→Nat→Int)(t w:Int)(h f:Nat)(hh:h<H)(hH:H≤6)(D:f<N)(hN:N≤1000)
  (Y:iM sh 0=⟨1,.cells [.i .i64 (H:Int)] 0 true⟩) (Z:iM sh 1=⟨1,.cells [lW] 0 true⟩) (gA:iM sh a=⟨1,.cells (zf r N) 0 true⟩) (gT:iM sh kT=⟨1,.cells [.i .i64 t] 0 true⟩) (gR:iM sh (r+h)=⟨1,.cells (kH N (n h)) 0 false⟩) (gS:iM sh (r+(h+1))=⟨1,.cells (kH N (n (h+1))) 0 false⟩)
  (lN: ∀kk,ng lW (.i kk (f:Int)) 1=some (.vp (.b b::q))) (hb:b=true) (c1:kT≠r+h) (c2:a≠r+h) (c3:1≠r+h) (c4:0≠r+h) (X:kT≠r+(h+1)) (d2:a≠r+(h+1)) (d3:1≠r+(h+1)) (d4:0≠r+(h+1)) (d5:0≠kT) (d6:a≠kT) (d7:1≠kT):
  be pE 42 [.ptr .S a 1 0,.i .i64 (h:Int),.i .i64 (f:Int),.i .i64 w,.ptr .S 1 1 0,.ptr .S kT 1 0,.ptr .S 0 1 0] sh=some (.tup [],iR (iR (iR (iR sh (r+h) ⟨1,.cells (kH N fun g=>if g=f then wr .i64 (n h f+w)else n h g) 0 false⟩) kT ⟨1,.cells [.i .i64 (wr .i64 (t+w))] 0 true⟩) (r+(h+1)) ⟨1,.cells (kH N fun g=>if g=f then wr .i64 (n (h+1) f+w)else n (h+1) g) 0 false⟩) kT ⟨1,.cells [.i .i64 (wr .i64 (wr .i64 (t+w)+w))] 0 true⟩):=by
 subst hb
 have hg:=AX r N (h:=h+1) (by omega)
 have hr:=pF N (n (h+1)) D
 have hs:=uv N (n (h+1)) f (wr .i64 (n (h+1) f+w)) D
 have hl:=n6 N (n (h+1))
 have F:=AX r N (h:=h) (by omega)
 have I:=pF N (n h) D
 have K:=uv N (n h) f (wr .i64 (n h f+w)) D
 have Cz:=n6 N (n h)
 have O:(zf r N).length=7:=rfl
 have hw:wr .i64 ((h:Int)+1)=((h+1:Nat):Int):=by rw[jE (by omega)];omega
 have e7:h<7:=by omega
 have U:h+1≤7:=by omega
 have h7:h+1<7:=by omega
 have V:h+1+1≤7:=by omega
 have Ay:f+1≤N:=by omega
 have nv:(h:Int)<(H:Int):=by omega
 have d8:r+(h+1)≠r+h:=by omega
 have W:=Ne.symm X
 generalize h+1=m at*
 rw[iD WH (by simp[c42])]
 simp(maxDischargeDepth:=6) only[qA,jA,seval,iN,lZ,Go.Proofs.YtjniffjppoklpaaGreat.c42,lD,Y,Z,gA,gT,gR,gS,lN,nv,hg,hr,hs,hl,F,I,K,Cz,O,h7,V,e7,U,hw,D,Ay,c1,c2,c3,c4,X,W,d2,d3,d4,d5,d6,d7,d8]
 rfl
structure Cc (sh:List iy) (N H rb a kT:Nat) (lW:T) (n:Nat→Nat→Int) (t:Int):Prop where
 g0:iM sh 0=⟨1,.cells [.i .i64 (H:Int)] 0 true⟩
 g1:iM sh 1=⟨1,.cells [lW] 0 true⟩
 gA:iM sh a=⟨1,.cells (zf rb N) 0 true⟩
 gT:iM sh kT=⟨1,.cells [.i .i64 t] 0 true⟩
 gR: ∀i,i<7→iM sh (rb+i)=⟨1,.cells (kH N (n i)) 0 false⟩
 b:rb+7≤sh.length∧kT<sh.length
def Ge(r a kT:Nat):Prop:=2≤r∧(a<r∨r+7≤a)∧(kT<r∨r+7≤kT)∧a≠kT∧2≤a∧2≤kT
def zg(H:Nat)(b:Bool)(h f:Nat)(w:Int)(n:Nat→Nat→Int):Nat→Nat→Int:=fun r g=>if g=f∧((r=h∧b=true)∨(r=h+1∧h<H))then wr .i64 (n r g+w)else n r g
def F5(H:Nat)(b:Bool)(h:Nat)(w t:Int):Int:=if h<H then wr .i64 ((if b=true then wr .i64 (t+w)else t)+w)else if b=true then wr .i64 (t+w)else t
theorem nA{N:Nat}{r s:Nat→Int}(h: ∀g,r g=s g):kH N r=kH N s:=by rw[show r=s from funext h]
theorem aaz(sh:List iy)(N H r a kT:Nat)(lW:T)(b:Bool)(q:List T)(n:Nat→Nat→Int)(t w:Int)(h f:Nat)(hh:h≤H)(Z:H≤6)(hf:f<N)(hN:N≤1000)(hG:Ge r a kT)(hC:Cc sh N H r a kT lW n t)(lN: ∀kk,ng lW (.i kk (f:Int)) 1=some (.vp (.b b::q))):
  ∃jk,be pE 42 [.ptr .S a 1 0,.i .i64 (h:Int),.i .i64 (f:Int),.i .i64 w,.ptr .S 1 1 0,.ptr .S kT 1 0,.ptr .S 0 1 0] sh=some (.tup [],jk)∧Cc jk N H r a kT lW (zg H b h f w n) (F5 H b h w t)∧jk.length=sh.length∧ ∀k,k≠kT→(k<r∨r+7≤k)→iM jk k=iM sh k:=by
 obtain⟨F,I,K,X,D,b1,b2⟩:=hC
 obtain⟨U,W,Y,e4,e5,e6⟩:=hG
 have Ca: ∀(R:List iy) (k:Nat) (e:iy),k<R.length→(iR R k e).length=R.length:=fun R k e h=>jQ R k e h
 by_cases O:h<H
 ·cases b with
  |false=>
   refine⟨_,aCK sh N H r a kT lW false q n t w h f O Z hf hN F I K X (D (h+1) (by omega)) lN rfl (by omega) (by omega) (by omega) (by omega) (by omega),⟨?_, ?_, ?_, ?_, ?_, ?_⟩, ?_, ?_⟩
   ·rw[lD,lD,if_neg (by omega),if_neg (by omega)];exact F
   ·rw[lD,lD,if_neg (by omega),if_neg (by omega)];exact I
   ·rw[lD,lD,if_neg (by omega),if_neg (by omega)];exact K
   ·rw[lD,if_pos rfl];unfold F5;rw[if_pos O,if_neg (by decide)]
   ·intro i hi
    rw[lD,lD,if_neg (by omega)]
    by_cases e:i=h+1
    ·subst e
     rw[if_pos rfl]
     refine congrArg (fun c=>iy.mk 1 (.cells c 0 false)) (nA fun g=> ?_)
     unfold zg
     by_cases V:g=f <;> simp[V,O]
    ·rw[if_neg (by omega),D i hi]
     refine congrArg (fun c=>iy.mk 1 (.cells c 0 false)) (nA fun g=> ?_)
     unfold zg
     rw[if_neg (by simp[e])]
   ·rw[Ca _ _ _ (by rw[Ca _ _ _ (by omega)];omega),Ca _ _ _ (by omega)];exact⟨b1,b2⟩
   ·rw[Ca _ _ _ (by rw[Ca _ _ _ (by omega)];omega),Ca _ _ _ (by omega)]
   ·intro k k1 k2;rw[lD,lD,if_neg (by omega),if_neg (by omega)]
  |true=>
   have Uv: ∀(U W Y e4:iy),(iR (iR (iR (iR sh (r+h) U) kT W) (r+(h+1)) Y) kT e4).length=sh.length:=fun U W Y e4=>by
    have q1:=Ca sh (r+h) U (by omega)
    have q2:=Ca (iR sh (r+h) U) kT W (by omega)
    have q3:=Ca (iR (iR sh (r+h) U) kT W) (r+(h+1)) Y (by omega)
    have q4:=Ca (iR (iR (iR sh (r+h) U) kT W) (r+(h+1)) Y) kT e4 (by omega)
    omega
   refine⟨_,aCL sh N H r a kT lW true q n t w h f O Z hf hN F I K X (D h (by omega)) (D (h+1) (by omega)) lN rfl (by omega) (by omega) (by omega) (by omega) (by omega) (by omega) (by omega) (by omega) (by omega) (by omega) (by omega),⟨?_, ?_, ?_, ?_, ?_, ?_⟩,Uv _ _ _ _, ?_⟩
   ·rw[lD,lD,lD,lD,if_neg (by omega),if_neg (by omega),if_neg (by omega),if_neg (by omega)];exact F
   ·rw[lD,lD,lD,lD,if_neg (by omega),if_neg (by omega),if_neg (by omega),if_neg (by omega)];exact I
   ·rw[lD,lD,lD,lD,if_neg (by omega),if_neg (by omega),if_neg (by omega),if_neg (by omega)];exact K
   ·rw[lD,if_pos rfl];unfold F5;rw[if_pos O,if_pos rfl]
   ·intro i hi
    rw[lD,if_neg (by omega),lD]
    by_cases e:i=h+1
    ·subst e
     rw[if_pos rfl]
     refine congrArg (fun c=>iy.mk 1 (.cells c 0 false)) (nA fun g=> ?_)
     unfold zg
     by_cases V:g=f <;> simp[V,O]
    ·rw[if_neg (by omega),lD,if_neg (by omega),lD]
     by_cases e':i=h
     ·subst e'
      rw[if_pos rfl]
      refine congrArg (fun c=>iy.mk 1 (.cells c 0 false)) (nA fun g=> ?_)
      unfold zg
      by_cases V:g=f <;> simp[V]
     ·rw[if_neg (by omega),D i hi]
      refine congrArg (fun c=>iy.mk 1 (.cells c 0 false)) (nA fun g=> ?_)
      unfold zg
      rw[if_neg (by simp[e,e'])]
   ·rw[Uv];exact⟨b1,b2⟩
   ·intro k k1 k2;rw[lD,lD,lD,lD,if_neg (by omega),if_neg (by omega),if_neg (by omega),if_neg (by omega)]
 ·cases b with
  |false=>
   refine⟨sh,aCI sh N H r a kT lW false q n t w h f hh Z hf F I K X (D h (by omega)) lN rfl (by omega), ?_,rfl,fun _ _ _=>rfl⟩
   have ez:zg H false h f w n=n:=funext fun h'=>funext fun g=>by unfold zg;rw[if_neg (by simp;omega)]
   have ey:F5 H false h w t=t:=by unfold F5;rw[if_neg O,if_neg (by decide)]
   rw[ez,ey]
   exact⟨F,I,K,X,D,b1,b2⟩
  |true=>
   refine⟨_,aCJ sh N H r a kT lW true q n t w h f hh Z hf hN F I K X (D h (by omega)) lN rfl (by omega) (by omega) (by omega) (by omega) (by omega) (by omega),⟨?_, ?_, ?_, ?_, ?_, ?_⟩, ?_, ?_⟩
   ·rw[lD,lD,if_neg (by omega),if_neg (by omega)];exact F
   ·rw[lD,lD,if_neg (by omega),if_neg (by omega)];exact I
   ·rw[lD,lD,if_neg (by omega),if_neg (by omega)];exact K
   ·rw[lD,if_pos rfl];unfold F5;rw[if_neg O,if_pos rfl]
   ·intro i hi
    rw[lD,lD,if_neg (by omega)]
    by_cases e:i=h
    ·subst e
     rw[if_pos rfl]
     refine congrArg (fun c=>iy.mk 1 (.cells c 0 false)) (nA fun g=> ?_)
     unfold zg
     by_cases V:g=f <;> simp[V]
    ·rw[if_neg (by omega),D i hi]
     refine congrArg (fun c=>iy.mk 1 (.cells c 0 false)) (nA fun g=> ?_)
     unfold zg
     rw[if_neg (by simp[e];omega)]
   ·rw[Ca _ _ _ (by rw[Ca _ _ _ (by omega)];omega),Ca _ _ _ (by omega)];exact⟨b1,b2⟩
   ·rw[Ca _ _ _ (by rw[Ca _ _ _ (by omega)];omega),Ca _ _ _ (by omega)]
   ·intro k k1 k2;rw[lD,lD,if_neg (by omega),if_neg (by omega)]
def Dk(H:Nat)(iQ:Nat→Bool)(h:Nat)(w:Int):List Nat→(Nat→Nat→Int)×Int→(Nat→Nat→Int)×Int
 | [],p=>p
 |g::l,p=>Dk H iQ h w l (zg H (iQ g) h g w p.1,F5 H (iQ g) h w p.2)
theorem cd1(N H D a kT:Nat)(lW:T)(iQ:Nat→Bool)(lN: ∀f,f<N→ ∃q,∀kk,ng lW (.i kk (f:Int)) 1=some (.vp (.b (iQ f)::q)))(hH:H≤6)(hN:N≤1000)(hG:Ge D a kT)(r:List Nat)(W: ∀g∈r,g<N)(gT:T)(hg:iJ gT r.length (ints (r.map Int.ofNat)))(h:Nat)(hh:h≤H)(w:Int)(n:Nat→Nat→Int)(t:Int)(hlen:r.length≤1000)(fr:Fr)(lh:iL iy)(sh:List iy)(X:an fr 12= .fn 42 [] [.ptr .S 1 1 0,.ptr .S kT 1 0,.ptr .S 0 1 0])(jG:an fr 14= .ptr .S a 1 0)(nj:an fr 15= .i .i64 (h:Int))(pH:an fr 17= .i .i64 w)(Dl:an fr 65=gT)(I:an fr 66= .i .i64 (r.length:Int))(Y:an fr 67= .i .i64 0)(K:Cc sh N H D a kT lW n t):
  Lp pE 82 DY fr lh sh (.ext 8) fun f l s=>l=lh∧Cc s N H D a kT lW (Dk H iQ h w r (n,t)).1 (Dk H iQ h w r (n,t)).2∧s.length=sh.length∧ ∀k,k≠kT→(k<D∨D+7≤k)→iM s k=iM sh k:=by
 refine kO KN (fun k f l s=>an f 67= .i .i64 (k:Int)∧l=lh∧s.length=sh.length∧(∀k,k≠kT→(k<D∨D+7≤k)→iM s k=iM sh k)∧ ∃p:(Nat→Nat→Int)×Int,Cc s N H D a kT lW p.1 p.2∧Dk H iQ h w (r.drop k) p=Dk H iQ h w r (n,t)) r.length ⟨Y,rfl,rfl,fun _ _ _=>rfl,(n,t),K,rfl⟩ ?_ ?_
 ·rintro k f _ s V Z ⟨F,rfl,hl,lS,p,K,O⟩
  have iU:(k:Int)<r.length:=by omega
  have hw:wr .i64 ((k:Int)+1)=((k+1:Nat):Int):=by rw[jE (by omega)];omega
  have iW:=fun kk=>hg.ia (sz:=1) (k:=k) (kk:=kk) (by rw[kb,List.length_map];omega) V
  have hd:(ints (r.map Int.ofNat)).drop (k*1)= .i .i64 (r[k]:Int)::(ints (r.map Int.ofNat)).drop (k+1):=by
   rw[Nat.mul_one,List.drop_eq_getElem_cons (by simpa[ints]using V)]
   simp[ints]
  rw[hd]at iW
  have U:=W r[k] (List.getElem_mem V)
  obtain⟨q,hq⟩:=lN r[k] U
  obtain⟨s',e1,e2,e3,e4⟩:=aaz s N H D a kT lW (iQ r[k]) q p.1 p.2 w h r[k] hh hH U hN hG K hq
  rw[List.drop_eq_getElem_cons V,Dk]at O
  generalize r[k]=g at*
  simp(maxDischargeDepth:=6) only[qA,jA,seval,gd,DY,Z,X,jG,nj,pH,Dl,I,F,iU,hw,iW,e1,art]
  exact⟨by omega,fun k h1 h2=>(e4 k h1 h2).trans (lS k h1 h2),(_,_),e2,O⟩
 ·rintro f _ s Z ⟨F,rfl,hl,lS,p,K,O⟩
  rw[List.drop_length,Dk]at O
  subst O
  simp only[qA,seval,gd,DY,Z,I,F,Int.lt_irrefl]
  exact⟨K,hl,lS⟩
def zh(H:Nat)(iQ:Nat→Bool)(nx:Nat→List Nat)(h:Nat)(r:Nat→Int):List Nat→(Nat→Nat→Int)×Int→(Nat→Nat→Int)×Int
 | [],p=>p
 |f::l,p=>zh H iQ nx h r l (if r f=0 then p else Dk H iQ h (r f) (nx f) p)
theorem cd2(N H W a kT Y:Nat)(lW nT:T)(iQ:Nat→Bool)(nx:Nat→List Nat)(lN: ∀f,f<N→ ∃q,∀kk,ng lW (.i kk (f:Int)) 1=some (.vp (.b (iQ f)::q)))(mI: ∀f,f<N→ ∃gT q,(∀kk,ng nT (.i kk (f:Int)) 1=some (.vp (gT::q)))∧iJ gT (nx f).length (ints ((nx f).map Int.ofNat))∧(nx f).length≤1000∧ ∀g∈nx f,g<N)(hH:H≤6)(hN:N≤1000)(hG:Ge W a kT)(h:Nat)(hh:h≤H)(r:Nat→Int)(n:Nat→Nat→Int)(t:Int)(hrn:Y+h≠kT∧(Y+h<W∨W+7≤Y+h))(fr:Fr)(lh:iL iy)(sh:List iy)(U:an fr 9=nT)(D:an fr 12= .fn 42 [] [.ptr .S 1 1 0,.ptr .S kT 1 0,.ptr .S 0 1 0])(F:an fr 14= .ptr .S a 1 0)(I:an fr 15= .i .i64 (h:Int))(V:an fr 53= .isl .S (Y+h) 1 0 N 1)(O:an fr 54= .i .i64 (N:Int))(h55:an fr 55= .i .i64 0)(hr:iM sh (Y+h)=⟨1,.cells (kH N r) 0 false⟩)(Z:Cc sh N H W a kT lW n t):
  Lp pE 82 Bh fr lh sh (.ext 6) fun f l s=>l=lh∧Cc s N H W a kT lW (zh H iQ nx h r (List.range N) (n,t)).1 (zh H iQ nx h r (List.range N) (n,t)).2∧s.length=sh.length∧ ∀k,k≠kT→(k<W∨W+7≤k)→iM s k=iM sh k:=by
 refine kO KO (fun k f l s=>an f 55= .i .i64 (k:Int)∧l=lh∧s.length=sh.length∧(∀k,k≠kT→(k<W∨W+7≤k)→iM s k=iM sh k)∧ ∃p:(Nat→Nat→Int)×Int,Cc s N H W a kT lW p.1 p.2∧zh H iQ nx h r ((List.range N).drop k) p=zh H iQ nx h r (List.range N) (n,t)) N ⟨h55,rfl,rfl,fun _ _ _=>rfl,(n,t),Z,rfl⟩ ?_ ?_
 ·rintro k f _ s hk K ⟨Kz,rfl,hl,lS,p,Z,X⟩
  have iU:(k:Int)<N:=by omega
  have hw:wr .i64 ((k:Int)+1)=((k+1:Nat):Int):=by rw[jE (by omega)];omega
  obtain⟨gT,q,iW,hgl,hg1,hg2⟩:=mI k hk
  have TQ:iM s (Y+h)=⟨1,.cells (kH N r) 0 false⟩:=(lS _ hrn.1 hrn.2).trans hr
  have Al:=pF N r hk
  have wg:=n6 N r
  have PG:k+1≤N:=by omega
  rw[List.drop_eq_getElem_cons (by simpa using hk),List.getElem_range,zh]at X
  have lV:=hgl.lenI
  by_cases hz:r k=0
  ·rw[if_pos hz]at X
   simp(maxDischargeDepth:=6) only[qA,jA,seval,gd,iN,Bh,K,U,D,F,I,V,O,Kz,iU,hk,PG,hw,TQ,Al,wg,hz]
   exact⟨hl,lS,p,Z,X⟩
  ·rw[if_neg hz]at X
   have hL:=fun fr lh D F I pH Dl h66 h67=>cd1 N H W a kT lW iQ lN hH hN hG (nx k) hg2 gT hgl h hh (r k) p.1 p.2 hg1 fr lh s D F I pH Dl h66 h67 Z
   simp(maxDischargeDepth:=6) only[qA,jA,seval,gd,iN,Bh,KN,K,U,D,F,I,V,O,Kz,iU,hk,PG,hw,TQ,Al,wg,hz,iW,lV,hL]
   exact⟨hl,fun j h1 h2=>((hL _ _ (by simp only[qA,seval,K,U,D,F,I,V,O,Kz]) (by simp only[qA,seval,K,U,D,F,I,V,O,Kz]) (by simp only[qA,seval,K,U,D,F,I,V,O,Kz]) (by simp only[qA,seval,K,U,D,F,I,V,O,Kz]) (by simp only[qA,seval,K,U,D,F,I,V,O,Kz]) (by simp only[qA,seval,K,U,D,F,I,V,O,Kz]) (by simp only[qA,seval,K,U,D,F,I,V,O,Kz])).2.2.2.2 j h1 h2).trans (lS j h1 h2),(_,_),(hL _ _ (by simp only[qA,seval,K,U,D,F,I,V,O,Kz]) (by simp only[qA,seval,K,U,D,F,I,V,O,Kz]) (by simp only[qA,seval,K,U,D,F,I,V,O,Kz]) (by simp only[qA,seval,K,U,D,F,I,V,O,Kz]) (by simp only[qA,seval,K,U,D,F,I,V,O,Kz]) (by simp only[qA,seval,K,U,D,F,I,V,O,Kz]) (by simp only[qA,seval,K,U,D,F,I,V,O,Kz])).2.2.1,X⟩
 ·rintro f _ s K ⟨Kz,rfl,hl,lS,p,Z,X⟩
  rw[List.drop_of_length_le (by simp),zh]at X
  subst X
  simp only[qA,seval,gd,Bh,K,O,Kz,Int.lt_irrefl]
  exact⟨Z,hl,lS⟩
def Cb(N H:Nat)(iQ:Nat→Bool)(nx:Nat→List Nat)(r:Nat→Nat→Int):List Nat→(Nat→Nat→Int)×Int→(Nat→Nat→Int)×Int
 | [],p=>p
 |h::l,p=>Cb N H iQ nx r l (zh H iQ nx h (r h) (List.range N) p)
theorem cd3(N H U a kT V X:Nat)(lW nT:T)(iQ:Nat→Bool)(nx:Nat→List Nat)(lN: ∀f,f<N→ ∃q,∀kk,ng lW (.i kk (f:Int)) 1=some (.vp (.b (iQ f)::q)))(mI: ∀f,f<N→ ∃gT q,(∀kk,ng nT (.i kk (f:Int)) 1=some (.vp (gT::q)))∧iJ gT (nx f).length (ints ((nx f).map Int.ofNat))∧(nx f).length≤1000∧ ∀g∈nx f,g<N)(hH:H≤6)(hN:N≤1000)(hG:Ge U a kT)(O n:Nat→Nat→Int)(t:Int)(W: ∀h,h<7→V+h≠kT∧(V+h<U∨U+7≤V+h))(Z:X≠kT∧(X<U∨U+7≤X))(fr:Fr)(lh:iL iy)(sh:List iy)(F:an fr 9=nT)(D:an fr 10= .ptr .S X 1 0)(r:an fr 12= .fn 42 [] [.ptr .S 1 1 0,.ptr .S kT 1 0,.ptr .S 0 1 0])(I:an fr 14= .ptr .S a 1 0)(JN:an fr 47= .i .i64 ((H+1:Nat):Int))(h48:an fr 48= .i .i64 0)(hb:iM sh X=⟨1,.cells (zf V N) 0 true⟩)(hr: ∀h,h<7→iM sh (V+h)=⟨1,.cells (kH N (O h)) 0 false⟩)(hC:Cc sh N H U a kT lW n t):
  Lp pE 82 Bi fr lh sh (.ext 4) fun f l s=>l=lh∧Cc s N H U a kT lW (Cb N H iQ nx O (List.range (H+1)) (n,t)).1 (Cb N H iQ nx O (List.range (H+1)) (n,t)).2∧s.length=sh.length∧ ∀k,k≠kT→(k<U∨U+7≤k)→iM s k=iM sh k:=by
 refine kO KP (fun k f l s=>an f 48= .i .i64 (k:Int)∧l=lh∧s.length=sh.length∧(∀k,k≠kT→(k<U∨U+7≤k)→iM s k=iM sh k)∧ ∃p:(Nat→Nat→Int)×Int,Cc s N H U a kT lW p.1 p.2∧Cb N H iQ nx O ((List.range (H+1)).drop k) p=Cb N H iQ nx O (List.range (H+1)) (n,t)) (H+1) ⟨h48,rfl,rfl,fun _ _ _=>rfl,(n,t),hC,rfl⟩ ?_ ?_
 ·rintro k f _ s hk K ⟨M8,rfl,hl,lS,p,hC,hp⟩
  have iU:(k:Int)<((H+1:Nat):Int):=by omega
  have hw:wr .i64 ((k:Int)+1)=((k+1:Nat):Int):=by rw[jE (by omega)];omega
  have Y:k<7:=by omega
  have k7':k+1≤7:=by omega
  have hbs:iM s X=⟨1,.cells (zf V N) 0 true⟩:=(lS _ Z.1 Z.2).trans hb
  have TQ:iM s (V+k)=⟨1,.cells (kH N (O k)) 0 false⟩:=(lS _ (W k Y).1 (W k Y).2).trans (hr k Y)
  have hg:=AX V N Y
  have hl7:(zf V N).length=7:=rfl
  rw[List.drop_eq_getElem_cons (by simpa using hk),List.getElem_range,Cb]at hp
  have hL:=fun fr lh F r I nj vD vU h55=>cd2 N H U a kT V lW nT iQ nx lN mI hH hN hG k (by omega) (O k) p.1 p.2 (W k Y) fr lh s F r I nj vD vU h55 TQ hC
  simp(maxDischargeDepth:=6) only[qA,jA,seval,gd,iN,lZ,Bi,KO,K,F,D,r,I,JN,M8,iU,hw,hbs,hg,hl7,Y,k7',hL]
  exact⟨hl,fun j h1 h2=>((hL _ _ (by simp only[qA,seval,K,F,D,r,I,JN,M8]) (by simp only[qA,seval,K,F,D,r,I,JN,M8]) (by simp only[qA,seval,K,F,D,r,I,JN,M8]) (by simp only[qA,seval,K,F,D,r,I,JN,M8]) (by simp only[qA,seval,K,F,D,r,I,JN,M8]) (by simp only[qA,seval,K,F,D,r,I,JN,M8]) (by simp only[qA,seval,K,F,D,r,I,JN,M8])).2.2.2.2 j h1 h2).trans (lS j h1 h2),(_,_),(hL _ _ (by simp only[qA,seval,K,F,D,r,I,JN,M8]) (by simp only[qA,seval,K,F,D,r,I,JN,M8]) (by simp only[qA,seval,K,F,D,r,I,JN,M8]) (by simp only[qA,seval,K,F,D,r,I,JN,M8]) (by simp only[qA,seval,K,F,D,r,I,JN,M8]) (by simp only[qA,seval,K,F,D,r,I,JN,M8]) (by simp only[qA,seval,K,F,D,r,I,JN,M8])).2.2.1,hp⟩
 ·rintro f _ s K ⟨M8,rfl,hl,lS,p,hC,hp⟩
  rw[List.drop_of_length_le (by simp),Cb]at hp
  subst hp
  simp only[qA,seval,gd,Bi,K,JN,M8,Int.lt_irrefl]
  exact⟨hC,hl,lS⟩
def F6(H:Nat)(iQ:Nat→Bool):List Nat→(Nat→Nat→Int)×Int→(Nat→Nat→Int)×Int
 | [],p=>p
 |f::l,p=>F6 H iQ l (zg H (iQ f) 0 f 1 p.1,F5 H (iQ f) 0 1 p.2)
theorem cd0(N H r a kT:Nat)(lW:T)(iQ:Nat→Bool)(lN: ∀f,f<N→ ∃q,∀kk,ng lW (.i kk (f:Int)) 1=some (.vp (.b (iQ f)::q)))(hH:H≤6)(hN:N≤1000)(hG:Ge r a kT)(n:Nat→Nat→Int)(t:Int)(fr:Fr)(lh:iL iy)(sh:List iy)(K:an fr 10= .ptr .S a 1 0)(O:an fr 12= .fn 42 [] [.ptr .S 1 1 0,.ptr .S kT 1 0,.ptr .S 0 1 0])(Jv:an fr 34= .i .i64 (N:Int))(U:an fr 35= .i .i64 0)(F:Cc sh N H r a kT lW n t):
  Lp pE 82 Bk fr lh sh (.ext 0) fun f l s=>l=lh∧Cc s N H r a kT lW (F6 H iQ (List.range N) (n,t)).1 (F6 H iQ (List.range N) (n,t)).2∧s.length=sh.length∧ ∀k,k≠kT→(k<r∨r+7≤k)→iM s k=iM sh k:=by
 refine kO KR (fun k f l s=>an f 35= .i .i64 (k:Int)∧l=lh∧s.length=sh.length∧(∀k,k≠kT→(k<r∨r+7≤k)→iM s k=iM sh k)∧ ∃p:(Nat→Nat→Int)×Int,Cc s N H r a kT lW p.1 p.2∧F6 H iQ ((List.range N).drop k) p=F6 H iQ (List.range N) (n,t)) N ⟨U,rfl,rfl,fun _ _ _=>rfl,(n,t),F,rfl⟩ ?_ ?_
 ·rintro k f _ s V W ⟨D,rfl,Z,X,p,F,I⟩
  have iU:(k:Int)<N:=by omega
  have hw:wr .i64 ((k:Int)+1)=((k+1:Nat):Int):=by rw[jE (by omega)];omega
  obtain⟨q,hq⟩:=lN k V
  obtain⟨s',Y,e2,e3,e4⟩:=aaz s N H r a kT lW (iQ k) q p.1 p.2 1 0 k (by omega) hH V hN hG F hq
  have Y:be pE 42 [.ptr .S a 1 0,.i .i64 0,.i .i64 (k:Int),.i .i64 1,.ptr .S 1 1 0,.ptr .S kT 1 0,.ptr .S 0 1 0] s=some (.tup [],s'):=Y
  rw[List.drop_eq_getElem_cons (by simpa using V),List.getElem_range,F6]at I
  simp(maxDischargeDepth:=6) only[qA,jA,seval,gd,Bk,W,K,O,Jv,D,iU,hw,Y,art]
  exact⟨by omega,fun k h1 h2=>(e4 k h1 h2).trans (X k h1 h2),(_,_),e2,I⟩
 ·rintro f _ s W ⟨D,rfl,Z,X,p,F,I⟩
  rw[List.drop_of_length_le (by simp),F6]at I
  subst I
  simp only[qA,seval,gd,Bk,W,Jv,D,Int.lt_irrefl]
  exact⟨F,Z,X⟩
end Go.Proofs.YtjniffjppoklpaaGreat
