/- Walks of functions of the program and of the reference, and their plain laws, part 15. Conditions: the theorems' own. -/
import Derived.Test.YtcpceiclnbmgiaaGreatM14
import Derived.KernelRfl
set_option linter.unusedVariables false
set_option maxRecDepth 100000
set_option linter.unusedSimpArgs false
set_option maxHeartbeats 16000000
namespace Go.Proofs.YtcpceiclnbmgiaaGreat
def Sm:Nat→(Nat→Nat)→Nat
 |0,_=>0
 |n+1,f=>Sm n f+f n
theorem jg{f g:Nat→Nat}: ∀{n:Nat},(∀i,i<n→f i=g i)→Sm n f=Sm n g
 |0,_=>rfl
 |n+1,h=>by rw[Sm,Sm,jg (fun i hi=>h i (by omega)),h n (by omega)]
theorem wS(f g:Nat→Nat): ∀n,Sm n (fun i=>f i+g i)=Sm n f+Sm n g
 |0=>rfl
 |n+1=>by simp only[Sm,wS f g n];omega
theorem Av(c:Nat)(f:Nat→Nat): ∀n,Sm n (fun i=>c*f i)=c*Sm n f
 |0=>rfl
 |n+1=>by simp only[Sm,Av c f n,Nat.mul_add]
theorem abY(c:Nat)(f:Nat→Nat)(n:Nat):Sm n (fun i=>f i*c)=Sm n f*c:=by
 rw[Nat.mul_comm,←Av];exact jg fun i _=>Nat.mul_comm _ _
theorem oZ: ∀n,Sm n (fun _=>0)=0
 |0=>rfl
 |n+1=>by rw[Sm,oZ n]
theorem B3(f:Nat→Nat→Nat)(m:Nat): ∀n,Sm n (fun i=>Sm m fun j=>f i j)=Sm m fun j=>Sm n fun i=>f i j
 |0=>by simp only[Sm,oZ]
 |n+1=>by simp only[Sm,B3 f m n];rw[←wS]
theorem yK(f:Nat→Nat): ∀n,Sm (n+1) f=f 0+Sm n fun i=>f (i+1)
 |0=>by simp[Sm]
 |n+1=>by rw[Sm,yK f n,Sm];omega
def cv(p q:Nat→Nat)(h:Nat):Nat:=Sm (h+1) fun i=>p i*q (h-i)
def sf(p:Nat→Nat):Nat→Nat
 |0=>0
 |h+1=>p h
theorem Xk(p q:Nat→Nat): ∀h,cv (sf p) q h=match h with|0=>0|h+1=>cv p q h
 |0=>by simp[cv,Sm,sf]
 |h+1=>by
  unfold cv
  rw[yK]
  simp only[sf,Nat.zero_mul,Nat.zero_add]
  exact jg fun i hi=>by rw[show h+1-(i+1)=h-i by omega]
theorem aiQ(p q:Nat→Nat): ∀h,cv p (sf q) h=match h with|0=>0|h+1=>cv p q h
 |0=>by simp[cv,Sm,sf]
 |h+1=>by
  unfold cv
  rw[Sm]
  simp only[Nat.sub_self,sf,Nat.mul_zero,Nat.add_zero]
  exact jg fun i hi=>by rw[show h+1-i=(h-i)+1 by omega]
theorem abZ(p q r:Nat→Nat)(h:Nat):cv (fun i=>p i+q i) r h=cv p r h+cv q r h:=by
 unfold cv;rw[←wS];exact jg fun i _=>Nat.add_mul _ _ _
theorem ab0(p q r:Nat→Nat)(h:Nat):cv p (fun i=>q i+r i) h=cv p q h+cv p r h:=by
 unfold cv;rw[←wS];exact jg fun i _=>Nat.mul_add _ _ _
theorem aiR(n:Nat)(p:Nat→Nat→Nat)(r:Nat→Nat)(h:Nat):cv (fun i=>Sm n fun f=>p f i) r h=Sm n fun f=>cv (p f) r h:=by
 unfold cv;rw[←B3];exact jg fun i _=>(abY _ _ _).symm
theorem aiS(n:Nat)(p:Nat→Nat)(r:Nat→Nat→Nat)(h:Nat):cv p (fun i=>Sm n fun f=>r f i) h=Sm n fun f=>cv p (r f) h:=by
 unfold cv;rw[←B3];exact jg fun i _=>(Av _ _ _).symm
theorem afc(c:Nat)(p q:Nat→Nat)(h:Nat):cv (fun i=>c*p i) q h=c*cv p q h:=by
 unfold cv;rw[←Av];exact jg fun i _=>Nat.mul_assoc _ _ _
theorem afd(c:Nat)(p q:Nat→Nat)(h:Nat):cv p (fun i=>c*q i) h=c*cv p q h:=by
 unfold cv;rw[←Av];exact jg fun i _=>by rw[Nat.mul_left_comm]
def uF:Nat→Nat
 |0=>1
 |_+1=>0
theorem aiT(p:Nat→Nat): ∀h,cv p uF h=p h:=by
 intro h
 unfold cv
 rw[Sm,Nat.sub_self,uF,Nat.mul_one]
 have:Sm h (fun i=>p i*uF (h-i))=0:=by
  rw[←oZ h]
  exact jg fun i hi=>by rw[show h-i=(h-i-1)+1 by omega,uF,Nat.mul_zero]
 omega
theorem O2(p:Nat→Nat)(h:Nat):cv uF p h=p h:=by
 unfold cv
 rw[yK,uF,Nat.one_mul,Nat.sub_zero]
 have:Sm h (fun i=>uF (i+1)*p (h-(i+1)))=0:=by
  rw[←oZ h]
  exact jg fun i _=>by rw[uF,Nat.zero_mul]
 omega
section
variable(N:Nat)(J:Nat→Nat→Bool)(il:Nat→Bool)
def oc(b:Bool):Nat:=if b then 1 else 0
def E4(g:Nat)(p:Nat→Nat)(h:Nat):Nat:=oc (il g)*p h+sf p h
def cA:Nat→Nat→Nat→Nat
 |0,_,_=>0
 |1,g,h=>E4 il g uF h
 |k+2,g,h=>E4 il g (fun h=>Sm N fun f=>oc (J f g)*cA (k+1) f h) h
def cB:Nat→Nat→Nat→Nat
 |0,_,_=>0
 |1,i,h=>E4 il i uF h
 |k+2,i,h=>E4 il i (fun h=>Sm N fun j=>oc (J i j)*cB (k+1) j h) h
def cC(k f h:Nat):Nat:=match k with|0=>uF h|k+1=>Sm N fun j=>oc (J f j)*cB N J il (k+1) j h
theorem afe(k i h:Nat):cB N J il (k+1) i h=E4 il i (fun h=>cC N J il k i h) h:=by
 cases k <;> rfl
theorem ab1(g:Nat)(p q:Nat→Nat)(h:Nat):cv p (fun h=>E4 il g q h) h=oc (il g)*cv p q h+cv p (sf q) h:=by
 unfold E4;rw[ab0,afd]
theorem O3(g:Nat)(p q:Nat→Nat)(h:Nat):cv (fun h=>E4 il g p h) q h=oc (il g)*cv p q h+cv (sf p) q h:=by
 unfold E4;rw[abZ,afc]
theorem ab2(m k h:Nat):(Sm N fun f=>cv (fun i=>cA N J il (m+1) f i) (fun i=>cC N J il (k+1) f i) h)=Sm N fun g=>cv (fun i=>cA N J il (m+2) g i) (fun i=>cC N J il k g i) h:=by
 have r:(Sm N fun f=>cv (fun i=>cA N J il (m+1) f i) (fun i=>cC N J il (k+1) f i) h)=Sm N fun g=>cv (fun i=>Sm N fun f=>oc (J f g)*cA N J il (m+1) f i) (fun i=>cB N J il (k+1) g i) h:=by
  have: ∀f,cv (fun i=>cA N J il (m+1) f i) (fun i=>cC N J il (k+1) f i) h=Sm N fun g=>oc (J f g)*cv (fun i=>cA N J il (m+1) f i) (fun i=>cB N J il (k+1) g i) h:=by
   intro f
   rw[show(fun i=>cC N J il (k+1) f i)=fun i=>Sm N fun j=>oc (J f j)*cB N J il (k+1) j i from rfl,aiS]
   exact jg fun g _=>afd _ _ _ _
  simp only[this]
  rw[B3]
  refine jg fun g _=> ?_
  rw[aiR]
  exact jg fun f _=>(afc _ _ _ _).symm
 rw[r]
 refine jg fun g _=> ?_
 rw[show(fun i=>cB N J il (k+1) g i)=fun i=>E4 il g (fun h=>cC N J il k g h) i from funext fun i=>afe N J il k g i,ab1,show(fun i=>cA N J il (m+2) g i)=fun i=>E4 il g (fun h=>Sm N fun f=>oc (J f g)*cA N J il (m+1) f h) i from rfl,O3,Xk,aiQ]
theorem cAB(k h:Nat):(Sm N fun g=>cA N J il (k+1) g h)=Sm N fun i=>cB N J il (k+1) i h:=by
 have r: ∀k m,(Sm N fun f=>cv (fun i=>cA N J il (m+1) f i) (fun i=>cC N J il k f i) h)=Sm N fun f=>cv (fun i=>cA N J il (m+k+1) f i) (fun i=>cC N J il 0 f i) h:=by
  intro k
  induction k with
  |zero=>intro m;rfl
  |succ k ih=>intro m;rw[ab2,ih (m+1),show m+1+k+1=m+(k+1)+1 by omega]
 have D:=r k 0
 rw[show 0+k+1=k+1 by omega]at D
 have F:(Sm N fun f=>cv (fun i=>cA N J il (k+1) f i) (fun i=>cC N J il 0 f i) h)=Sm N fun g=>cA N J il (k+1) g h:=jg fun f _=>aiT _ _
 have I:(Sm N fun f=>cv (fun i=>cA N J il 1 f i) (fun i=>cC N J il k f i) h)=Sm N fun i=>cB N J il (k+1) i h:=jg fun f _=>by
  rw[show(fun i=>cA N J il 1 f i)=fun i=>E4 il f uF i from rfl,O3,O2,Xk,afe]
  unfold E4
  cases h with
  |zero=>rfl
  |succ h=>simp only[sf,O2]
 rw[←F,←D]
 exact I
end
section
variable(N H:Nat)(J:Nat→Nat→Bool)(il:Nat→Bool)
def DQ(h g w:Nat)(n:Nat→Nat→Nat):Nat→Nat→Nat:=fun i r=>n i r+(if r=g then(if i=h then oc (il r)*w else 0)+(if i=h+1∧h<H then w else 0)else 0)
def E5(h g w:Nat):Nat:=oc (il g)*w+(if h<H then w else 0)
def p5(f:Nat):List Nat:=(List.range N).filter fun g=>J f g
def Zh(h w:Nat):List Nat→(Nat→Nat→Nat)→Nat→Nat→Nat
 | [],n=>n
 |g::l,n=>Zh h w l (DQ H il h g w n)
def rnF(i:Nat→Nat→Nat)(h:Nat):Nat→(Nat→Nat→Nat)→Nat→Nat→Nat
 |0,n=>n
 |k+1,n=>Zh H il h (i h k) (p5 N J k) (rnF i h k n)
def Xl(i:Nat→Nat→Nat):Nat→Nat→Nat→Nat
 |0=>fun _ _=>0
 |k+1=>rnF N H J il i k N (Xl i k)
theorem MI(h w:Nat): ∀(l:List Nat) (n:Nat→Nat→Nat) (r i:Nat),Zh H il h w l n r i=n r i+l.count i*((if r=h then oc (il i)*w else 0)+(if r=h+1∧h<H then w else 0))
 | [],n,r,i=>by simp[Zh]
 |g::l,n,r,i=>by
  rw[Zh,MI h w l,DQ,List.count_cons]
  by_cases e:i=g
  ·subst e
   simp only[if_true,BEq.rfl,Nat.add_mul,Nat.one_mul]
   omega
  ·have D:(g==i)=false:=by simpa using fun h=>e h.symm
   simp only[if_neg e,D,Bool.false_eq_true,if_false,Nat.add_zero]
theorem Aw{g:Nat}: ∀{n:Nat},g<n→(List.range n).count g=1
 |n+1,h=>by
  rw[List.range_succ,List.count_append]
  by_cases e:g=n
  ·subst e
   rw[List.count_eq_zero_of_not_mem (by simp)]
   simp
  ·rw[Aw (n:=n) (by omega),List.count_cons]
   simp
   exact fun h=>e h.symm
theorem RH(f g:Nat)(i:g<N):(p5 N J f).count g=oc (J f g):=by
 unfold p5 oc
 by_cases h:J f g=true
 ·rw[List.count_filter h,if_pos h]
  exact Aw i
 ·rw[if_neg h]
  exact List.count_eq_zero_of_not_mem fun r=>h (List.mem_filter.1 r).2
theorem Xm(i:Nat→Nat→Nat)(h:Nat): ∀(k:Nat) (n:Nat→Nat→Nat) (D r:Nat),r<N→rnF N H J il i h k n D r=n D r+Sm k fun f=>oc (J f r)*((if D=h then oc (il r)*i h f else 0)+(if D=h+1∧h<H then i h f else 0))
 |0,n,D,r,_=>rfl
 |k+1,n,D,r,F=>by
  rw[rnF,MI,Xm i h k n D r F,RH N J k r F,Sm]
  omega
theorem Xn(i:Nat→Nat→Nat): ∀(k:Nat) (D r:Nat),k≤H+1→r<N→Xl N H J il i k D r=Sm k fun h=>Sm N fun f=>oc (J f r)*((if D=h then oc (il r)*i h f else 0)+(if D=h+1∧h<H then i h f else 0))
 |0,D,r,_,_=>rfl
 |k+1,D,r,hk,F=>by
  rw[Xl,Xm N H J il i k N _ D r F,Xn i k D r (by omega) F,Sm]
theorem vn(f:Nat→Nat)(j:Nat): ∀n,Sm n (fun i=>if i=j then f i else 0)=if j<n then f j else 0
 |0=>rfl
 |n+1=>by
  rw[Sm,vn f j n]
  by_cases h:n=j
  ·subst h;simp
  ·rw[if_neg h]
   by_cases r:j<n
   ·rw[if_pos r,if_pos (by omega)];omega
   ·rw[if_neg r,if_neg (by omega)]
theorem Xo(i:Nat→Nat→Nat)(r D:Nat)(U:r≤H)(O:D<N):Xl N H J il i (H+1) r D=E4 il D (fun h=>Sm N fun f=>oc (J f D)*i h f) r:=by
 rw[Xn N H J il i (H+1) r D (Nat.le_refl _) O]
 have e:(Sm (H+1) fun h=>Sm N fun f=>oc (J f D)*((if r=h then oc (il D)*i h f else 0)+(if r=h+1∧h<H then i h f else 0)))=
   (Sm (H+1) fun h=>if h=r then oc (il D)*Sm N (fun f=>oc (J f D)*i h f)else 0)+Sm (H+1) fun h=>if h+1=r then(if h<H then Sm N (fun f=>oc (J f D)*i h f)else 0)else 0:=by
  rw[←wS]
  refine jg fun h _=> ?_
  by_cases I:h=r
  ·subst I
   have F: ¬h=h+1:=by omega
   simp only[if_true,F,false_and,if_false,Nat.add_zero,show¬h+1=h by omega]
   rw[←Av]
   exact jg fun f _=>Nat.mul_left_comm _ _ _
  ·have GO: ¬r=h:=fun e=>I e.symm
   simp only[if_neg I,if_neg GO,Nat.zero_add]
   by_cases F:h+1=r
   ·have NU:r=h+1:=F.symm
    by_cases K:h<H
    ·simp only[NU,K,and_self,if_true]
    ·simp only[NU,K,and_false,if_false,if_true,Nat.mul_zero,oZ]
   ·have NU: ¬r=h+1:=fun e=>F e.symm
    simp only[if_neg F,NU,false_and,if_false,Nat.mul_zero,oZ]
 rw[e,vn,if_pos (by omega)]
 unfold E4
 congr 1
 cases r with
 |zero=>
  exact(jg (g:=fun _=>0) fun h _=>if_neg (Nat.succ_ne_zero h)).trans (oZ _)
 |succ m=>
  rw[sf]
  have:(Sm (H+1) fun h=>if h+1=m+1 then(if h<H then Sm N (fun f=>oc (J f D)*i h f)else 0)else 0)=Sm (H+1) fun h=>if h=m then(if h<H then Sm N (fun f=>oc (J f D)*i h f)else 0)else 0:=jg fun h _=>by
   by_cases e:h=m
   ·rw[if_pos e,if_pos (by omega)]
   ·rw[if_neg e,if_neg (by omega)]
  rw[this,vn,if_pos (by omega),if_pos (by omega)]
def Lt(n:Nat→Nat→Nat):Nat:=Sm (H+1) fun h=>Sm N fun g=>n h g
theorem ab3(h g w:Nat)(n:Nat→Nat→Nat)(I:h≤H)(F:g<N):Lt N H (DQ H il h g w n)=Lt N H n+E5 H il h g w:=by
 unfold Lt DQ
 simp only[wS]
 congr 1
 have e: ∀i,(Sm N fun r=>if r=g then(if i=h then oc (il r)*w else 0)+(if i=h+1∧h<H then w else 0)else 0)=(if i=h then oc (il g)*w else 0)+(if i=h+1∧h<H then w else 0):=fun i=>by
  rw[vn (fun r=>(if i=h then oc (il r)*w else 0)+(if i=h+1∧h<H then w else 0)),if_pos F]
 simp only[e,wS]
 unfold E5
 congr 1
 ·rw[vn (fun _=>oc (il g)*w),if_pos (by omega)]
 ·by_cases D:h<H
  ·simp only[D,and_true,if_true]
   rw[vn (fun _=>w),if_pos (by omega)]
  ·simp only[D,and_false,if_false,oZ]
def tnG(h w:Nat):List Nat→Nat→Nat
 | [],t=>t
 |g::l,t=>tnG h w l (t+E5 H il h g w)
def tnF(i:Nat→Nat→Nat)(h:Nat):Nat→Nat→Nat
 |0,t=>t
 |k+1,t=>tnG H il h (i h k) (p5 N J k) (tnF i h k t)
def tnH(i:Nat→Nat→Nat):Nat→Nat→Nat
 |0,t=>t
 |k+1,t=>tnF N H J il i k N (tnH i k t)
theorem MJ(h w:Nat)(i:h≤H): ∀(l:List Nat) (n:Nat→Nat→Nat) (t:Nat),(∀g∈l,g<N)→tnG H il h w l t+Lt N H n=t+Lt N H (Zh H il h w l n)
 | [],n,t,_=>rfl
 |g::l,n,t,r=>by
  have:=MJ h w i l (DQ H il h g w n) (t+E5 H il h g w) fun x hx=>r x (List.mem_cons_of_mem _ hx)
  rw[ab3 N H il h g w n i (r g List.mem_cons_self)]at this
  rw[tnG,Zh]
  omega
theorem Xp(i:Nat→Nat→Nat)(h:Nat)(r:h≤H)(n:Nat→Nat→Nat)(t:Nat): ∀k,tnF N H J il i h k t+Lt N H n=t+Lt N H (rnF N H J il i h k n)
 |0=>rfl
 |k+1=>by
  have F:=Xp i h r n t k
  have I:=MJ N H il h (i h k) r (p5 N J k) (rnF N H J il i h k n) (tnF N H J il i h k t) fun g D=>List.mem_range.1 (List.mem_filter.1 D).1
  rw[tnF,rnF]
  omega
theorem Xq(i:Nat→Nat→Nat)(t:Nat): ∀k,k≤H+1→tnH N H J il i k t=t+Lt N H (Xl N H J il i k)
 |0,_=>by
  rw[tnH,Xl]
  unfold Lt
  simp only[oZ,Nat.add_zero]
 |k+1,hk=>by
  have r:=Xq i t k (by omega)
  have D:=Xp N H J il i k (by omega) (Xl N H J il i k) (tnH N H J il i k t) N
  rw[tnH,Xl]
  omega
end
end Go.Proofs.YtcpceiclnbmgiaaGreat
namespace Go.Ev
open Go
section
variable{E:Env}{call:pw}{n:Nat}{fr:Fr}{lh:gW b8}{sh:List b8}{os:List dy}{d:Nat}
theorem qE{sh:List b8}{v:b8}:iu sh sh.length v=sh++ [v]:=by
 induction sh with
 |nil=>rfl
 |cons e l ih=>rw[List.length_cons,sr,ih];rfl
theorem ab4{sh:List b8}{v:b8}{k:Nat}(h:k=sh.length):iu sh k v=sh++ [v]:=by rw[h];exact qE
end
end Go.Ev
namespace Go.Proofs.YtcpceiclnbmgiaaGreat
open Go Go.Ev
theorem aiV(n:Nat)(h:n≤1000)(sh:List b8):be pE 95 [.i .i64 (n:Int)] sh=some (.agg [.isl .S sh.length 1 0 n 1,.isl .S (sh.length+1) 1 0 n 1,.isl .S (sh.length+2) 1 0 n 1,.isl .S (sh.length+3) 1 0 n 1,.isl .S (sh.length+4) 1 0 n 1,.isl .S (sh.length+5) 1 0 n 1,.isl .S (sh.length+6) 1 0 n 1],sh++List.replicate 7 ⟨1,.cells (repl [.i .i64 0] n) 0 false⟩):=by
 have r:n*8≤roomy:=by unfold roomy;omega
 have D:n≤roomy:=by unfold roomy;omega
 rw[gQ apv (by simp[c95])]
 generalize F:repl [T.i .i64 0] n=R
 simp(maxDischargeDepth:=6) only[qA,iY,seval,kS,BM,c95,S0,OR,r,D,List.append_assoc,List.cons_append,List.nil_append,Option.bind_some,ab4,List.replicate,List.length_append,List.length_cons,List.length_nil,F,Nat.add_assoc]
 rfl
theorem tC{α:Type}(v:α): ∀(cs:List α) (i:Nat),i<cs.length→splice cs i [v]=cs.set i v
 |c::cs,0,_=>by simp[splice]
 |c::cs,i+1,h=>by simp[splice,tC v cs i (by simpa using h)]
def inB(N:Nat)(l:List Int):List Bool:=(List.range N).map fun(i:Nat)=>decide ((i:Int)∈l)
def xf(l:List Bool):List T:=l.map T.b
theorem yL(N:Nat)(l:List Int):(xf (inB N l)).length=N:=by simp[xf,inB]
theorem ab5(N:Nat):xf (inB N [])=List.replicate N (.b false):=by
 simp only[xf,inB,List.map_map]
 exact List.eq_replicate_iff.2 ⟨by simp,fun b r=>by
  obtain⟨i,_,rfl⟩:=List.mem_map.1 r
  simp⟩
theorem Xr(N:Nat)(l:List Int)(x:Int)(r:0≤x)(D:x<N):splice (xf (inB N l)) x.toNat [.b true]=xf (inB N (l++ [x])):=by
 rw[tC _ _ _ (by rw[yL];omega)]
 refine List.ext_getElem (by simp[xf,inB]) fun i F I=> ?_
 rw[List.getElem_set]
 simp only[xf,inB,List.getElem_map,List.getElem_range,List.mem_append,List.mem_singleton]
 by_cases e:x.toNat=i
 ·rw[if_pos e]
  have:(i:Int)=x:=by omega
  simp[this]
 ·rw[if_neg e]
  have: ¬(i:Int)=x:=by omega
  simp[this]
theorem ayL(N:Nat)(hN:N≤1000)(ops:List Int)(O:T)(V:IsSl O ops.length (ints ops))(hl:ops.length≤1000)(W: ∀x∈ops,0≤x∧x<(N:Int))(G:Nat)(fr:Fr)(lh:gW b8)(sh:List b8)(X:an fr 5= .isl .L 14 G 0 N 1)(Y:an fr 15=O)(U:an fr 16= .i .i64 (ops.length:Int))(Z:an fr 17= .i .i64 0)(r:b7 lh 14=⟨G,.cells (xf (inB N [])) 0 false⟩):
  Lp pE 26 Cy fr lh sh (.ext 0) fun f l s=>s=sh∧b7 l 14=⟨G,.cells (xf (inB N ops)) 0 false⟩:=by
 refine kK IM (fun k f l s=>an f 17= .i .i64 (k:Int)∧s=sh∧b7 l 14=⟨G,.cells (xf (inB N (ops.take k))) 0 false⟩) ops.length ⟨Z,rfl,r⟩ ?_ ?_
 ·rintro k f l _ hk F ⟨D,rfl,r⟩
  have iP:(k:Int)<ops.length:=by omega
  have hw:wr .i64 ((k:Int)+1)=((k+1:Nat):Int):=by rw[jj (by omega)];omega
  have I:=fun kk=>V.ia (sz:=1) (k:=k) (kk:=kk) (by rw[kH];omega) hk
  simp only[Nat.mul_one]at I
  have hd:(ints ops).drop k= .i .i64 ops[k]::(ints ops).drop (k+1):=by
   simp only[ints]
   rw[List.drop_eq_getElem_cons (by simpa using hk)]
   simp
  rw[hd]at I
  obtain⟨x0,xN⟩:=W ops[k] (List.getElem_mem hk)
  have E6:=Xr N (ops.take k) ops[k] x0 xN
  rw[←List.take_succ_eq_append_getElem hk]at E6
  have vV:=yL N (ops.take k)
  generalize ops[k]=x at*
  have xn:x.toNat<N:=by omega
  have K:x.toNat+1≤N:=by omega
  simp(maxDischargeDepth:=6) only[qA,seval,gd,Cy,F,X,Y,U,D,r,iP,hw,I,x0,xn,K,vV,E6]
 ·rintro f l _ F ⟨D,rfl,r⟩
  rw[List.take_length]at r
  simp only[qA,seval,gd,Cy,F,U,D,r,Int.lt_irrefl]
theorem DR(Y Z K:T)(r:List T)(N:Nat)(D:lenI K=some (.i .i64 (N:Int)))(O:N≤1000)(ops:List Int)(I:T)(U:IsSl I ops.length (ints ops))(hl:ops.length≤1000)(V: ∀x∈ops,0≤x∧x<(N:Int)):
  be pE 56 [.vp (Y::Z::K::r),I] []=some (.sl (xf (inB N ops)) N false,[]):=by
 have W:=fun fr lh sh=>ayL N O ops I U hl V 1 fr lh sh
 have X:N*1≤roomy:=by unfold roomy;omega
 have F:N≤roomy:=by unfold roomy;omega
 have m9:=U.lenI
 have SF:repl [T.b false] N=xf (inB N []):=by
  rw[ab5]
  clear W D O V X F
  induction N with
  |zero=>rfl
  |succ n ih=>rw[repl,ih,List.replicate_succ];rfl
 have vV:=yL N ops
 have O4:(xf (inB N ops)).take N=xf (inB N ops):=List.take_of_length_le (by omega)
 rw[gQ ZB (by simp[c56])]
 simp(maxDischargeDepth:=6) only[qA,EW,seval,c56,IM,D,m9,SF,X,F,W,vV,O4]
def m8(N:Nat)(r:Nat→Int):List T:=(List.range N).map fun(g:Nat)=>T.i .i64 (r g)
def wT(i N:Nat):List T:= [.isl .S i 1 0 N 1,.isl .S (i+1) 1 0 N 1,.isl .S (i+2) 1 0 N 1,.isl .S (i+3) 1 0 N 1,.isl .S (i+4) 1 0 N 1,.isl .S (i+5) 1 0 N 1,.isl .S (i+6) 1 0 N 1]
theorem yM(i N:Nat){h:Nat}(r:h<7):(wT i N)[h]? =some (.isl .S (i+h) 1 0 N 1):=by
 have:h=0∨h=1∨h=2∨h=3∨h=4∨h=5∨h=6:=by omega
 rcases this with rfl|rfl|rfl|rfl|rfl|rfl|rfl <;> rfl
theorem uG(N:Nat)(r:Nat→Int){f:Nat}(D:f<N):(m8 N r)[f]? =some (.i .i64 (r f)):=by
 unfold m8;rw[List.getElem?_map,List.getElem?_range D];rfl
theorem sD(N:Nat)(r:Nat→Int):(m8 N r).length=N:=by simp[m8]
theorem yN(N:Nat)(r:Nat→Int)(f:Nat)(v:Int)(D:f<N):splice (m8 N r) f [.i .i64 v]=m8 N fun g=>if g=f then v else r g:=by
 rw[tC _ _ _ (by rw[sD];exact D)]
 refine List.ext_getElem (by simp[m8]) fun i F I=> ?_
 rw[List.getElem_set]
 simp only[m8,List.getElem_map,List.getElem_range]
 by_cases e:f=i
 ·subst e;simp
 ·rw[if_neg e,if_neg (fun h=>e h.symm)]
theorem ayN(sh:List b8)(N H r a kT:Nat)(lp:T)(b:Bool)(q:List T)(n:Nat→Nat→Int)(t w:Int)(h f:Nat)(W:h≤H)(X:H≤6)(Y:f<N)
  (D:gY sh 0=⟨1,.cells [.i .i64 (H:Int)] 0 true⟩) (F:gY sh 1=⟨1,.cells [lp] 0 true⟩) (I:gY sh a=⟨1,.cells (wT r N) 0 true⟩) (K:gY sh kT=⟨1,.cells [.i .i64 t] 0 true⟩) (Z:gY sh (r+h)=⟨1,.cells (m8 N (n h)) 0 false⟩)
  (O: ∀kk,lH lp (.i kk (f:Int)) 1=some (.vp (.b b::q))) (U:b=false) (V: ¬(h:Int)<(H:Int)):
  be pE 96 [.ptr .S a 1 0,.i .i64 (h:Int),.i .i64 (f:Int),.i .i64 w,.ptr .S 1 1 0,.ptr .S kT 1 0,.ptr .S 0 1 0] sh=some (.tup [],sh):=by
 subst U
 rw[gQ TN (by simp[c96])]
 simp(maxDischargeDepth:=6) only[qA,iY,seval,ig,kS,c96,D,F,I,K,O,V]
 rfl
theorem kN(R:List b8)(i j:Nat)(e:b8):gY (iu R i e) j=if j=i then e else gY R j:=rS _ _ _ _ _
theorem ayO(sh:List b8)(N H r a kT:Nat)(lp:T)(b:Bool)(q:List T)(n:Nat→Nat→Int)(t w:Int)(h f:Nat)(hh:h≤H)(hH:H≤6)(D:f<N)(hN:N≤1000)
  (K:gY sh 0=⟨1,.cells [.i .i64 (H:Int)] 0 true⟩) (O:gY sh 1=⟨1,.cells [lp] 0 true⟩) (U:gY sh a=⟨1,.cells (wT r N) 0 true⟩) (V:gY sh kT=⟨1,.cells [.i .i64 t] 0 true⟩) (W:gY sh (r+h)=⟨1,.cells (m8 N (n h)) 0 false⟩)
  (X: ∀kk,lH lp (.i kk (f:Int)) 1=some (.vp (.b b::q))) (Y:b=true) (Z: ¬(h:Int)<(H:Int)) (d1:kT≠r+h) (d2:a≠r+h) (d3:1≠r+h) (d4:0≠r+h) (d5:0≠kT):
  be pE 96 [.ptr .S a 1 0,.i .i64 (h:Int),.i .i64 (f:Int),.i .i64 w,.ptr .S 1 1 0,.ptr .S kT 1 0,.ptr .S 0 1 0] sh=some (.tup [],iu (iu sh (r+h) ⟨1,.cells (m8 N fun g=>if g=f then wr .i64 (n h f+w)else n h g) 0 false⟩) kT ⟨1,.cells [.i .i64 (wr .i64 (t+w))] 0 true⟩):=by
 subst Y
 have hg:=yM r N (h:=h) (by omega)
 have hr:=uG N (n h) D
 have hs:=yN N (n h) f (wr .i64 (n h f+w)) D
 have hl:=sD N (n h)
 have F:(wT r N).length=7:=rfl
 have h7:h<7:=by omega
 have I:h+1≤7:=by omega
 have Bx:f+1≤N:=by omega
 rw[gQ TN (by simp[c96])]
 simp(maxDischargeDepth:=6) only[qA,iY,seval,ig,kS,c96,kN,K,O,U,V,W,X,Z,hg,hr,hs,hl,F,h7,I,D,Bx,d1,d2,d3,d4,d5]
 rfl
theorem ayP(sh:List b8)(N H r a kT:Nat)(lp:T)(b:Bool)(q:List T)(n:Nat→Nat→Int)(t w:Int)(h f:Nat)(hh:h<H)(hH:H≤6)(D:f<N)(hN:N≤1000)
  (K:gY sh 0=⟨1,.cells [.i .i64 (H:Int)] 0 true⟩) (O:gY sh 1=⟨1,.cells [lp] 0 true⟩) (U:gY sh a=⟨1,.cells (wT r N) 0 true⟩) (V:gY sh kT=⟨1,.cells [.i .i64 t] 0 true⟩) (W:gY sh (r+(h+1))=⟨1,.cells (m8 N (n (h+1))) 0 false⟩)
  (X: ∀kk,lH lp (.i kk (f:Int)) 1=some (.vp (.b b::q))) (Y:b=false) (Z:kT≠r+(h+1)) (d2:a≠r+(h+1)) (d3:1≠r+(h+1)) (d4:0≠r+(h+1)) (d5:0≠kT):
  be pE 96 [.ptr .S a 1 0,.i .i64 (h:Int),.i .i64 (f:Int),.i .i64 w,.ptr .S 1 1 0,.ptr .S kT 1 0,.ptr .S 0 1 0] sh=some (.tup [],iu (iu sh (r+(h+1)) ⟨1,.cells (m8 N fun g=>if g=f then wr .i64 (n (h+1) f+w)else n (h+1) g) 0 false⟩) kT ⟨1,.cells [.i .i64 (wr .i64 (t+w))] 0 true⟩):=by
 subst Y
 have hg:=yM r N (h:=h+1) (by omega)
 have hr:=uG N (n (h+1)) D
 have hs:=yN N (n (h+1)) f (wr .i64 (n (h+1) f+w)) D
 have hl:=sD N (n (h+1))
 have F:(wT r N).length=7:=rfl
 have hw:wr .i64 ((h:Int)+1)=((h+1:Nat):Int):=by rw[jj (by omega)];omega
 have h7:h+1<7:=by omega
 have I:h+1+1≤7:=by omega
 have Bx:f+1≤N:=by omega
 have oa:(h:Int)<(H:Int):=by omega
 generalize h+1=m at*
 rw[gQ TN (by simp[c96])]
 simp(maxDischargeDepth:=6) only[qA,iY,seval,ig,kS,c96,kN,K,O,U,V,W,X,oa,hg,hr,hs,hl,F,h7,I,hw,D,Bx,Z,d2,d3,d4,d5]
 rfl
theorem ayQ(sh:List b8)(N H r a kT:Nat)(lp:T)(b:Bool)(q:List T)(n:Nat→Nat→Int)(t w:Int)(h f:Nat)(hh:h<H)(hH:H≤6)(D:f<N)(hN:N≤1000)
  (Y:gY sh 0=⟨1,.cells [.i .i64 (H:Int)] 0 true⟩) (Z:gY sh 1=⟨1,.cells [lp] 0 true⟩) (gA:gY sh a=⟨1,.cells (wT r N) 0 true⟩) (gT:gY sh kT=⟨1,.cells [.i .i64 t] 0 true⟩) (gR:gY sh (r+h)=⟨1,.cells (m8 N (n h)) 0 false⟩) (gS:gY sh (r+(h+1))=⟨1,.cells (m8 N (n (h+1))) 0 false⟩)
  (mj: ∀kk,lH lp (.i kk (f:Int)) 1=some (.vp (.b b::q))) (hb:b=true) (c1:kT≠r+h) (c2:a≠r+h) (c3:1≠r+h) (c4:0≠r+h) (X:kT≠r+(h+1)) (d2:a≠r+(h+1)) (d3:1≠r+(h+1)) (d4:0≠r+(h+1)) (d5:0≠kT) (d6:a≠kT) (d7:1≠kT):
  be pE 96 [.ptr .S a 1 0,.i .i64 (h:Int),.i .i64 (f:Int),.i .i64 w,.ptr .S 1 1 0,.ptr .S kT 1 0,.ptr .S 0 1 0] sh=some (.tup [],iu (iu (iu (iu sh (r+h) ⟨1,.cells (m8 N fun g=>if g=f then wr .i64 (n h f+w)else n h g) 0 false⟩) kT ⟨1,.cells [.i .i64 (wr .i64 (t+w))] 0 true⟩) (r+(h+1)) ⟨1,.cells (m8 N fun g=>if g=f then wr .i64 (n (h+1) f+w)else n (h+1) g) 0 false⟩) kT ⟨1,.cells [.i .i64 (wr .i64 (wr .i64 (t+w)+w))] 0 true⟩):=by
 subst hb
 have hg:=yM r N (h:=h+1) (by omega)
 have hr:=uG N (n (h+1)) D
 have hs:=yN N (n (h+1)) f (wr .i64 (n (h+1) f+w)) D
 have hl:=sD N (n (h+1))
 have F:=yM r N (h:=h) (by omega)
 have I:=uG N (n h) D
 have K:=yN N (n h) f (wr .i64 (n h f+w)) D
 have AU:=sD N (n h)
 have O:(wT r N).length=7:=rfl
 have hw:wr .i64 ((h:Int)+1)=((h+1:Nat):Int):=by rw[jj (by omega)];omega
 have e7:h<7:=by omega
 have U:h+1≤7:=by omega
 have h7:h+1<7:=by omega
 have V:h+1+1≤7:=by omega
 have Bx:f+1≤N:=by omega
 have oa:(h:Int)<(H:Int):=by omega
 have d8:r+(h+1)≠r+h:=by omega
 have W:=Ne.symm X
 generalize h+1=m at*
 rw[gQ TN (by simp[c96])]
 simp(maxDischargeDepth:=6) only[qA,iY,seval,ig,kS,Go.Proofs.YtcpceiclnbmgiaaGreat.c96,kN,Y,Z,gA,gT,gR,gS,mj,oa,hg,hr,hs,hl,F,I,K,AU,O,h7,V,e7,U,hw,D,Bx,c1,c2,c3,c4,X,W,d2,d3,d4,d5,d6,d7,d8]
 rfl
structure Cc (sh:List b8) (N H rb a kT:Nat) (lp:T) (n:Nat→Nat→Int) (t:Int):Prop where
 g0:gY sh 0=⟨1,.cells [.i .i64 (H:Int)] 0 true⟩
 g1:gY sh 1=⟨1,.cells [lp] 0 true⟩
 gA:gY sh a=⟨1,.cells (wT rb N) 0 true⟩
 gT:gY sh kT=⟨1,.cells [.i .i64 t] 0 true⟩
 gR: ∀i,i<7→gY sh (rb+i)=⟨1,.cells (m8 N (n i)) 0 false⟩
 b:rb+7≤sh.length∧kT<sh.length
def Ge(i a kT:Nat):Prop:=2≤i∧(a<i∨i+7≤a)∧(kT<i∨i+7≤kT)∧a≠kT∧2≤a∧2≤kT
def wU(H:Nat)(b:Bool)(h f:Nat)(w:Int)(n:Nat→Nat→Int):Nat→Nat→Int:=fun i g=>if g=f∧((i=h∧b=true)∨(i=h+1∧h<H))then wr .i64 (n i g+w)else n i g
def DS(H:Nat)(b:Bool)(h:Nat)(w t:Int):Int:=if h<H then wr .i64 ((if b=true then wr .i64 (t+w)else t)+w)else if b=true then wr .i64 (t+w)else t
theorem nn{N:Nat}{r s:Nat→Int}(h: ∀g,r g=s g):m8 N r=m8 N s:=by rw[show r=s from funext h]
theorem Xs(sh:List b8)(N H r a kT:Nat)(lp:T)(b:Bool)(q:List T)(n:Nat→Nat→Int)(t w:Int)(h f:Nat)(hh:h≤H)(Z:H≤6)(hf:f<N)(hN:N≤1000)(hG:Ge r a kT)(hC:Cc sh N H r a kT lp n t)(mj: ∀kk,lH lp (.i kk (f:Int)) 1=some (.vp (.b b::q))):
  ∃iE,be pE 96 [.ptr .S a 1 0,.i .i64 (h:Int),.i .i64 (f:Int),.i .i64 w,.ptr .S 1 1 0,.ptr .S kT 1 0,.ptr .S 0 1 0] sh=some (.tup [],iE)∧Cc iE N H r a kT lp (wU H b h f w n) (DS H b h w t)∧iE.length=sh.length∧ ∀k,k≠kT→(k<r∨r+7≤k)→gY iE k=gY sh k:=by
 obtain⟨F,I,K,X,D,b1,b2⟩:=hC
 obtain⟨U,W,Y,e4,e5,e6⟩:=hG
 have Ik: ∀(R:List b8) (k:Nat) (e:b8),k<R.length→(iu R k e).length=R.length:=fun R k e h=>jz R k e h
 by_cases O:h<H
 ·cases b with
  |false=>
   refine⟨_,ayP sh N H r a kT lp false q n t w h f O Z hf hN F I K X (D (h+1) (by omega)) mj rfl (by omega) (by omega) (by omega) (by omega) (by omega),⟨?_, ?_, ?_, ?_, ?_, ?_⟩, ?_, ?_⟩
   ·rw[kN,kN,if_neg (by omega),if_neg (by omega)];exact F
   ·rw[kN,kN,if_neg (by omega),if_neg (by omega)];exact I
   ·rw[kN,kN,if_neg (by omega),if_neg (by omega)];exact K
   ·rw[kN,if_pos rfl];unfold DS;rw[if_pos O,if_neg (by decide)]
   ·intro i hi
    rw[kN,kN,if_neg (by omega)]
    by_cases e:i=h+1
    ·subst e
     rw[if_pos rfl]
     refine congrArg (fun c=>b8.mk 1 (.cells c 0 false)) (nn fun g=> ?_)
     unfold wU
     by_cases V:g=f <;> simp[V,O]
    ·rw[if_neg (by omega),D i hi]
     refine congrArg (fun c=>b8.mk 1 (.cells c 0 false)) (nn fun g=> ?_)
     unfold wU
     rw[if_neg (by simp[e])]
   ·rw[Ik _ _ _ (by rw[Ik _ _ _ (by omega)];omega),Ik _ _ _ (by omega)];exact⟨b1,b2⟩
   ·rw[Ik _ _ _ (by rw[Ik _ _ _ (by omega)];omega),Ik _ _ _ (by omega)]
   ·intro k k1 k2;rw[kN,kN,if_neg (by omega),if_neg (by omega)]
  |true=>
   have RI: ∀(U W Y e4:b8),(iu (iu (iu (iu sh (r+h) U) kT W) (r+(h+1)) Y) kT e4).length=sh.length:=fun U W Y e4=>by
    have q1:=Ik sh (r+h) U (by omega)
    have q2:=Ik (iu sh (r+h) U) kT W (by omega)
    have q3:=Ik (iu (iu sh (r+h) U) kT W) (r+(h+1)) Y (by omega)
    have q4:=Ik (iu (iu (iu sh (r+h) U) kT W) (r+(h+1)) Y) kT e4 (by omega)
    omega
   refine⟨_,ayQ sh N H r a kT lp true q n t w h f O Z hf hN F I K X (D h (by omega)) (D (h+1) (by omega)) mj rfl (by omega) (by omega) (by omega) (by omega) (by omega) (by omega) (by omega) (by omega) (by omega) (by omega) (by omega),⟨?_, ?_, ?_, ?_, ?_, ?_⟩,RI _ _ _ _, ?_⟩
   ·rw[kN,kN,kN,kN,if_neg (by omega),if_neg (by omega),if_neg (by omega),if_neg (by omega)];exact F
   ·rw[kN,kN,kN,kN,if_neg (by omega),if_neg (by omega),if_neg (by omega),if_neg (by omega)];exact I
   ·rw[kN,kN,kN,kN,if_neg (by omega),if_neg (by omega),if_neg (by omega),if_neg (by omega)];exact K
   ·rw[kN,if_pos rfl];unfold DS;rw[if_pos O,if_pos rfl]
   ·intro i hi
    rw[kN,if_neg (by omega),kN]
    by_cases e:i=h+1
    ·subst e
     rw[if_pos rfl]
     refine congrArg (fun c=>b8.mk 1 (.cells c 0 false)) (nn fun g=> ?_)
     unfold wU
     by_cases V:g=f <;> simp[V,O]
    ·rw[if_neg (by omega),kN,if_neg (by omega),kN]
     by_cases e':i=h
     ·subst e'
      rw[if_pos rfl]
      refine congrArg (fun c=>b8.mk 1 (.cells c 0 false)) (nn fun g=> ?_)
      unfold wU
      by_cases V:g=f <;> simp[V]
     ·rw[if_neg (by omega),D i hi]
      refine congrArg (fun c=>b8.mk 1 (.cells c 0 false)) (nn fun g=> ?_)
      unfold wU
      rw[if_neg (by simp[e,e'])]
   ·rw[RI];exact⟨b1,b2⟩
   ·intro k k1 k2;rw[kN,kN,kN,kN,if_neg (by omega),if_neg (by omega),if_neg (by omega),if_neg (by omega)]
 ·cases b with
  |false=>
   refine⟨sh,ayN sh N H r a kT lp false q n t w h f hh Z hf F I K X (D h (by omega)) mj rfl (by omega), ?_,rfl,fun _ _ _=>rfl⟩
   have ez:wU H false h f w n=n:=funext fun h'=>funext fun g=>by unfold wU;rw[if_neg (by simp;omega)]
   have ey:DS H false h w t=t:=by unfold DS;rw[if_neg O,if_neg (by decide)]
   rw[ez,ey]
   exact⟨F,I,K,X,D,b1,b2⟩
  |true=>
   refine⟨_,ayO sh N H r a kT lp true q n t w h f hh Z hf hN F I K X (D h (by omega)) mj rfl (by omega) (by omega) (by omega) (by omega) (by omega) (by omega),⟨?_, ?_, ?_, ?_, ?_, ?_⟩, ?_, ?_⟩
   ·rw[kN,kN,if_neg (by omega),if_neg (by omega)];exact F
   ·rw[kN,kN,if_neg (by omega),if_neg (by omega)];exact I
   ·rw[kN,kN,if_neg (by omega),if_neg (by omega)];exact K
   ·rw[kN,if_pos rfl];unfold DS;rw[if_neg O,if_pos rfl]
   ·intro i hi
    rw[kN,kN,if_neg (by omega)]
    by_cases e:i=h
    ·subst e
     rw[if_pos rfl]
     refine congrArg (fun c=>b8.mk 1 (.cells c 0 false)) (nn fun g=> ?_)
     unfold wU
     by_cases V:g=f <;> simp[V]
    ·rw[if_neg (by omega),D i hi]
     refine congrArg (fun c=>b8.mk 1 (.cells c 0 false)) (nn fun g=> ?_)
     unfold wU
     rw[if_neg (by simp[e];omega)]
   ·rw[Ik _ _ _ (by rw[Ik _ _ _ (by omega)];omega),Ik _ _ _ (by omega)];exact⟨b1,b2⟩
   ·rw[Ik _ _ _ (by rw[Ik _ _ _ (by omega)];omega),Ik _ _ _ (by omega)]
   ·intro k k1 k2;rw[kN,kN,if_neg (by omega),if_neg (by omega)]
def BD(H:Nat)(il:Nat→Bool)(h:Nat)(w:Int):List Nat→(Nat→Nat→Int)×Int→(Nat→Nat→Int)×Int
 | [],p=>p
 |g::l,p=>BD H il h w l (wU H (il g) h g w p.1,DS H (il g) h w p.2)
theorem cd1(N H D a kT:Nat)(lp:T)(il:Nat→Bool)(mj: ∀f,f<N→ ∃q,∀kk,lH lp (.i kk (f:Int)) 1=some (.vp (.b (il f)::q)))(hH:H≤6)(hN:N≤1000)(hG:Ge D a kT)(r:List Nat)(V: ∀g∈r,g<N)(gT:T)(hg:IsSl gT r.length (ints (r.map Int.ofNat)))(h:Nat)(hh:h≤H)(w:Int)(n:Nat→Nat→Int)(t:Int)(hlen:r.length≤1000)(fr:Fr)(lh:gW b8)(sh:List b8)(W:an fr 12= .fn 96 [] [.ptr .S 1 1 0,.ptr .S kT 1 0,.ptr .S 0 1 0])(jw:an fr 14= .ptr .S a 1 0)(qK:an fr 15= .i .i64 (h:Int))(zl:an fr 17= .i .i64 w)(BE:an fr 65=gT)(I:an fr 66= .i .i64 (r.length:Int))(X:an fr 67= .i .i64 0)(K:Cc sh N H D a kT lp n t):
  Lp pE 82 Cx fr lh sh (.ext 8) fun f l s=>l=lh∧Cc s N H D a kT lp (BD H il h w r (n,t)).1 (BD H il h w r (n,t)).2∧s.length=sh.length∧ ∀k,k≠kT→(k<D∨D+7≤k)→gY s k=gY sh k:=by
 refine kK IG (fun k f l s=>an f 67= .i .i64 (k:Int)∧l=lh∧s.length=sh.length∧(∀k,k≠kT→(k<D∨D+7≤k)→gY s k=gY sh k)∧ ∃p:(Nat→Nat→Int)×Int,Cc s N H D a kT lp p.1 p.2∧BD H il h w (r.drop k) p=BD H il h w r (n,t)) r.length ⟨X,rfl,rfl,fun _ _ _=>rfl,(n,t),K,rfl⟩ ?_ ?_
 ·rintro k f _ s hk Y ⟨F,rfl,hl,Z,p,K,O⟩
  have iP:(k:Int)<r.length:=by omega
  have hw:wr .i64 ((k:Int)+1)=((k+1:Nat):Int):=by rw[jj (by omega)];omega
  have iU:=fun kk=>hg.ia (sz:=1) (k:=k) (kk:=kk) (by rw[kH,List.length_map];omega) hk
  have hd:(ints (r.map Int.ofNat)).drop (k*1)= .i .i64 (r[k]:Int)::(ints (r.map Int.ofNat)).drop (k+1):=by
   rw[Nat.mul_one,List.drop_eq_getElem_cons (by simpa[ints]using hk)]
   simp[ints]
  rw[hd]at iU
  have U:=V r[k] (List.getElem_mem hk)
  obtain⟨q,hq⟩:=mj r[k] U
  obtain⟨s',e1,e2,e3,e4⟩:=Xs s N H D a kT lp (il r[k]) q p.1 p.2 w h r[k] hh hH U hN hG K hq
  rw[List.drop_eq_getElem_cons hk,BD]at O
  generalize r[k]=g at*
  simp(maxDischargeDepth:=6) only[qA,iY,seval,gd,Cx,Y,W,jw,qK,zl,BE,I,F,iP,hw,iU,e1,apx]
  exact⟨by omega,fun k h1 h2=>(e4 k h1 h2).trans (Z k h1 h2),(_,_),e2,O⟩
 ·rintro f _ s Y ⟨F,rfl,hl,Z,p,K,O⟩
  rw[List.drop_length,BD]at O
  subst O
  simp only[qA,seval,gd,Cx,Y,I,F,Int.lt_irrefl]
  exact⟨K,hl,Z⟩
def wV(H:Nat)(il:Nat→Bool)(i:Nat→List Nat)(h:Nat)(r:Nat→Int):List Nat→(Nat→Nat→Int)×Int→(Nat→Nat→Int)×Int
 | [],p=>p
 |f::l,p=>wV H il i h r l (if r f=0 then p else BD H il h (r f) (i f) p)
theorem cd2(N H W a kT Z:Nat)(lp nT:T)(il:Nat→Bool)(X:Nat→List Nat)(mj: ∀f,f<N→ ∃q,∀kk,lH lp (.i kk (f:Int)) 1=some (.vp (.b (il f)::q)))(qc: ∀f,f<N→ ∃gT q,(∀kk,lH nT (.i kk (f:Int)) 1=some (.vp (gT::q)))∧IsSl gT (X f).length (ints ((X f).map Int.ofNat))∧(X f).length≤1000∧ ∀g∈X f,g<N)(hH:H≤6)(hN:N≤1000)(hG:Ge W a kT)(h:Nat)(hh:h≤H)(r:Nat→Int)(n:Nat→Nat→Int)(t:Int)(hrn:Z+h≠kT∧(Z+h<W∨W+7≤Z+h))(fr:Fr)(lh:gW b8)(sh:List b8)(U:an fr 9=nT)(D:an fr 12= .fn 96 [] [.ptr .S 1 1 0,.ptr .S kT 1 0,.ptr .S 0 1 0])(F:an fr 14= .ptr .S a 1 0)(I:an fr 15= .i .i64 (h:Int))(V:an fr 53= .isl .S (Z+h) 1 0 N 1)(O:an fr 54= .i .i64 (N:Int))(h55:an fr 55= .i .i64 0)(hr:gY sh (Z+h)=⟨1,.cells (m8 N r) 0 false⟩)(hC:Cc sh N H W a kT lp n t):
  Lp pE 82 zG fr lh sh (.ext 6) fun f l s=>l=lh∧Cc s N H W a kT lp (wV H il X h r (List.range N) (n,t)).1 (wV H il X h r (List.range N) (n,t)).2∧s.length=sh.length∧ ∀k,k≠kT→(k<W∨W+7≤k)→gY s k=gY sh k:=by
 refine kK II (fun k f l s=>an f 55= .i .i64 (k:Int)∧l=lh∧s.length=sh.length∧(∀k,k≠kT→(k<W∨W+7≤k)→gY s k=gY sh k)∧ ∃p:(Nat→Nat→Int)×Int,Cc s N H W a kT lp p.1 p.2∧wV H il X h r ((List.range N).drop k) p=wV H il X h r (List.range N) (n,t)) N ⟨h55,rfl,rfl,fun _ _ _=>rfl,(n,t),hC,rfl⟩ ?_ ?_
 ·rintro k f _ s hk K ⟨Il,rfl,hl,pX,p,hC,Y⟩
  have iP:(k:Int)<N:=by omega
  have hw:wr .i64 ((k:Int)+1)=((k+1:Nat):Int):=by rw[jj (by omega)];omega
  obtain⟨gT,q,iU,hgl,hg1,hg2⟩:=qc k hk
  have ab7:gY s (Z+h)=⟨1,.cells (m8 N r) 0 false⟩:=(pX _ hrn.1 hrn.2).trans hr
  have L0:=uG N r hk
  have vV:=sD N r
  have hk1:k+1≤N:=by omega
  rw[List.drop_eq_getElem_cons (by simpa using hk),List.getElem_range,wV]at Y
  have m9:=hgl.lenI
  by_cases hz:r k=0
  ·rw[if_pos hz]at Y
   simp(maxDischargeDepth:=6) only[qA,iY,seval,gd,ig,zG,K,U,D,F,I,V,O,Il,iP,hk,hk1,hw,ab7,L0,vV,hz]
   exact⟨hl,pX,p,hC,Y⟩
  ·rw[if_neg hz]at Y
   have hL:=fun fr lh D F I zl BE h66 h67=>cd1 N H W a kT lp il mj hH hN hG (X k) hg2 gT hgl h hh (r k) p.1 p.2 hg1 fr lh s D F I zl BE h66 h67 hC
   simp(maxDischargeDepth:=6) only[qA,iY,seval,gd,ig,zG,IG,K,U,D,F,I,V,O,Il,iP,hk,hk1,hw,ab7,L0,vV,hz,iU,m9,hL]
   exact⟨hl,fun j h1 h2=>((hL _ _ (by simp only[qA,seval,K,U,D,F,I,V,O,Il]) (by simp only[qA,seval,K,U,D,F,I,V,O,Il]) (by simp only[qA,seval,K,U,D,F,I,V,O,Il]) (by simp only[qA,seval,K,U,D,F,I,V,O,Il]) (by simp only[qA,seval,K,U,D,F,I,V,O,Il]) (by simp only[qA,seval,K,U,D,F,I,V,O,Il]) (by simp only[qA,seval,K,U,D,F,I,V,O,Il])).2.2.2.2 j h1 h2).trans (pX j h1 h2),(_,_),(hL _ _ (by simp only[qA,seval,K,U,D,F,I,V,O,Il]) (by simp only[qA,seval,K,U,D,F,I,V,O,Il]) (by simp only[qA,seval,K,U,D,F,I,V,O,Il]) (by simp only[qA,seval,K,U,D,F,I,V,O,Il]) (by simp only[qA,seval,K,U,D,F,I,V,O,Il]) (by simp only[qA,seval,K,U,D,F,I,V,O,Il]) (by simp only[qA,seval,K,U,D,F,I,V,O,Il])).2.2.1,Y⟩
 ·rintro f _ s K ⟨Il,rfl,hl,pX,p,hC,Y⟩
  rw[List.drop_of_length_le (by simp),wV]at Y
  subst Y
  simp only[qA,seval,gd,zG,K,O,Il,Int.lt_irrefl]
  exact⟨hC,hl,pX⟩
def Ax(N H:Nat)(il:Nat→Bool)(r:Nat→List Nat)(i:Nat→Nat→Int):List Nat→(Nat→Nat→Int)×Int→(Nat→Nat→Int)×Int
 | [],p=>p
 |h::l,p=>Ax N H il r i l (wV H il r h (i h) (List.range N) p)
theorem cd3(N H U a kT V Y:Nat)(lp nT:T)(il:Nat→Bool)(W:Nat→List Nat)(mj: ∀f,f<N→ ∃q,∀kk,lH lp (.i kk (f:Int)) 1=some (.vp (.b (il f)::q)))(qc: ∀f,f<N→ ∃gT q,(∀kk,lH nT (.i kk (f:Int)) 1=some (.vp (gT::q)))∧IsSl gT (W f).length (ints ((W f).map Int.ofNat))∧(W f).length≤1000∧ ∀g∈W f,g<N)(hH:H≤6)(hN:N≤1000)(hG:Ge U a kT)(O n:Nat→Nat→Int)(t:Int)(X: ∀h,h<7→V+h≠kT∧(V+h<U∨U+7≤V+h))(hnb:Y≠kT∧(Y<U∨U+7≤Y))(fr:Fr)(lh:gW b8)(sh:List b8)(F:an fr 9=nT)(D:an fr 10= .ptr .S Y 1 0)(r:an fr 12= .fn 96 [] [.ptr .S 1 1 0,.ptr .S kT 1 0,.ptr .S 0 1 0])(I:an fr 14= .ptr .S a 1 0)(Hz:an fr 47= .i .i64 ((H+1:Nat):Int))(h48:an fr 48= .i .i64 0)(hb:gY sh Y=⟨1,.cells (wT V N) 0 true⟩)(hr: ∀h,h<7→gY sh (V+h)=⟨1,.cells (m8 N (O h)) 0 false⟩)(hC:Cc sh N H U a kT lp n t):
  Lp pE 82 zH fr lh sh (.ext 4) fun f l s=>l=lh∧Cc s N H U a kT lp (Ax N H il W O (List.range (H+1)) (n,t)).1 (Ax N H il W O (List.range (H+1)) (n,t)).2∧s.length=sh.length∧ ∀k,k≠kT→(k<U∨U+7≤k)→gY s k=gY sh k:=by
 refine kK IJ (fun k f l s=>an f 48= .i .i64 (k:Int)∧l=lh∧s.length=sh.length∧(∀k,k≠kT→(k<U∨U+7≤k)→gY s k=gY sh k)∧ ∃p:(Nat→Nat→Int)×Int,Cc s N H U a kT lp p.1 p.2∧Ax N H il W O ((List.range (H+1)).drop k) p=Ax N H il W O (List.range (H+1)) (n,t)) (H+1) ⟨h48,rfl,rfl,fun _ _ _=>rfl,(n,t),hC,rfl⟩ ?_ ?_
 ·rintro k f _ s hk K ⟨KA,rfl,hl,pX,p,hC,hp⟩
  have iP:(k:Int)<((H+1:Nat):Int):=by omega
  have hw:wr .i64 ((k:Int)+1)=((k+1:Nat):Int):=by rw[jj (by omega)];omega
  have Z:k<7:=by omega
  have k7':k+1≤7:=by omega
  have hbs:gY s Y=⟨1,.cells (wT V N) 0 true⟩:=(pX _ hnb.1 hnb.2).trans hb
  have ab7:gY s (V+k)=⟨1,.cells (m8 N (O k)) 0 false⟩:=(pX _ (X k Z).1 (X k Z).2).trans (hr k Z)
  have hg:=yM V N Z
  have hl7:(wT V N).length=7:=rfl
  rw[List.drop_eq_getElem_cons (by simpa using hk),List.getElem_range,Ax]at hp
  have hL:=fun fr lh F r I qK tu tO h55=>cd2 N H U a kT V lp nT il W mj qc hH hN hG k (by omega) (O k) p.1 p.2 (X k Z) fr lh s F r I qK tu tO h55 ab7 hC
  simp(maxDischargeDepth:=6) only[qA,iY,seval,gd,ig,kS,zH,II,K,F,D,r,I,Hz,KA,iP,hw,hbs,hg,hl7,Z,k7',hL]
  exact⟨hl,fun j h1 h2=>((hL _ _ (by simp only[qA,seval,K,F,D,r,I,Hz,KA]) (by simp only[qA,seval,K,F,D,r,I,Hz,KA]) (by simp only[qA,seval,K,F,D,r,I,Hz,KA]) (by simp only[qA,seval,K,F,D,r,I,Hz,KA]) (by simp only[qA,seval,K,F,D,r,I,Hz,KA]) (by simp only[qA,seval,K,F,D,r,I,Hz,KA]) (by simp only[qA,seval,K,F,D,r,I,Hz,KA])).2.2.2.2 j h1 h2).trans (pX j h1 h2),(_,_),(hL _ _ (by simp only[qA,seval,K,F,D,r,I,Hz,KA]) (by simp only[qA,seval,K,F,D,r,I,Hz,KA]) (by simp only[qA,seval,K,F,D,r,I,Hz,KA]) (by simp only[qA,seval,K,F,D,r,I,Hz,KA]) (by simp only[qA,seval,K,F,D,r,I,Hz,KA]) (by simp only[qA,seval,K,F,D,r,I,Hz,KA]) (by simp only[qA,seval,K,F,D,r,I,Hz,KA])).2.2.1,hp⟩
 ·rintro f _ s K ⟨KA,rfl,hl,pX,p,hC,hp⟩
  rw[List.drop_of_length_le (by simp),Ax]at hp
  subst hp
  simp only[qA,seval,gd,zH,K,Hz,KA,Int.lt_irrefl]
  exact⟨hC,hl,pX⟩
def DT(H:Nat)(il:Nat→Bool):List Nat→(Nat→Nat→Int)×Int→(Nat→Nat→Int)×Int
 | [],p=>p
 |f::l,p=>DT H il l (wU H (il f) 0 f 1 p.1,DS H (il f) 0 1 p.2)
theorem cd0(N H r a kT:Nat)(lp:T)(il:Nat→Bool)(mj: ∀f,f<N→ ∃q,∀kk,lH lp (.i kk (f:Int)) 1=some (.vp (.b (il f)::q)))(hH:H≤6)(hN:N≤1000)(hG:Ge r a kT)(n:Nat→Nat→Int)(t:Int)(fr:Fr)(lh:gW b8)(sh:List b8)(K:an fr 10= .ptr .S a 1 0)(O:an fr 12= .fn 96 [] [.ptr .S 1 1 0,.ptr .S kT 1 0,.ptr .S 0 1 0])(Hq:an fr 34= .i .i64 (N:Int))(U:an fr 35= .i .i64 0)(F:Cc sh N H r a kT lp n t):
  Lp pE 82 zJ fr lh sh (.ext 0) fun f l s=>l=lh∧Cc s N H r a kT lp (DT H il (List.range N) (n,t)).1 (DT H il (List.range N) (n,t)).2∧s.length=sh.length∧ ∀k,k≠kT→(k<r∨r+7≤k)→gY s k=gY sh k:=by
 refine kK IL (fun k f l s=>an f 35= .i .i64 (k:Int)∧l=lh∧s.length=sh.length∧(∀k,k≠kT→(k<r∨r+7≤k)→gY s k=gY sh k)∧ ∃p:(Nat→Nat→Int)×Int,Cc s N H r a kT lp p.1 p.2∧DT H il ((List.range N).drop k) p=DT H il (List.range N) (n,t)) N ⟨U,rfl,rfl,fun _ _ _=>rfl,(n,t),F,rfl⟩ ?_ ?_
 ·rintro k f _ s hk V ⟨D,rfl,Y,W,p,F,I⟩
  have iP:(k:Int)<N:=by omega
  have hw:wr .i64 ((k:Int)+1)=((k+1:Nat):Int):=by rw[jj (by omega)];omega
  obtain⟨q,hq⟩:=mj k hk
  obtain⟨s',X,e2,e3,e4⟩:=Xs s N H r a kT lp (il k) q p.1 p.2 1 0 k (by omega) hH hk hN hG F hq
  have X:be pE 96 [.ptr .S a 1 0,.i .i64 0,.i .i64 (k:Int),.i .i64 1,.ptr .S 1 1 0,.ptr .S kT 1 0,.ptr .S 0 1 0] s=some (.tup [],s'):=X
  rw[List.drop_eq_getElem_cons (by simpa using hk),List.getElem_range,DT]at I
  simp(maxDischargeDepth:=6) only[qA,iY,seval,gd,zJ,V,K,O,Hq,D,iP,hw,X,apx]
  exact⟨by omega,fun k Z h2=>(e4 k Z h2).trans (W k Z h2),(_,_),e2,I⟩
 ·rintro f _ s V ⟨D,rfl,Y,W,p,F,I⟩
  rw[List.drop_of_length_le (by simp),DT]at I
  subst I
  simp only[qA,seval,gd,zJ,V,Hq,D,Int.lt_irrefl]
  exact⟨F,Y,W⟩
end Go.Proofs.YtcpceiclnbmgiaaGreat
