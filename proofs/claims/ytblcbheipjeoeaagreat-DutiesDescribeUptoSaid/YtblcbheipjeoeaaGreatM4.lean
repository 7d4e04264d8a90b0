/- Walks of functions of the program and of the reference, and their plain laws, part 4. Conditions: the theorems' own. -/
import Derived.Test.YtblcbheipjeoeaaGreatM3
import Derived.KernelRfl
set_option maxRecDepth 100000
set_option linter.unusedSimpArgs false
set_option linter.unusedVariables false
set_option maxHeartbeats 16000000
namespace Go.Proofs.YtblcbheipjeoeaaGreat
open Go Go.Ev
def bd(n:Int):Prop:= -1099511627776≤n∧n≤1099511627776
theorem kA{x y:Bool}:xV (.one .bool) (.b x) (.b y)=some (x==y):=rfl
theorem xS(n:Int):bd (iC n):=by unfold bd iC;omega
theorem xT{n:Int}(h:bd n):iC n=n:=by unfold bd at h;unfold iC;omega
theorem Hp(n:Int):(if(if n<1099511627776 then n else(1099511627776:Int))> -1099511627776 then(if n<1099511627776 then n else(1099511627776:Int))else-1099511627776)=iC n:=by
 unfold iC;split <;> split <;> omega
theorem BV(n:Int):gS pE 191 [.i .i64 n] []=some (.i .i64 (iC n),[]):=by
 rw[gX aeI (by simp[Ui]),←Hp]
 simp only[qA,seval,Ui]
theorem S5(n:Int):gS pE 200 [.i .i64 n] []=some (.i .i64 (iC n),[]):=by
 rw[gX Vw (by simp[Mq]),←Hp]
 simp only[qA,seval,Mq]
theorem Zg{a b:Int}(i:bd a)(r:bd b):wr .i64 (a+b)=a+b:=by unfold bd at *; exact jL ⟨by omega,by omega⟩
theorem IY{a:Int}(i:bd a):wr .i64 (0-a)= -a:=by unfold bd at *; rw[jL ⟨by omega,by omega⟩];omega
theorem ze{a:Int}(i:bd a):bd (-a):=by unfold bd at *; omega
theorem IZ{a b:Int}(I:bd a)(J:bd b):gS pE 194 [.i .i64 a,.i .i64 b] []=some (.i .i64 (iC (a+b)),[]):=by
 have D:=Zg I J
 have E:=BV (a+b)
 clear I J
 rw[gX aeJ (by simp[Jy])]
 by_cases F:0≤a
 ·have r: ¬a<0:=by omega
  by_cases C:0≤b
  ·have H: ¬a+b<0:=by omega
   simp only[qA,seval,Jy,D,E,zG,F,r,C,H]
  ·simp only[qA,seval,Jy,D,E,zG,F,r,C]
 ·have r:a<0:=by omega
  by_cases C:b<0
  ·have H: ¬0≤a+b:=by omega
   simp only[qA,seval,Jy,D,E,zG,F,r,C,H]
  ·simp only[qA,seval,Jy,D,E,zG,F,r,C]
theorem I0{a b:Int}(I:bd a)(J:bd b):gS pE 201 [.i .i64 a,.i .i64 b] []=some (.i .i64 (iC (a+b)),[]):=by
 have C:=Zg I J
 have D:=S5 (a+b)
 clear I J
 rw[gX Vx (by simp[HD])]
 by_cases E:0<a
 ·have r: ¬a<0:=by omega
  by_cases F:0<b
  ·have H: ¬a+b<0:=by omega
   simp only[qA,seval,HD,C,D,Dt,E,r,F,H]
  ·simp only[qA,seval,HD,C,D,Dt,E,r,F]
 ·by_cases r:a<0
  ·by_cases F:b<0
   ·have H: ¬0≤a+b:=by omega
    simp only[qA,seval,HD,C,D,Dt,E,r,F,H]
   ·simp only[qA,seval,HD,C,D,Dt,E,r,F]
  ·simp only[qA,seval,HD,C,D,Dt,E,r]
theorem Zh{a:Int}(h:bd a)(i: ¬a<0):wr .u64 a=(a.natAbs:Int):=by unfold bd at h;rw[rI ⟨by omega,by omega⟩];omega
theorem atw(n:Int):IntKind.wrap .u64 n=n%18446744073709551616:=by
 unfold IntKind.wrap
 have i:(IntKind.u64).bits=64:=rfl
 simp only[i]
 rw[if_neg (by simp[IntKind.signed])]
 rfl
theorem I1(n:Int):wr .u64 n=n%18446744073709551616:=by
 show(if(0:Int)≤n∧n≤18446744073709551615 then n else IntKind.wrap .u64 n)=_
 rw[atw]
 split <;> omega
theorem Qg{a:Int}(h:bd a)(i:a<0):wr .u64 (0-wr .u64 a)=(a.natAbs:Int):=by
 unfold bd at h
 rw[I1,I1];omega
theorem Qh{a:Int}(h:bd a):gS pE 286 [.i .i64 a] []=some (.i .u64 (a.natAbs:Int),[]):=by
 rw[gX afD (by simp[Q1])]
 by_cases r:a<0
 ·have C:=Qg h r
  simp only[qA,seval,Q1,r,C]
 ·have C:=Zh h r
  simp only[qA,seval,Q1,r,C]
theorem Dd{a:Int}(h:bd a):gS pE 263 [.i .i64 a] []=some (.i .u64 (a.natAbs:Int),[]):=by
 rw[gX afo (by simp[Q0])]
 by_cases r:a<0
 ·have C:=Qg h r
  simp only[qA,seval,Q0,r,C]
 ·have C:=Zh h r
  simp only[qA,seval,Q0,r,C]
theorem atx(P Q R S:Int)(F:0≤P)(H:0≤Q)(I:0≤R)(J:0≤S):
  S+(Q+P/4294967296)/4294967296+((Q+P/4294967296)%4294967296+R)/4294967296=(S*18446744073709551616+(Q+R)*4294967296+P)/18446744073709551616:=by
 have i:S*18446744073709551616+(Q+R)*4294967296+P=((S*4294967296+(Q+R))*4294967296+P):=by omega
 have r:(18446744073709551616:Int)=4294967296*4294967296:=by decide
 rw[i,r,←Int.ediv_ediv_of_nonneg (by decide)]
 have C:((S*4294967296+(Q+R))*4294967296+P)/4294967296=S*4294967296+(Q+R)+P/4294967296:=by
  rw[Int.add_comm,Int.add_mul_ediv_right _ _ (by decide)];omega
 rw[C]
 generalize P/4294967296=p
 have D:S*4294967296+(Q+R)+p=(Q+p+R)+S*4294967296:=by omega
 rw[D,Int.add_mul_ediv_right _ _ (by decide)]
 generalize Q+p=t
 have E:t+R=(t%4294967296+R)+(t/4294967296)*4294967296:=by omega
 rw[E,Int.add_mul_ediv_right _ _ (by decide)]
 omega
theorem Oa(i C r D c:Int):(i*c+C)*(r*c+D)=i*r*(c*c)+(i*D+C*r)*c+C*D:=by
 have a1:i*c*(r*c)=i*r*(c*c):=by ac_rfl
 have a2:i*c*D=i*D*c:=Int.mul_right_comm _ _ _
 have E:C*(r*c)=C*r*c:=(Int.mul_assoc _ _ _).symm
 rw[Int.add_mul,Int.mul_add,Int.mul_add,Int.add_mul,a1,a2,E]
 omega
theorem I2{a b A B:Int}(r:0≤a)(i:0≤b)(C:a≤A)(D:b≤B):0≤a*b∧a*b≤A*B:=
 ⟨Int.mul_nonneg r i,Int.mul_le_mul C D i (by omega)⟩
theorem Zi(X Y:Nat)(hX:X≤1099511627776)(hY:Y≤1099511627776):gS pE 285 [.i .u64 (X:Int),.i .u64 (Y:Int)] []=some (.tup [.i .u64 ((X:Int)*Y/18446744073709551616),.i .u64 ((X:Int)*Y%18446744073709551616)],[]):=by
 obtain⟨r,W⟩: ∃r,r=(X:Int)/4294967296:=⟨_,rfl⟩
 obtain⟨C,Z⟩: ∃C,C=(X:Int)%4294967296:=⟨_,rfl⟩
 obtain⟨D,ZQ⟩: ∃D,D=(Y:Int)/4294967296:=⟨_,rfl⟩
 obtain⟨E,hy0⟩: ∃E,E=(Y:Int)%4294967296:=⟨_,rfl⟩
 have hX':(X:Int)=r*4294967296+C:=by omega
 have hY':(Y:Int)=D*4294967296+E:=by omega
 have F:0≤r∧r≤256:=by omega
 have H:0≤C∧C≤4294967295:=by omega
 have I:0≤D∧D≤256:=by omega
 have J:0≤E∧E≤4294967295:=by omega
 have zf:(X:Int)*Y=r*D*18446744073709551616+(r*E+C*D)*4294967296+C*E:=by
  rw[hX',hY'];exact Oa r C D E 4294967296
 have N:=I2 H.1 J.1 H.2 J.2
 have O:=I2 F.1 J.1 F.2 J.2
 have U:=I2 H.1 I.1 H.2 I.2
 have V:=I2 F.1 I.1 F.2 I.2
 have w0:wr .u64 (C*E)=C*E:=rI ⟨N.1,Int.le_trans N.2 (by decide)⟩
 have w1:wr .u64 (r*E)=r*E:=rI ⟨O.1,Int.le_trans O.2 (by decide)⟩
 have w2:wr .u64 (C*D)=C*D:=rI ⟨U.1,Int.le_trans U.2 (by decide)⟩
 have w3:wr .u64 (r*D)=r*D:=rI ⟨V.1,Int.le_trans V.2 (by decide)⟩
 have K:=atx (C*E) (r*E) (C*D) (r*D) N.1 O.1 U.1 V.1
 rw[←zf]at K
 have wlo:=I1 ((X:Int)*Y)
 rw[gX afC (by simp[UN]),←K]
 generalize hP:C*E=P at N w0
 generalize hQ:r*E=Q at O w1
 generalize hR:C*D=R at U w2
 generalize hS:r*D=S at V w3
 have w4:wr .u64 (Q+P/4294967296)=Q+P/4294967296:=rI ⟨by omega,by omega⟩
 have w5:wr .u64 ((Q+P/4294967296)%4294967296+R)=(Q+P/4294967296)%4294967296+R:=rI ⟨by omega,by omega⟩
 have w6:wr .u64 (S+(Q+P/4294967296)/4294967296)=S+(Q+P/4294967296)/4294967296:=rI ⟨by omega,by omega⟩
 have w7:wr .u64 (S+(Q+P/4294967296)/4294967296+((Q+P/4294967296)%4294967296+R)/4294967296)=S+(Q+P/4294967296)/4294967296+((Q+P/4294967296)%4294967296+R)/4294967296:=rI ⟨by omega,by omega⟩
 simp only[qA,seval,UN,ack,acm,←Z,←W,←hy0,←ZQ,hP,hQ,hR,hS,w0,w1,w2,w3,w4,w5,w6,w7,wlo]
theorem I3{a:Int}(h:bd a):a.natAbs≤1099511627776:=by unfold bd at h;omega
theorem Qi(a b:Int):(a.natAbs:Int)*(b.natAbs:Int)=((a*b).natAbs:Int):=by rw[Int.natAbs_mul];omega
theorem LG{a b:Int}(h:(a<0∧ ¬b<0)∨(¬a<0∧b<0)):a*b≤0:=by
 rcases h with⟨h1,h2⟩|⟨h1,h2⟩
 ·exact Int.mul_nonpos_of_nonpos_of_nonneg (by omega) (by omega)
 ·exact Int.mul_nonpos_of_nonneg_of_nonpos (by omega) (by omega)
theorem Hq{a b:Int}(h:(a<0∧b<0)∨(¬a<0∧ ¬b<0)):0≤a*b:=by
 rcases h with⟨h1,h2⟩|⟨h1,h2⟩
 ·exact Int.mul_nonneg_of_nonpos_of_nonpos (by omega) (by omega)
 ·exact Int.mul_nonneg (by omega) (by omega)
theorem Qj{a b:Int}(U:bd a)(V:bd b):gS pE 258 [.i .i64 a,.i .i64 b] []=some (.i .i64 (iC (a*b)),[]):=by
 have F:=Qh U
 have H:=Qh V
 have D:=Zi a.natAbs b.natAbs (I3 U) (I3 V)
 rw[Qi]at D
 have hs:= @LG a b
 have K:= @Hq a b
 rw[gX afh (by simp[xU])]
 generalize W:a*b=x at*
 generalize Kh:(x.natAbs:Int)/18446744073709551616=q1 at D
 generalize GA:(x.natAbs:Int)%18446744073709551616=q2 at D
 have J:(if q1≠0 then(1099511627776:Int)else if 1099511627776<q2 then 1099511627776 else q2)=min (x.natAbs:Int) 1099511627776:=by
  split
  ·omega
  ·split <;> omega
 by_cases E:q1=0
 ·by_cases I:(1099511627776:Int)<q2
  ·rw[if_neg (by simp[E]),if_pos I]at J
   by_cases C:a<0
   ·by_cases r:b<0
    ·have:=K (.inl ⟨C,r⟩)
     have e:iC x=1099511627776:=by unfold iC;omega
     simp only[qA,seval,xU,F,H,D,vK,vJ,E,I,C,r,kA,e];rfl
    ·have:=hs (.inl ⟨C,r⟩)
     have e:iC x= -1099511627776:=by unfold iC;omega
     simp only[qA,seval,xU,F,H,D,vK,vJ,E,I,C,r,kA,e];rfl
   ·by_cases r:b<0
    ·have:=hs (.inr ⟨C,r⟩)
     have e:iC x= -1099511627776:=by unfold iC;omega
     simp only[qA,seval,xU,F,H,D,vK,vJ,E,I,C,r,kA,e];rfl
    ·have:=K (.inr ⟨C,r⟩)
     have e:iC x=1099511627776:=by unfold iC;omega
     simp only[qA,seval,xU,F,H,D,vK,vJ,E,I,C,r,kA,e];rfl
  ·rw[if_neg (by simp[E]),if_neg I]at J
   have N:wr .i64 q2=q2:=jL ⟨by omega,by omega⟩
   have O:wr .i64 (0-q2)= -q2:=by rw[jL ⟨by omega,by omega⟩];omega
   by_cases C:a<0
   ·by_cases r:b<0
    ·have:=K (.inl ⟨C,r⟩)
     have e:iC x=q2:=by unfold iC;omega
     simp only[qA,seval,xU,F,H,D,vK,vJ,E,I,C,r,kA,N,O,e];rfl
    ·have:=hs (.inl ⟨C,r⟩)
     have e:iC x= -q2:=by unfold iC;omega
     simp only[qA,seval,xU,F,H,D,vK,vJ,E,I,C,r,kA,N,O,e];rfl
   ·by_cases r:b<0
    ·have:=hs (.inr ⟨C,r⟩)
     have e:iC x= -q2:=by unfold iC;omega
     simp only[qA,seval,xU,F,H,D,vK,vJ,E,I,C,r,kA,N,O,e];rfl
    ·have:=K (.inr ⟨C,r⟩)
     have e:iC x=q2:=by unfold iC;omega
     simp only[qA,seval,xU,F,H,D,vK,vJ,E,I,C,r,kA,N,O,e];rfl
 ·rw[if_pos E]at J
  by_cases C:a<0
  ·by_cases r:b<0
   ·have:=K (.inl ⟨C,r⟩)
    have e:iC x=1099511627776:=by unfold iC;omega
    simp only[qA,seval,xU,F,H,D,vK,vJ,E,C,r,kA,e];rfl
   ·have:=hs (.inl ⟨C,r⟩)
    have e:iC x= -1099511627776:=by unfold iC;omega
    simp only[qA,seval,xU,F,H,D,vK,vJ,E,C,r,kA,e];rfl
  ·by_cases r:b<0
   ·have:=hs (.inr ⟨C,r⟩)
    have e:iC x= -1099511627776:=by unfold iC;omega
    simp only[qA,seval,xU,F,H,D,vK,vJ,E,C,r,kA,e];rfl
   ·have:=K (.inr ⟨C,r⟩)
    have e:iC x=1099511627776:=by unfold iC;omega
    simp only[qA,seval,xU,F,H,D,vK,vJ,E,C,r,kA,e];rfl
theorem LH{a b:Int}(h:b≠0):Ev.bin .quo (.i .u64 a) (.i .u64 b)=some (.i .u64 (wr .u64 (a.tdiv b))):=by
 simp only[Ev.bin,if_true,th,if_neg h]
theorem Zj{a b:Int}(h:b≠0):Ev.bin .rem (.i .u64 a) (.i .u64 b)=some (.i .u64 (a.tmod b)):=by
 simp only[Ev.bin,if_true,th,if_neg h]
theorem Zk{a b:Int}(h:b≠0):Ev.bin .quo (.i .i64 a) (.i .i64 b)=some (.i .i64 (wr .i64 (a.tdiv b))):=by
 simp only[Ev.bin,if_true,th,if_neg h]
theorem Zl{a b:Int}(h:b≠0):Ev.bin .rem (.i .i64 a) (.i .i64 b)=some (.i .i64 (a.tmod b)):=by
 simp only[Ev.bin,if_true,th,if_neg h]
theorem akj(x y:Nat)(i:0<y):((x:Int)≤(1099511627776:Int).tdiv (y:Int))↔(x:Int)*y≤1099511627776:=by
 have e:(1099511627776:Int).tdiv (y:Int)=((1099511627776/y:Nat):Int):=rfl
 rw[e]
 have:=Nat.le_div_iff_mul_le i (x:=x) (y:=1099511627776)
 have r:(x:Int)*y=((x*y:Nat):Int):=by simp
 rw[r];omega
theorem adw{a b:Int}(V:bd a)(W:bd b):gS pE 202 [.i .i64 a,.i .i64 b] []=some (.i .i64 (iC (a*b)),[]):=by
 have K:=Dd V
 have N:=Dd W
 have hs:= @LG a b
 have O:= @Hq a b
 have Np:=Qi a b
 rw[gX Vz (by simp[zy])]
 by_cases a0:a=0
 ·subst a0
  simp only[qA,seval,zy,Int.zero_mul];rfl
 by_cases D:b=0
 ·subst D
  simp only[qA,seval,zy,Int.mul_zero,a0];rfl
 have E:=akj a.natAbs b.natAbs (by omega)
 have U:((b.natAbs:Nat):Int)≠0:=by omega
 have F:Ev.bin .quo (.i .u64 1099511627776) (.i .u64 (b.natAbs:Int))=some (.i .u64 ((1099511627776:Int).tdiv (b.natAbs:Int))):=by
  rw[LH U]
  have e:(1099511627776:Int).tdiv (b.natAbs:Int)=((1099511627776/b.natAbs:Nat):Int):=rfl
  rw[e,rI ⟨Int.natCast_nonneg _,Int.le_trans (Int.ofNat_le.2 (Nat.div_le_self _ _)) (by decide)⟩]
 rw[Np]at E
 generalize (1099511627776:Int).tdiv (b.natAbs:Int)=q at E F
 generalize hx:a*b=x at*
 have X:x.natAbs≤1099511627776→wr .u64 (x.natAbs:Int)=(x.natAbs:Int):=fun h=>rI ⟨by omega,by omega⟩
 have Y:x.natAbs≤1099511627776→wr .i64 (x.natAbs:Int)=(x.natAbs:Int):=fun h=>jL ⟨by omega,by omega⟩
 have Z:x.natAbs≤1099511627776→wr .i64 (0-(x.natAbs:Int))= -(x.natAbs:Int):=fun h=>by rw[jL ⟨by omega,by omega⟩];omega
 by_cases c:(a.natAbs:Int)≤q
 ·have hc:=E.1 c
  have H:=X (by omega)
  have I:=Y (by omega)
  have J:=Z (by omega)
  by_cases C:a<0
  ·by_cases r:b<0
   ·have:=O (.inl ⟨C,r⟩)
    have e:iC x=(x.natAbs:Int):=by unfold iC;omega
    simp only[qA,seval,zy,K,N,qD,a0,D,F,Np,kA,c,C,r,H,I,J,e];rfl
   ·have:=hs (.inl ⟨C,r⟩)
    have e:iC x= -(x.natAbs:Int):=by unfold iC;omega
    simp only[qA,seval,zy,K,N,qD,a0,D,F,Np,kA,c,C,r,H,I,J,e];rfl
  ·by_cases r:b<0
   ·have:=hs (.inr ⟨C,r⟩)
    have e:iC x= -(x.natAbs:Int):=by unfold iC;omega
    simp only[qA,seval,zy,K,N,qD,a0,D,F,Np,kA,c,C,r,H,I,J,e];rfl
   ·have:=O (.inr ⟨C,r⟩)
    have e:iC x=(x.natAbs:Int):=by unfold iC;omega
    simp only[qA,seval,zy,K,N,qD,a0,D,F,Np,kA,c,C,r,H,I,J,e];rfl
 ·have hc: ¬(x.natAbs:Int)≤1099511627776:=fun h=>c (E.2 h)
  by_cases C:a<0
  ·by_cases r:b<0
   ·have:=O (.inl ⟨C,r⟩)
    have e:iC x=1099511627776:=by unfold iC;omega
    simp only[qA,seval,zy,K,N,qD,a0,D,F,Np,kA,c,C,r,e];rfl
   ·have:=hs (.inl ⟨C,r⟩)
    have e:iC x= -1099511627776:=by unfold iC;omega
    simp only[qA,seval,zy,K,N,qD,a0,D,F,Np,kA,c,C,r,e];rfl
  ·by_cases r:b<0
   ·have:=hs (.inr ⟨C,r⟩)
    have e:iC x= -1099511627776:=by unfold iC;omega
    simp only[qA,seval,zy,K,N,qD,a0,D,F,Np,kA,c,C,r,e];rfl
   ·have:=O (.inr ⟨C,r⟩)
    have e:iC x=1099511627776:=by unfold iC;omega
    simp only[qA,seval,zy,K,N,qD,a0,D,F,Np,kA,c,C,r,e];rfl
theorem bq1:((true==true) != false)=true:=nr rfl
theorem bq2:((false==false) != false)=true:=nr rfl
theorem bq3:((true==false) != false)=false:=nr rfl
theorem bq4:((false==true) != false)=false:=nr rfl
theorem bq5:((true==true) != true)=false:=nr rfl
theorem bq6:((false==false) != true)=false:=nr rfl
theorem bq7:((true==false) != true)=true:=nr rfl
theorem bq8:((false==true) != true)=true:=nr rfl
theorem S6{a b:Int}(C:b≠0)(h:(a<0∧b<0)∨(¬a<0∧ ¬b<0)):a.fdiv b=((a.natAbs/b.natAbs:Nat):Int):=by
 rcases h with⟨h1,h2⟩|⟨h1,h2⟩
 ·rw[←Int.neg_fdiv_neg,Int.fdiv_eq_ediv_of_nonneg _ (by omega)]
  have i: -a=((a.natAbs:Nat):Int):=by omega
  have r: -b=((b.natAbs:Nat):Int):=by omega
  rw[i,r];rfl
 ·rw[Int.fdiv_eq_ediv_of_nonneg _ (by omega)]
  have i:a=((a.natAbs:Nat):Int):=by omega
  have r:b=((b.natAbs:Nat):Int):=by omega
  conv=>lhs;rw[i,r]
  rfl
theorem LI(x y:Nat):(x:Int).fdiv (y:Int)=((x/y:Nat):Int):=by rw[Int.fdiv_eq_ediv_of_nonneg _ (by omega)];rfl
theorem De(x y:Nat):((y:Int)∣(x:Int))↔x%y=0:=by rw[Int.natCast_dvd_natCast];exact Nat.dvd_iff_mod_eq_zero
def upN(x y:Nat):Nat:=x/y+if 0<x%y then 1 else 0
theorem S7{a b:Int}(E:b≠0)(h:(a<0∧ ¬b<0)∨(¬a<0∧b<0)):a.fdiv b= -((upN a.natAbs b.natAbs:Nat):Int):=by
 unfold upN
 rcases h with⟨h1,h2⟩|⟨h1,h2⟩
 ·have r:a= -((a.natAbs:Nat):Int):=by omega
  have C:b=((b.natAbs:Nat):Int):=by omega
  have D:b.natAbs≠0:=by omega
  generalize a.natAbs=x,b.natAbs=y at*
  subst r C
  rw[Int.neg_fdiv,LI]
  by_cases i:x%y=0
  ·rw[if_pos (Or.inr ((De x y).2 i)),if_neg (by omega)];omega
  ·rw[if_neg (by rintro(h|h)
                 ·omega
                 ·exact i ((De x y).1 h)),if_pos (by omega)];omega
 ·have r:a=((a.natAbs:Nat):Int):=by omega
  have C:b= -((b.natAbs:Nat):Int):=by omega
  have D:((b.natAbs:Nat):Int)≠0:=by omega
  generalize a.natAbs=x,b.natAbs=y at*
  subst r C
  rw[Int.fdiv_neg D,LI]
  by_cases i:x%y=0
  ·rw[if_pos ((De x y).2 i),if_neg (by omega)];omega
  ·rw[if_neg (fun h=>i ((De x y).1 h)),if_pos (by omega)];omega
theorem Oc(a b:Int)(h:bd a):a.natAbs/b.natAbs≤1099511627776:=Nat.le_trans (Nat.div_le_self _ _) (I3 h)
theorem adx{a b:Int}(X:bd a)(Y:bd b):gS pE 203 [.i .i64 a,.i .i64 b] []=some (.i .i64 (Nl a b),[]):=by
 have H:=Dd X
 have I:=Dd Y
 rw[gX VA (by simp[Ba])]
 unfold Nl
 by_cases D:b=0
 ·subst D
  simp only[qA,seval,Ba]
 rw[if_neg D]
 have O:((b.natAbs:Nat):Int)≠0:=by omega
 have W:=Oc a b X
 have J:Ev.bin .quo (.i .u64 (a.natAbs:Int)) (.i .u64 (b.natAbs:Int))=some (.i .u64 ((a.natAbs/b.natAbs:Nat):Int)):=by
  rw[LH O]
  have e:(a.natAbs:Int).tdiv (b.natAbs:Int)=((a.natAbs/b.natAbs:Nat):Int):=rfl
  rw[e,rI ⟨Int.natCast_nonneg _,Int.le_trans (Int.ofNat_le.2 W) (by decide)⟩]
 have K:Ev.bin .rem (.i .u64 (a.natAbs:Int)) (.i .u64 (b.natAbs:Int))=some (.i .u64 ((a.natAbs%b.natAbs:Nat):Int)):=by
  rw[Zj O];rfl
 have OY:= @S6 a b D
 have Zm:= @S7 a b D
 unfold upN at Zm
 generalize a.natAbs/b.natAbs=q at*
 generalize a.natAbs%b.natAbs=r at*
 have N: ∀n:Nat,¬(1099511627776:Int)<(n:Int)→wr .i64 (n:Int)=(n:Int):=fun n h=>jL ⟨by omega,by omega⟩
 have V: ∀n:Nat,¬(1099511627776:Int)<(n:Int)→wr .i64 (0-(n:Int))= -(n:Int):=fun n h=>by rw[jL ⟨by omega,by omega⟩];omega
 have TG: ¬(1099511627776:Int)<(q:Int):=by omega
 by_cases E:a<0
 ·by_cases C:b<0
  ·have:=OY (.inl ⟨E,C⟩)
   rw[this,xT (by unfold bd;omega)]
   by_cases S8:(1099511627776:Int)<(q:Int)
   ·exact absurd S8 TG
   ·simp only[qA,seval,Ba,H,I,qD,D,J,kA,gt_iff_lt,E,C,TG,N q TG,bq1]
  ·have:=Zm (.inl ⟨E,C⟩)
   rw[this]
   by_cases F:0<r
   ·have Rh:(0:Int)<(r:Int):=by omega
    rw[if_pos F]
    have U:wr .u64 ((q:Int)+1)=((q+1:Nat):Int):=by rw[rI ⟨by omega,by omega⟩];omega
    by_cases S8:(1099511627776:Int)<((q+1:Nat):Int)
    ·have e:iC (-((q+1:Nat):Int))= -1099511627776:=by unfold iC;omega
     simp only[qA,seval,Ba,H,I,qD,D,J,K,kA,gt_iff_lt,bq3,E,C,Rh,U,S8,e]
    ·have e:iC (-((q+1:Nat):Int))= -((q+1:Nat):Int):=by unfold iC;omega
     simp only[qA,seval,Ba,H,I,qD,D,J,K,kA,gt_iff_lt,bq3,E,C,Rh,U,S8,e,N _ S8,V _ S8]
   ·have Rh: ¬(0:Int)<(r:Int):=by omega
    rw[if_neg F,Nat.add_zero]
    have e:iC (-(q:Int))= -(q:Int):=by unfold iC;omega
    simp only[qA,seval,Ba,H,I,qD,D,J,K,kA,gt_iff_lt,bq3,E,C,Rh,TG,e,N _ TG,V _ TG]
 ·by_cases C:b<0
  ·have:=Zm (.inr ⟨E,C⟩)
   rw[this]
   by_cases F:0<r
   ·have Rh:(0:Int)<(r:Int):=by omega
    rw[if_pos F]
    have U:wr .u64 ((q:Int)+1)=((q+1:Nat):Int):=by rw[rI ⟨by omega,by omega⟩];omega
    by_cases S8:(1099511627776:Int)<((q+1:Nat):Int)
    ·have e:iC (-((q+1:Nat):Int))= -1099511627776:=by unfold iC;omega
     simp only[qA,seval,Ba,H,I,qD,D,J,K,kA,gt_iff_lt,bq4,E,C,Rh,U,S8,e]
    ·have e:iC (-((q+1:Nat):Int))= -((q+1:Nat):Int):=by unfold iC;omega
     simp only[qA,seval,Ba,H,I,qD,D,J,K,kA,gt_iff_lt,bq4,E,C,Rh,U,S8,e,N _ S8,V _ S8]
   ·have Rh: ¬(0:Int)<(r:Int):=by omega
    rw[if_neg F,Nat.add_zero]
    have e:iC (-(q:Int))= -(q:Int):=by unfold iC;omega
    simp only[qA,seval,Ba,H,I,qD,D,J,K,kA,gt_iff_lt,bq4,E,C,Rh,TG,e,N _ TG,V _ TG]
  ·have:=OY (.inr ⟨E,C⟩)
   rw[this,xT (by unfold bd;omega)]
   by_cases S8:(1099511627776:Int)<(q:Int)
   ·exact absurd S8 TG
   ·simp only[qA,seval,Ba,H,I,qD,D,J,kA,gt_iff_lt,E,C,TG,N q TG,bq2]
theorem ady:bd (-1):=by unfold bd;omega
theorem adz{a b:Int}(K:bd a)(X:bd b):gS pE 259 [.i .i64 a,.i .i64 b] []=some (.i .i64 (Nl a b),[]):=by
 have U:=Qj K ady
 rw[gX afj (by simp[Dl])]
 unfold Nl
 by_cases D:b=0
 ·subst D
  simp only[qA,seval,Dl]
 rw[if_neg D]
 by_cases F:b= -1
 ·subst F
  have e:a.fdiv (-1)=a* -1:=by
   have:=Int.fdiv_neg (a:=a) (b:=1) (by decide)
   rw[if_pos (Int.one_dvd a),Int.fdiv_one]at this
   rw[this];omega
  rw[e]
  simp only[qA,seval,Dl,U,afi]
 have H:= @Int.fdiv_eq_tdiv a b
 have N:= @Int.dvd_iff_tmod_eq_zero b a
 have V:=Int.natAbs_tdiv_le_natAbs a b
 have W:=I3 K
 have C:Ev.bin .quo (.i .i64 a) (.i .i64 b)=some (.i .i64 (a.tdiv b)):=by
  rw[Zk D,jL ⟨by omega,by omega⟩]
 have AW:=Zl (a:=a) D
 have Hr:=BV (a.tdiv b)
 have S9:=BV (a.tdiv b-1)
 have O:wr .i64 (a.tdiv b-1)=a.tdiv b-1:=jL ⟨by omega,by omega⟩
 generalize a.tdiv b=q at*
 generalize a.tmod b=r at*
 by_cases E:r=0
 ·have e:a.fdiv b=q:=by rw[H,if_pos (N.2 E)];omega
  rw[e]
  simp only[qA,seval,Dl,D,F,C,AW,E,Hr,zG]
 ·rw[if_neg (fun h=>E (N.1 h))]at H
  by_cases J:a<0
  ·by_cases I:b<0
   ·have e:a.fdiv b=q:=by rw[H,if_neg (by omega),if_neg (by omega),Int.sign_eq_neg_one_of_neg I];omega
    rw[e]
    simp only[qA,seval,Dl,D,F,C,AW,E,Hr,zG,J,I,kA,bq5]
   ·have e:a.fdiv b=q-1:=by rw[H,if_neg (by omega),if_pos (by omega),Int.sign_eq_one_of_pos (by omega)]
    rw[e]
    simp only[qA,seval,Dl,D,F,C,AW,E,S9,zG,J,I,kA,bq7,O]
  ·by_cases I:b<0
   ·have e:a.fdiv b=q-1:=by rw[H,if_pos (by omega),if_neg (by omega)]
    rw[e]
    simp only[qA,seval,Dl,D,F,C,AW,E,S9,zG,J,I,kA,bq8,O]
   ·have e:a.fdiv b=q:=by rw[H,if_pos (by omega),if_pos (by omega)];omega
    rw[e]
    simp only[qA,seval,Dl,D,F,C,AW,E,Hr,zG,J,I,kA,bq6]
theorem adA(a b:Int):bd (Nl a b):=by
 unfold Nl
 split
 ·unfold bd;omega
 ·exact xS _
def bit(n:Int):Prop:=n=0∨n=1
theorem akk{n:Int}(h:bit n):bd n:=by unfold bit at h;unfold bd;omega
theorem Ta(b:Bool):bit (sO b):=by cases b <;> simp[sO,bit]
theorem Od(c f t:Int):gS pE 193 [.i .i64 c,.i .i64 f,.i .i64 t] []=some (.b (ky c f t),[]):=by
 rw[gX Vp (by simp[QK])]
 unfold ky
 by_cases D:f≤t
 ·by_cases r:f≤c <;> by_cases C:c<t <;> simp only[qA,seval,QK,D,r,C]
 ·by_cases r:f≤c <;> by_cases C:c<t <;> simp only[qA,seval,QK,D,r,C,or_true,or_false,or_self]
theorem Oe(c f t:Int):gS pE 204 [.i .i64 c,.i .i64 f,.i .i64 t] []=some (.b (ky c f t),[]):=by
 have h:gS pE 188 [.i .i64 c,.i .i64 f,.i .i64 t] []=some (.b (ky c f t),[]):=by
  rw[gX Vm (by simp[HC])]
  unfold ky
  by_cases D:f≤t
  ·by_cases r:f≤c <;> by_cases C:c<t <;> simp only[qA,seval,HC,D,r,C]
  ·by_cases r:f≤c <;> by_cases C:c<t <;> simp only[qA,seval,HC,D,r,C,or_true,or_false,or_self]
 rw[gX VB (by simp[Um])]
 simp only[qA,seval,Um,h,Vn]
theorem xN(b:Bool):gS pE 199 [.b b] []=some (.i .i64 (sO b),[]):=by
 rw[gX Vv (by simp[Ul])]
 cases b <;> simp only[qA,seval,Ul,sO]
theorem AX(b:Bool):gS pE 192 [.b b] []=some (.i .i64 (sO b),[]):=by
 rw[gX Vo (by simp[Uj])]
 cases b <;> simp only[qA,seval,Uj,sO]
def Mf(op:Int):Int→List Int→Int:=if op=12 then ai5 else ai6
theorem Fa(op m v:Int)(i:List Int)(h:op=12∨op=13):Mf op m (v::i)=Mf op (if op=12 then min m v else max m v) i:=by
 unfold Mf
 rcases h with rfl|rfl <;> rfl
theorem I4(op m:Int):Mf op m []=m:=by unfold Mf;split <;> rfl
theorem ayA(op num:Int)(Fi:op=12∨op=13)(r:List Int)(V:0<r.length)(a:T)(H:g8 a r.length (ints r))(U:r.length≤oQ)(fr:Fr)(lh:hJ gR)(sh:List gR)
  (E:an fr 0= .i .i64 op) (C:an fr 2=a) (F:an fr 7= .i .i64 (a0 r)) (I:an fr 8= .i .i64 1):
  kV 176 pC fr lh sh (.ext 1)∧
  (an (kh pE 176 pC fr lh sh) 7= .i .i64 (Mf op (a0 r) r.tail)∧kH pE 176 pC fr lh sh=lh∧kb pE 176 pC fr lh sh=sh):=by
 refine ib (P:=fun fr W X=>an fr 7= .i .i64 (Mf op (a0 r) r.tail)∧W=lh∧X=sh) (ij (fun k st=> ∃(fr:Fr) (m:Int),st=⟨fr,lh,sh⟩∧an fr 0= .i .i64 op∧an fr 2=a∧an fr 7= .i .i64 m∧an fr 8= .i .i64 (k:Int)∧Mf op m (r.drop k)=Mf op (a0 r) r.tail) _ r.length ?_ ?_ 1 _ V ⟨fr,a0 r,rfl,E,C,F,I,by rw[List.drop_one]⟩)
 ·rintro k _ J ⟨fr,m,rfl,E,C,F,I,D⟩
  left
  have K:(k:Int)<r.length:=by omega
  have N:=iD (k:=k) (by omega)
  rw[List.drop_eq_getElem_cons J,Fa _ _ _ _ Fi]at D
  by_cases O:r[k]<m
  ·rcases Fi with rfl|rfl
   ·rw[if_pos rfl,show min m r[k]=r[k]by omega]at D
    simp only[qA,seval,pC,E,C,F,I,H.lenI,K,pz H J,N,O,kA,bq1]
    refine⟨_,rfl,_,_,rfl, ?_, ?_, ?_, ?_,D⟩ <;> simp only[qA,seval,E,C]
   ·rw[if_neg (by decide),show max m r[k]=m by omega]at D
    simp only[qA,seval,pC,E,C,F,I,H.lenI,K,pz H J,N,O,kA,bq4]
    refine⟨_,rfl,_,_,rfl, ?_, ?_, ?_, ?_,D⟩ <;> simp only[qA,seval,E,C,F]
  ·rcases Fi with rfl|rfl
   ·rw[if_pos rfl,show min m r[k]=m by omega]at D
    simp only[qA,seval,pC,E,C,F,I,H.lenI,K,pz H J,N,O,kA,bq3]
    refine⟨_,rfl,_,_,rfl, ?_, ?_, ?_, ?_,D⟩ <;> simp only[qA,seval,E,C,F]
   ·rw[if_neg (by decide),show max m r[k]=r[k]by omega]at D
    simp only[qA,seval,pC,E,C,F,I,H.lenI,K,pz H J,N,O,kA,bq2]
    refine⟨_,rfl,_,_,rfl, ?_, ?_, ?_, ?_,D⟩ <;> simp only[qA,seval,E,C]
 ·rintro _ ⟨fr,m,rfl,E,C,F,I,D⟩
  rw[List.drop_length,I4]at D
  simp only[qA,seval,pC,C,I,H.lenI,Int.lt_irrefl]
  exact⟨_,_,jB,rfl,rfl,by simp only[qA,seval,F,D],rfl,rfl⟩
def vOk(op:Int)(i:List Int):Prop:=(∀v∈i,bd v)∧((op=19∨op=20∨op=21∨op=22)→ ∀v∈i,bit v)∧(op=14→bit (a0 i))
theorem Hd(op num:Int)(D:List Int)(a:T)(r:g8 a D.length (ints D))(V:D.length≤oQ)(W:7≤op)(X:op≤22)(C:jA op D.length=true)(Y:vOk op D):gS pE 127 [.i .i64 op,.i .i64 num,a] []=some (.i .i64 (FH op D),[]):=by
 rw[gX U4 (by simp[pS])]
 obtain⟨E,LJ,J⟩:=Y
 have I: ∀x Bg,D=x::Bg→(op=12∨op=13)→yJ pS.res pS.eff (DC pE pS.n pS.code ⟨pe [.i .i64 op,.i .i64 num,a],.nil,[]⟩)=some (.i .i64 (Mf op (a0 D) D.tail),[]):=by
  rintro x Bg rfl N
  have O:=fun fr lh sh=>ayA op num N (x::Bg) (by simp) a r V fr lh sh
  obtain⟨ex,rfl⟩:=mB r
  have Z:0<Bg.length+1:=Nat.succ_pos _
  have e0:a0 (x::Bg)=x:=rfl
  rw[e0]at O ⊢
  rcases N with rfl|rfl <;> simp only[qA,seval,jm,pS,Z,O]
 have oP:1≤op:=by omega
 rcases oO oP X with rfl|rfl|rfl|rfl|rfl|rfl|rfl|rfl|rfl|rfl|rfl|rfl|rfl|rfl|rfl|rfl|rfl|rfl|rfl|rfl|rfl|rfl
 iterate 6 ·exact absurd W (by decide)
 ·obtain⟨x,rfl⟩:=N1 (by simpa[jA]using C)
  obtain⟨ex,rfl⟩:=mB r
  have hx:=E x (by simp)
  have h:=I0 (a:=0) (by unfold bd;omega) (ze hx)
  have F:=IY hx
  rw[show(0:Int)+ -x= -x by omega,xT (ze hx)]at h
  simp only[qA,seval,jm,pS,ints,F,h,Vy];rfl
 ·obtain⟨x,y,rfl⟩:=mh (by simpa[jA]using C)
  obtain⟨ex,rfl⟩:=mB r
  have h:=I0 (E x (by simp)) (E y (by simp))
  simp only[qA,seval,jm,iR,iy,pS,ints,h,Vy,aeL];rfl
 ·obtain⟨x,y,rfl⟩:=mh (by simpa[jA]using C)
  obtain⟨ex,rfl⟩:=mB r
  have U:=E y (by simp)
  have h:=I0 (E x (by simp)) (ze U)
  have F:=IY U
  simp only[qA,seval,jm,iR,iy,pS,ints,F,h,Vy,aeL];rfl
 ·obtain⟨x,y,rfl⟩:=mh (by simpa[jA]using C)
  obtain⟨ex,rfl⟩:=mB r
  have h:=adw (E x (by simp)) (E y (by simp))
  simp only[qA,seval,jm,iR,iy,pS,ints,h,apq,apr];rfl
 ·obtain⟨x,y,rfl⟩:=mh (by simpa[jA]using C)
  obtain⟨ex,rfl⟩:=mB r
  have h:=adx (E x (by simp)) (E y (by simp))
  simp only[qA,seval,jm,iR,iy,pS,ints,h,apt,apu];rfl
 ·match D,C with
  |x::ts,_=>exact I x ts rfl (by simp)
 ·match D,C with
  |x::ts,_=>exact I x ts rfl (by simp)
 ·obtain⟨x,y,z,rfl⟩:=yB (by simpa[jA]using C)
  obtain⟨ex,rfl⟩:=mB r
  have e:FH 14 [x,y,z]=if x=0 then z else y:=rfl
  rw[e]
  rcases J rfl with hx|hx
  ·have hx:x=0:=hx
   subst hx;simp only[qA,seval,jm,pS,ints]
  ·have hx:x=1:=hx
   subst hx;simp only[qA,seval,jm,pS,ints]
 ·obtain⟨x,y,z,rfl⟩:=yB (by simpa[jA]using C)
  obtain⟨ex,rfl⟩:=mB r
  have h:=Oe x y z
  have H:=xN (ky x y z)
  simp only[qA,seval,jm,iR,iy,pS,ints,h,H,apv,apw,Gj,JL];rfl
 ·obtain⟨x,y,rfl⟩:=mh (by simpa[jA]using C)
  obtain⟨ex,rfl⟩:=mB r
  have H:=xN (decide (x<y))
  simp only[qA,seval,jm,iR,iy,pS,ints,H,Gj,JL];rfl
 ·obtain⟨x,y,rfl⟩:=mh (by simpa[jA]using C)
  obtain⟨ex,rfl⟩:=mB r
  have H:=xN (decide (x≤y))
  simp only[qA,seval,jm,iR,iy,pS,ints,H,Gj,JL];rfl
 ·obtain⟨x,y,rfl⟩:=mh (by simpa[jA]using C)
  obtain⟨ex,rfl⟩:=mB r
  have H:=xN (decide (x=y))
  simp only[qA,seval,jm,iR,iy,pS,ints,H,Gj,JL];rfl
 ·obtain⟨x,rfl⟩:=N1 (by simpa[jA]using C)
  obtain⟨ex,rfl⟩:=mB r
  have K:=LJ (by simp) x (by simp)
  have F:wr .i64 (1-x)=1-x:=by unfold bit at K;exact jL ⟨by omega,by omega⟩
  simp only[qA,seval,jm,pS,ints,F];rfl
 ·obtain⟨x,y,rfl⟩:=mh (by simpa[jA]using C)
  obtain⟨ex,rfl⟩:=mB r
  have e:FH 20 [x,y]=if y<x then y else x:=by
   show min x y=_
   split <;> omega
  rw[e]
  simp only[qA,seval,jm,iR,iy,pS,ints]
 ·obtain⟨x,y,rfl⟩:=mh (by simpa[jA]using C)
  obtain⟨ex,rfl⟩:=mB r
  have e:FH 21 [x,y]=if y>x then y else x:=by
   show max x y=_
   split <;> omega
  rw[e]
  simp only[qA,seval,jm,iR,iy,pS,ints]
 ·obtain⟨x,y,rfl⟩:=mh (by simpa[jA]using C)
  obtain⟨ex,rfl⟩:=mB r
  have K:=LJ (by simp) x (by simp)
  have F:wr .i64 (1-x)=1-x:=by unfold bit at K;exact jL ⟨by omega,by omega⟩
  have e:FH 22 [x,y]=if y>1-x then y else 1-x:=by
   show max (1-x) y=_
   split <;> omega
  rw[e]
  simp only[qA,seval,jm,iR,iy,pS,ints,F]
theorem Og(op a b:Int)(J:vOk op [a,b])(K:op=8∨op=9∨op=10∨op=11∨op=16∨op=17∨op=18∨op=20∨op=21∨op=22):gS pE 195 [.i .i64 op,.i .i64 a,.i .i64 b] []=some (.i .i64 (FH op [a,b]),[]):=by
 rw[gX Vr (by simp[zx])]
 obtain⟨H,LJ,_⟩:=J
 have F:=H a (by simp)
 have D:=H b (by simp)
 have r:(op=19∨op=20∨op=21∨op=22)→bit a∧bit b:=fun h=>⟨LJ h a (by simp),LJ h b (by simp)⟩
 clear H LJ
 rcases K with rfl|rfl|rfl|rfl|rfl|rfl|rfl|rfl|rfl|rfl
 ·have h:=IZ F D
  simp only[qA,seval,zx,h,Vq];rfl
 ·have h:=IZ F (ze D)
  have I:=IY D
  simp only[qA,seval,zx,h,I,Vq];rfl
 ·have h:=Qj F D
  simp only[qA,seval,zx,h,afi];rfl
 ·have h:=adz F D
  simp only[qA,seval,zx,h,apL];rfl
 ·have h:=AX (decide (a<b))
  simp only[qA,seval,zx,h,OC];rfl
 ·have h:=AX (decide (a≤b))
  simp only[qA,seval,zx,h,OC];rfl
 ·have h:=AX (decide (a=b))
  simp only[qA,seval,zx,h,OC];rfl
 ·obtain⟨C,E⟩:=r (by simp)
  have h:=acn C E
  simp only[qA,seval,zx,h];rfl
 ·obtain⟨C,E⟩:=r (by simp)
  have h:=Xw C E
  simp only[qA,seval,zx,h];rfl
 ·obtain⟨C,E⟩:=r (by simp)
  have I:wr .i64 (1-a)=1-a:=by unfold bit at C;exact jL ⟨by omega,by omega⟩
  have h:=Xw (a:=1-a) (b:=b) (by unfold bit at C;omega) E
  simp only[qA,seval,zx,I,h];rfl
inductive Fm where
 |mk (op num:Int) (args:List Fm)
def Fm.op:Fm→Int| .mk o _ _=>o
def Fm.num:Fm→Int| .mk _ n _=>n
def Fm.args:Fm→List Fm| .mk _ _ a=>a
mutual
def oG:Fm→List T→Prop
 | .mk op num args,cs=> ∃a r,cs= [.i .i64 op,.i .i64 num,a]∧g8 a args.length r∧iO args r
def iO:List Fm→List T→Prop
 | [],cs=>cs= []
 |x::xs,cs=> ∃c r,cs=c++r∧oG x c∧iO xs r
end
theorem oG.cells{x:Fm}{cs:List T}(h:oG x cs): ∃a r,cs= [.i .i64 x.op,.i .i64 x.num,a]∧g8 a x.args.length r∧iO x.args r:=by
 obtain⟨o,n,a⟩:=x
 rw[oG]at h
 exact h
theorem oG.of{x:Fm}{a:T}{r:List T}(C:g8 a x.args.length r)(D:iO x.args r):oG x [.i .i64 x.op,.i .i64 x.num,a]:=by
 obtain⟨o,n,l⟩:=x
 rw[oG]
 exact⟨a,r,rfl,C,D⟩
theorem oG.len{x:Fm}{cs:List T}(h:oG x cs):cs.length=3:=by
 obtain⟨a,i,rfl,_⟩:=h.cells;rfl
theorem iO.nil:iO [] []:=by rw[iO]
theorem iO.cons{x:Fm}{xs:List Fm}{c r:List T}(i:oG x c)(C:iO xs r):iO (x::xs) (c++r):=by
 rw[iO];exact⟨c,r,rfl,i,C⟩
theorem iO.append: ∀{xs C:List Fm} {c r:List T},iO xs c→iO C r→iO (xs++C) (c++r)
 | [],C,c,r,i,D=>by rw[iO]at i;subst i;exact D
 |x::xs,C,c,r,i,D=>by
  rw[iO]at i
  obtain⟨H,I,rfl,E,F⟩:=i
  rw[List.append_assoc]
  exact iO.cons E (iO.append F D)
theorem iO.one{x:Fm}{c:List T}(h:oG x c):iO [x] c:=by
 have:=iO.cons h iO.nil
 rwa [List.append_nil]at this
theorem iO.len: ∀{xs:List Fm} {cs:List T},iO xs cs→cs.length=xs.length*3
 | [],cs,h=>by rw[iO]at h;rw[h];rfl
 |x::xs,cs,h=>by
  rw[iO]at h
  obtain⟨c,r,rfl,i,C⟩:=h
  rw[List.length_append,i.len,C.len,List.length_cons];omega
theorem iO.drop: ∀{xs:List Fm} {cs:List T} (k:Nat) (i:k<xs.length),iO xs cs→ ∃c r,cs.drop (k*3)=c++r∧oG xs[k] c∧iO (xs.drop (k+1)) r
 | [],cs,k,i,h=>by simp at i
 |x::xs,cs,0,i,h=>by
  rw[iO]at h
  obtain⟨c,r,rfl,C,D⟩:=h
  exact⟨c,r,by simp,C,by simpa using D⟩
 |x::xs,cs,k+1,i,h=>by
  rw[iO]at h
  obtain⟨c,r,rfl,C,D⟩:=h
  obtain⟨E,F,e,H,I⟩:=iO.drop k (by simpa using i) D
  refine⟨E,F, ?_,H,by simpa using I⟩
  have:(k+1)*3=c.length+k*3:=by rw[C.len];omega
  rw[this,List.drop_append,Nat.add_sub_cancel_left,List.drop_eq_nil_of_le (by omega),e];rfl
theorem XZ{xs:List Fm}{a:T}{D:List T}(H:g8 a xs.length D)(E:iO xs D)(k:Nat)(F:k<xs.length):
  ∃b C r,(∀kk,sH a (.i kk (k:Int)) 3=some (.vp (.i .i64 xs[k].op:: .i .i64 xs[k].num::b::r)))∧g8 b xs[k].args.length C∧iO xs[k].args C:=by
 obtain⟨c,r,e,I,N⟩:=iO.drop k F E
 obtain⟨b,C,rfl,J,K⟩:=I.cells
 refine⟨b,C,r,fun kk=> ?_,J,K⟩
 rw[H.ia (sz:=3) E.len F,e];rfl
mutual
def Fm.val(at_:List Int):Fm→Int
 | .mk op num args=>if op=1 then num else if op=6 then at_.getD num.toNat 0 else FH op (lU at_ args)
def lU(at_:List Int):List Fm→List Int
 | []=> []
 |x::xs=>x.val at_::lU at_ xs
end
theorem Fm.val_eq(at_:List Int)(x:Fm):x.val at_=if x.op=1 then x.num else if x.op=6 then at_.getD x.num.toNat 0 else FH x.op (lU at_ x.args):=by obtain⟨_,_,_⟩:=x;rw[Fm.val];rfl
theorem wZ(at_:List Int): ∀xs,lU at_ xs=xs.map (Fm.val at_)
 | []=>rfl
 |x::xs=>by rw[lU,wZ at_ xs];rfl
mutual
def G9(at_:List Int):Fm→Prop
 | .mk op num args=>(op=1∧bd num)∨(op=6∧0≤num∧num.toNat<at_.length∧bd (at_.getD num.toNat 0))∨(7≤op∧op≤22∧jA op args.length=true∧args.length≤oQ∧Fb at_ args∧vOk op (lU at_ args))
def Fb(at_:List Int):List Fm→Prop
 | []=>True
 |x::xs=>G9 at_ x∧Fb at_ xs
end
theorem I5(at_:List Int)(x:Fm):G9 at_ x↔((x.op=1∧bd x.num)∨(x.op=6∧0≤x.num∧x.num.toNat<at_.length∧bd (at_.getD x.num.toNat 0))∨(7≤x.op∧x.op≤22∧jA x.op x.args.length=true∧x.args.length≤oQ∧Fb at_ x.args∧vOk x.op (lU at_ x.args))):=by obtain⟨_,_,_⟩:=x;rw[G9];rfl
theorem LK(at_:List Int): ∀{xs:List Fm},Fb at_ xs↔ ∀x∈xs,G9 at_ x
 | []=>by simp[Fb]
 |x::xs=>by rw[Fb,LK at_ (xs:=xs)];simp
mutual
def Fm.sz:Fm→Nat
 | .mk _ _ args=>1+yU args
def yU:List Fm→Nat
 | []=>0
 |x::xs=>x.sz+yU xs
end
theorem Fm.sz_eq(x:Fm):x.sz=1+yU x.args:=by obtain⟨_,_,_⟩:=x;rw[Fm.sz];rfl
theorem Er: ∀{xs:List Fm} {x:Fm},x∈xs→x.sz≤yU xs
 |y::xs,x,h=>by
  rw[yU]
  rcases List.mem_cons.1 h with rfl|h
  ·omega
  ·have:=Er h;omega
theorem Fm.ind{P:Fm→Prop}(h: ∀x:Fm,(∀y∈x.args,P y)→P x)(x:Fm):P x:=by
 have: ∀n (x:Fm),x.sz≤n→P x:=by
  intro n
  induction n with
  |zero=>intro x i;rw[x.sz_eq]at i;omega
  |succ n ih=>
   intro x i
   refine h x fun y r=>ih y ?_
   have:=Er r
   rw[x.sz_eq]at i;omega
 exact this _ x (Nat.le_refl _)
section
variable(at_:List Int)(nL:T)(jZ:g8 nL at_.length (ints at_))
def akl(f:Fm):Prop:= ∀(b:T) (C r:List T),g8 b f.args.length C→iO f.args C→G9 at_ f→gS pE 121 [.vp (.i .i64 f.op:: .i .i64 f.num::b::r),nL] []=some (.i .i64 (f.val at_),[])
include jZ
theorem atz{xs:List Fm}(ih: ∀y∈xs,akl at_ nL y){a:T}{D:List T}(E:g8 a xs.length D)(F:iO xs D)(H:Fb at_ xs)(k:Nat)(C:k<xs.length)(j:Int)(I:j=(k:Int)):
  ∃c,(∀kk,sH a (.i kk j) 3=some (.vp c))∧gS pE 121 [.vp c,nL] []=some (.i .i64 (xs[k].val at_),[]):=by
 have _:=jZ
 obtain⟨b,J,r,K,N,O⟩:=XZ E F k C
 subst I
 exact⟨_,K,ih xs[k] (List.getElem_mem C) b J r N O ((LK at_).1 H _ (List.getElem_mem C))⟩
theorem ayC(op num:Int)(Fi:op=12∨op=13)(xs:List Fm)(ih: ∀y∈xs,akl at_ nL y)(a:T)(N r:List T)(I:g8 a xs.length N)(Y:iO xs N)(Z:Fb at_ xs)(lI:0<xs.length)(O:xs.length≤oQ)(fr:Fr)(lh:hJ gR)(sh:List gR)
  (D:an fr 0= .vp (.i .i64 op:: .i .i64 num::a::r)) (E:an fr 1=nL) (F:an fr 5= .i .i64 (a0 (lU at_ xs))) (H:an fr 6= .i .i64 1):
  kV 155 sg fr lh sh (.ext 1)∧
  (an (kh pE 155 sg fr lh sh) 5= .i .i64 (Mf op (a0 (lU at_ xs)) (lU at_ xs).tail)∧kH pE 155 sg fr lh sh=lh∧kb pE 155 sg fr lh sh=sh):=by
 refine ib (P:=fun fr il iw=>an fr 5= .i .i64 (Mf op (a0 (lU at_ xs)) (lU at_ xs).tail)∧il=lh∧iw=sh) (ij (fun k st=> ∃(fr:Fr) (m:Int),st=⟨fr,lh,sh⟩∧an fr 0= .vp (.i .i64 op:: .i .i64 num::a::r)∧an fr 1=nL∧an fr 5= .i .i64 m∧an fr 6= .i .i64 (k:Int)∧Mf op m ((lU at_ xs).drop k)=Mf op (a0 (lU at_ xs)) (lU at_ xs).tail) _ xs.length ?_ ?_ 1 _ lI ⟨fr,a0 (lU at_ xs),rfl,D,E,F,H,by rw[List.drop_one]⟩)
 ·rintro k _ hk ⟨fr,m,rfl,D,E,F,H,C⟩
  left
  have U:(k:Int)<xs.length:=by omega
  have V:=iD (k:=k) (by omega)
  have W:(lU at_ xs).length=xs.length:=by rw[wZ];simp
  have J:(lU at_ xs)[k]'(by omega)=xs[k].val at_:=by simp[wZ]
  obtain⟨c,X,K⟩:=atz at_ nL jZ ih I Y Z k hk (k:Int) rfl
  rw[List.drop_eq_getElem_cons (by omega),Fa _ _ _ _ Fi,J]at C
  generalize xs[k].val at_=v at C K
  rcases Fi with rfl|rfl
  ·rw[if_pos rfl,show min m v=(if v<m then v else m)by split <;> omega]at C
   simp only[qA,seval,sg,D,E,F,H,I.lenI,U,X,V,K,wo,jZ.froz]
   refine⟨_,rfl,_,_,rfl, ?_, ?_, ?_, ?_,C⟩ <;> simp only[qA,seval,D,E]
  ·rw[if_neg (by decide),show max m v=(if v>m then v else m)by split <;> omega]at C
   simp only[qA,seval,sg,D,E,F,H,I.lenI,U,X,V,K,wo,jZ.froz]
   refine⟨_,rfl,_,_,rfl, ?_, ?_, ?_, ?_,C⟩ <;> simp only[qA,seval,D,E]
 ·rintro _ ⟨fr,m,rfl,D,E,F,H,C⟩
  have W:(lU at_ xs).length=xs.length:=by rw[wZ];simp
  rw[←W,List.drop_length,I4]at C
  simp only[qA,seval,sg,D,H,I.lenI,Int.lt_irrefl]
  exact⟨_,_,jB,rfl,rfl,by simp only[qA,seval,F,C],rfl,rfl⟩
theorem IG(f:Fm):akl at_ nL f:=by
 induction f using Fm.ind with
 |h f ih=>
  intro b cb r hb L9 rZ
  rw[gX Oo (by simp[tw]),Fm.val_eq]
  rcases(I5 at_ f).1 rZ with⟨h1,_⟩|⟨h6,hn1,hn2,_⟩|⟨h7,Tu,jy,CJ,atA,hv⟩
  ·rw[if_pos h1]
   simp only[qA,seval,tw,h1]
  ·rw[if_neg (by omega),if_pos h6]
   have iv:=fun kk=>pz jZ hn2 kk
   rw[Int.toNat_of_nonneg hn1]at iv
   have e:at_.getD f.num.toNat 0=at_[f.num.toNat]:=by simp[List.getD_eq_getElem?_getD,List.getElem?_eq_getElem hn2]
   rw[e]
   simp only[qA,seval,tw,h6,iv]
  ·rw[if_neg (by omega),if_neg (by omega)]
   have E:lU at_ f.args=f.args.map (Fm.val at_):=wZ at_ _
   have C: ∀(k:Nat) (O:k<f.args.length) (j:Int),j=(k:Int)→ ∃c,(∀kk,sH b (.i kk j) 3=some (.vp c))∧gS pE 121 [.vp c,nL] []=some (.i .i64 (f.args[k].val at_),[]):=fun k O j hj=>atz at_ nL jZ (fun y Y=>ih y Y) hb L9 atA k O j hj
   have U:0<f.args.length→(f.op=12∨f.op=13)→yJ tw.res tw.eff (DC pE tw.n tw.code ⟨pe [.vp (.i .i64 f.op:: .i .i64 f.num::b::r),nL],.nil,[]⟩)=some (.i .i64 (Mf f.op (a0 (lU at_ f.args)) (lU at_ f.args).tail),[]):=by
    intro Z ho
    obtain⟨V,BL,Hr⟩:=C 0 Z 0 rfl
    have hL:=fun fr lh sh=>ayC at_ nL jZ f.op f.num ho f.args (fun y Y=>ih y Y) b cb r hb L9 atA Z CJ fr lh sh
    have H:a0 (lU at_ f.args)=f.args[0].val at_:=by rw[E];unfold a0;simp[List.getD_eq_getElem?_getD,List.getElem?_eq_getElem Z]
    rw[H]at hL ⊢
    rcases ho with ho|ho <;> rw[ho]at hL ⊢ <;> simp only[qA,seval,tw,BL,Hr,wo,jZ.froz,hL]
   have Tb: ∀x y:Int,lU at_ f.args= [x,y]→(f.op=8∨f.op=9∨f.op=10∨f.op=11∨f.op=16∨f.op=17∨f.op=18∨f.op=20∨f.op=21∨f.op=22)→yJ tw.res tw.eff (DC pE tw.n tw.code ⟨pe [.vp (.i .i64 f.op:: .i .i64 f.num::b::r),nL],.nil,[]⟩)=some (.i .i64 (FH f.op [x,y]),[]):=by
    intro x y D ho
    have Tn:f.args.length=2:=by have:=congrArg List.length D;rw[E]at this;simpa using this
    obtain⟨V,BL,Hr⟩:=C 0 (by omega) 0 rfl
    obtain⟨c1,Zn,S9⟩:=C 1 (by omega) 1 rfl
    have H:f.args[0].val at_=x:=by
     have:(lU at_ f.args)[0]? =some x:=by rw[D];rfl
     rw[E]at this;simpa[List.getElem?_eq_getElem (show 0<f.args.length by omega)]using this
    have W:f.args[1].val at_=y:=by
     have:(lU at_ f.args)[1]? =some y:=by rw[D];rfl
     rw[E]at this;simpa[List.getElem?_eq_getElem (show 1<f.args.length by omega)]using this
    rw[H]at Hr
    rw[W]at S9
    rw[D]at hv
    have X:=Og f.op x y hv ho
    rcases ho with ho|ho|ho|ho|ho|ho|ho|ho|ho|ho <;> rw[ho]at X ⊢ <;> simp only[qA,seval,iR,iy,tw,BL,Zn,Hr,S9,wo,ad5,jZ.froz,X,apj,apk]
   have K: ∀(k:Nat) (O:k<f.args.length),(lU at_ f.args)[k]? =some (f.args[k].val at_):=fun k O=>by rw[E];simp[List.getElem?_eq_getElem O]
   rcases oO (show 1≤f.op by omega) Tu with h|h|h|h|h|h|h|h|h|h|h|h|h|h|h|h|h|h|h|h|h|h
   iterate 6 ·omega
   ·have L1:f.args.length=1:=by rw[h]at jy;simpa[jA]using jy
    obtain⟨x,F⟩:=N1 (ts:=lU at_ f.args) (by rw[E];simpa using L1)
    obtain⟨V,BL,Hr⟩:=C 0 (by omega) 0 rfl
    have H:f.args[0].val at_=x:=by have:=K 0 (by omega);rw[F]at this;simpa using this.symm
    rw[H]at Hr
    rw[F]at hv ⊢
    have I:=hv.1 x (by simp)
    have ha:=IZ (a:=0) (by unfold bd;omega) (ze I)
    have hw:=IY I
    rw[show(0:Int)+ -x= -x by omega,xT (ze I)]at ha
    rw[h]
    simp only[qA,seval,tw,BL,Hr,wo,jZ.froz,hw,ha,Vq];rfl
   ·obtain⟨x,y,D⟩:=mh (ts:=lU at_ f.args) (by rw[E];rw[h]at jy;simpa[jA]using jy)
    rw[D];exact Tb x y D (by omega)
   ·obtain⟨x,y,D⟩:=mh (ts:=lU at_ f.args) (by rw[E];rw[h]at jy;simpa[jA]using jy)
    rw[D];exact Tb x y D (by omega)
   ·obtain⟨x,y,D⟩:=mh (ts:=lU at_ f.args) (by rw[E];rw[h]at jy;simpa[jA]using jy)
    rw[D];exact Tb x y D (by omega)
   ·obtain⟨x,y,D⟩:=mh (ts:=lU at_ f.args) (by rw[E];rw[h]at jy;simpa[jA]using jy)
    rw[D];exact Tb x y D (by omega)
   ·rw[U (by rw[h]at jy;simp[jA]at jy;omega) (by omega),h];rfl
   ·rw[U (by rw[h]at jy;simp[jA]at jy;omega) (by omega),h];rfl
   ·have N:f.args.length=3:=by rw[h]at jy;simpa[jA]using jy
    obtain⟨x,y,z,F⟩:=yB (ts:=lU at_ f.args) (by rw[E];simpa using N)
    obtain⟨V,BL,Hr⟩:=C 0 (by omega) 0 rfl
    obtain⟨c1,Zn,S9⟩:=C 1 (by omega) 1 rfl
    obtain⟨c2,La,J⟩:=C 2 (by omega) 2 rfl
    have H:f.args[0].val at_=x:=by have:=K 0 (by omega);rw[F]at this;simpa using this.symm
    have W:f.args[1].val at_=y:=by have:=K 1 (by omega);rw[F]at this;simpa using this.symm
    have e2:f.args[2].val at_=z:=by have:=K 2 (by omega);rw[F]at this;simpa using this.symm
    rw[H]at Hr
    rw[W]at S9
    rw[e2]at J
    rw[F,h,show FH 14 [x,y,z]=if x=0 then z else y from rfl]
    by_cases hx0:x=0 <;> simp only[qA,seval,tw,BL,Zn,La,Hr,S9,J,wo,jZ.froz,hx0]
   ·have N:f.args.length=3:=by rw[h]at jy;simpa[jA]using jy
    obtain⟨x,y,z,F⟩:=yB (ts:=lU at_ f.args) (by rw[E];simpa using N)
    obtain⟨V,BL,Hr⟩:=C 0 (by omega) 0 rfl
    obtain⟨c1,Zn,S9⟩:=C 1 (by omega) 1 rfl
    obtain⟨c2,La,J⟩:=C 2 (by omega) 2 rfl
    have H:f.args[0].val at_=x:=by have:=K 0 (by omega);rw[F]at this;simpa using this.symm
    have W:f.args[1].val at_=y:=by have:=K 1 (by omega);rw[F]at this;simpa using this.symm
    have e2:f.args[2].val at_=z:=by have:=K 2 (by omega);rw[F]at this;simpa using this.symm
    rw[H]at Hr
    rw[W]at S9
    rw[e2]at J
    rw[F,h]
    have hi:=Od x y z
    have ht:=AX (ky x y z)
    simp only[qA,seval,iR,iy,tw,BL,Zn,La,Hr,S9,J,wo,ad5,jZ.froz,hi,ht,aph,api,OC,apg];rfl
   iterate 3
    ·obtain⟨x,y,D⟩:=mh (ts:=lU at_ f.args) (by rw[E];rw[h]at jy;simpa[jA]using jy)
     rw[D];exact Tb x y D (by omega)
   ·have L1:f.args.length=1:=by rw[h]at jy;simpa[jA]using jy
    obtain⟨x,F⟩:=N1 (ts:=lU at_ f.args) (by rw[E];simpa using L1)
    obtain⟨V,BL,Hr⟩:=C 0 (by omega) 0 rfl
    have H:f.args[0].val at_=x:=by have:=K 0 (by omega);rw[F]at this;simpa using this.symm
    rw[H]at Hr
    rw[F]at hv ⊢
    have I:=hv.2.1 (by omega) x (by simp)
    have hw:wr .i64 (1-x)=1-x:=by unfold bit at I;exact jL ⟨by omega,by omega⟩
    rw[h]
    simp only[qA,seval,tw,BL,Hr,wo,jZ.froz,hw];rfl
   iterate 3
    ·obtain⟨x,y,D⟩:=mh (ts:=lU at_ f.args) (by rw[E];rw[h]at jy;simpa[jA]using jy)
     rw[D];exact Tb x y D (by omega)
end
end Go.Proofs.YtblcbheipjeoeaaGreat
