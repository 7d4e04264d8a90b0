/- Bounded arithmetic: the program's and the reference's. Bounded products. Bounded products and quotients. Bounded quotients. Conditions: the theorems' own. -/
import Derived.Test.YtfenhjpkomldcaaGreatM5
import Derived.KernelRfl
set_option maxRecDepth 100000
set_option linter.unusedSimpArgs false
set_option linter.unusedVariables false
set_option maxHeartbeats 16000000
namespace Go.Proofs.YtfenhjpkomldcaaGreat
open Go Go.Ev
def bd(n:Int):Prop:= -1099511627776≤n∧n≤1099511627776
theorem df{x y:Bool}:mN (.one .bool) (.b x) (.b y)=some (x==y):=rfl
theorem oW(n:Int):bd (aV n):=by unfold bd aV;omega
theorem oX{n:Int}(h:bd n):aV n=n:=by unfold bd at h;unfold aV;omega
theorem xU(n:Int):(if(if n<1099511627776 then n else(1099511627776:Int))> -1099511627776 then(if n<1099511627776 then n else(1099511627776:Int))else-1099511627776)=aV n:=by
 unfold aV;split <;> split <;> omega
theorem sr(n:Int):ai pE 137 [.i .i64 n] []=some (.i .i64 (aV n),[]):=by
 rw[aG P0 (by simp[HU]),←xU]
 simp(maxDischargeDepth:=6) only[qF,ae,ah,aa,aj,ab,Int.reduceNeg,pL,bM,reduceCtorEq,Nat.reduceLT,HU]
theorem Ho(n:Int):ai pE 220 [.i .i64 n] []=some (.i .i64 (aV n),[]):=by
 rw[aG QO (by simp[If]),←xU]
 simp(maxDischargeDepth:=6) only[qF,ae,ah,aa,aj,ab,Int.reduceNeg,pL,bM,reduceCtorEq,Nat.reduceLT,If]
theorem LD{a b:Int}(ha:bd a)(hb:bd b):wr .i64 (a+b)=a+b:=by unfold bd at *; exact nX ⟨by omega,by omega⟩
theorem pO{a:Int}(ha:bd a):wr .i64 (0-a)= -a:=by unfold bd at *; rw[nX ⟨by omega,by omega⟩];omega
theorem oA{a:Int}(ha:bd a):bd (-a):=by unfold bd at *; omega
theorem zl{a b:Int}(ha:bd a)(hb:bd b):ai pE 140 [.i .i64 a,.i .i64 b] []=some (.i .i64 (aV (a+b)),[]):=by
 have hw:=LD ha hb
 have hc:=sr (a+b)
 clear ha hb
 rw[aG P1 (by simp[zX])]
 by_cases h1:0≤a
 ·have px: ¬a<0:=by omega
  by_cases h2:0≤b
  ·have h3: ¬a+b<0:=by omega
   simp(maxDischargeDepth:=6) only[qF,ae,ah,aa,aj,ab,an,Int.reduceNeg,reduceCtorEq,Nat.reduceLT,Nat.reduceEqDiff,zX,hw,hc,qf,h1,px,h2,h3]
  ·simp(maxDischargeDepth:=6) only[qF,ae,ah,aa,aj,ab,an,Int.reduceNeg,reduceCtorEq,Nat.reduceLT,Nat.reduceEqDiff,zX,hw,hc,qf,h1,px,h2]
 ·have px:a<0:=by omega
  by_cases h2:b<0
  ·have h3: ¬0≤a+b:=by omega
   simp(maxDischargeDepth:=6) only[qF,ae,ah,aa,aj,ab,an,Int.reduceNeg,reduceCtorEq,Nat.reduceLT,Nat.reduceEqDiff,zX,hw,hc,qf,h1,px,h2,h3]
  ·simp(maxDischargeDepth:=6) only[qF,ae,ah,aa,aj,ab,an,Int.reduceNeg,reduceCtorEq,Nat.reduceLT,Nat.reduceEqDiff,zX,hw,hc,qf,h1,px,h2]
theorem zn{a b:Int}(ha:bd a)(hb:bd b):ai pE 158 [.i .i64 a,.i .i64 b] []=some (.i .i64 (aV (a+b)),[]):=by
 have hw:=LD ha hb
 have hc:=Ho (a+b)
 clear ha hb
 rw[aG IF (by simp[xX])]
 by_cases h1:0<a
 ·have px: ¬a<0:=by omega
  by_cases h2:0<b
  ·have h3: ¬a+b<0:=by omega
   simp(maxDischargeDepth:=6) only[qF,ae,ah,aa,aj,ab,an,Int.reduceNeg,reduceCtorEq,Nat.reduceLT,Nat.reduceEqDiff,xX,hw,hc,Ae,h1,px,h2,h3]
  ·simp(maxDischargeDepth:=6) only[qF,ae,ah,aa,aj,ab,an,Int.reduceNeg,reduceCtorEq,Nat.reduceLT,Nat.reduceEqDiff,xX,hw,hc,Ae,h1,px,h2]
 ·by_cases px:a<0
  ·by_cases h2:b<0
   ·have h3: ¬0≤a+b:=by omega
    simp(maxDischargeDepth:=6) only[qF,ae,ah,aa,aj,ab,an,Int.reduceNeg,reduceCtorEq,Nat.reduceLT,Nat.reduceEqDiff,xX,hw,hc,Ae,h1,px,h2,h3]
   ·simp(maxDischargeDepth:=6) only[qF,ae,ah,aa,aj,ab,an,Int.reduceNeg,reduceCtorEq,Nat.reduceLT,Nat.reduceEqDiff,xX,hw,hc,Ae,h1,px,h2]
  ·simp(maxDischargeDepth:=6) only[qF,ae,ah,aa,aj,ab,an,Int.reduceNeg,reduceCtorEq,Nat.reduceLT,Nat.reduceEqDiff,xX,hw,hc,Ae,h1,px]
theorem LF{a:Int}(h:bd a)(h0: ¬a<0):wr .u64 a=(a.natAbs:Int):=by unfold bd at h;rw[kJ ⟨by omega,by omega⟩];omega
theorem Zx(n:Int):IntKind.wrap .u64 n=n%18446744073709551616:=by
 unfold IntKind.wrap
 have hb:(IntKind.u64).bits=64:=rfl
 simp only[hb]
 rw[if_neg (by simp[IntKind.signed])]
 rfl
theorem zo(n:Int):wr .u64 n=n%18446744073709551616:=by
 show(if(0:Int)≤n∧n≤18446744073709551615 then n else IntKind.wrap .u64 n)=_
 rw[Zx]
 split <;> omega
theorem Fe{a:Int}(h:bd a)(h0:a<0):wr .u64 (0-wr .u64 a)=(a.natAbs:Int):=by
 unfold bd at h
 rw[zo,zo];omega
theorem Ff{a:Int}(h:bd a):ai pE 245 [.i .i64 a] []=some (.i .u64 (a.natAbs:Int),[]):=by
 rw[aG QY (by simp[FG])]
 by_cases h0:a<0
 ·have hw:=Fe h h0
  simp(maxDischargeDepth:=6) only[qF,ae,ah,aa,aj,ab,reduceCtorEq,Nat.reduceLT,FG,h0,hw]
 ·have hw:=LF h h0
  simp(maxDischargeDepth:=6) only[qF,ae,ah,aa,aj,ab,an,reduceCtorEq,Nat.reduceLT,FG,h0,hw]
theorem tU{a:Int}(h:bd a):ai pE 221 [.i .i64 a] []=some (.i .u64 (a.natAbs:Int),[]):=by
 rw[aG QP (by simp[FA])]
 by_cases h0:a<0
 ·have hw:=Fe h h0
  simp(maxDischargeDepth:=6) only[qF,ae,ah,aa,aj,ab,reduceCtorEq,Nat.reduceLT,FA,h0,hw]
 ·have hw:=LF h h0
  simp(maxDischargeDepth:=6) only[qF,ae,ah,aa,aj,ab,an,reduceCtorEq,Nat.reduceLT,FA,h0,hw]
end Go.Proofs.YtfenhjpkomldcaaGreat
namespace Go.Proofs.YtfenhjpkomldcaaGreat
open Go Go.Ev
theorem Zy(P Q R S:Int)(hP:0≤P)(hQ:0≤Q)(hR:0≤R)(hS:0≤S):
  S+(Q+P/4294967296)/4294967296+((Q+P/4294967296)%4294967296+R)/4294967296=(S*18446744073709551616+(Q+R)*4294967296+P)/18446744073709551616:=by
 have e1:S*18446744073709551616+(Q+R)*4294967296+P=((S*4294967296+(Q+R))*4294967296+P):=by omega
 have e2:(18446744073709551616:Int)=4294967296*4294967296:=by decide
 rw[e1,e2,←Int.ediv_ediv_of_nonneg (by decide)]
 have e3:((S*4294967296+(Q+R))*4294967296+P)/4294967296=S*4294967296+(Q+R)+P/4294967296:=by
  rw[Int.add_comm,Int.add_mul_ediv_right _ _ (by decide)];omega
 rw[e3]
 generalize P/4294967296=p
 have e4:S*4294967296+(Q+R)+p=(Q+p+R)+S*4294967296:=by omega
 rw[e4,Int.add_mul_ediv_right _ _ (by decide)]
 generalize Q+p=t
 have e5:t+R=(t%4294967296+R)+(t/4294967296)*4294967296:=by omega
 rw[e5,Int.add_mul_ediv_right _ _ (by decide)]
 omega
theorem DK(x1 x0 y1 y0 c:Int):(x1*c+x0)*(y1*c+y0)=x1*y1*(c*c)+(x1*y0+x0*y1)*c+x0*y0:=by
 have a1:x1*c*(y1*c)=x1*y1*(c*c):=by ac_rfl
 have a2:x1*c*y0=x1*y0*c:=Int.mul_right_comm _ _ _
 have a3:x0*(y1*c)=x0*y1*c:=(Int.mul_assoc _ _ _).symm
 rw[Int.add_mul,Int.mul_add,Int.mul_add,Int.add_mul,a1,a2,a3]
 omega
theorem zp{a b A B:Int}(ha:0≤a)(hb:0≤b)(hA:a≤A)(hB:b≤B):0≤a*b∧a*b≤A*B:=
 ⟨Int.mul_nonneg ha hb,Int.mul_le_mul hA hB hb (by omega)⟩
theorem LG(X Y:Nat)(hX:X≤1099511627776)(hY:Y≤1099511627776):ai pE 244 [.i .u64 (X:Int),.i .u64 (Y:Int)] []=some (.tup [.i .u64 ((X:Int)*Y/18446744073709551616),.i .u64 ((X:Int)*Y%18446744073709551616)],[]):=by
 obtain⟨x1,IY⟩: ∃x1,x1=(X:Int)/4294967296:=⟨_,rfl⟩
 obtain⟨x0,ZL⟩: ∃x0,x0=(X:Int)%4294967296:=⟨_,rfl⟩
 obtain⟨y1,SM⟩: ∃y1,y1=(Y:Int)/4294967296:=⟨_,rfl⟩
 obtain⟨y0,hy0⟩: ∃y0,y0=(Y:Int)%4294967296:=⟨_,rfl⟩
 have hX':(X:Int)=x1*4294967296+x0:=by omega
 have hY':(Y:Int)=y1*4294967296+y0:=by omega
 have Z9:0≤x1∧x1≤256:=by omega
 have bx0:0≤x0∧x0≤4294967295:=by omega
 have by1:0≤y1∧y1≤256:=by omega
 have by0:0≤y0∧y0≤4294967295:=by omega
 have pr:(X:Int)*Y=x1*y1*18446744073709551616+(x1*y0+x0*y1)*4294967296+x0*y0:=by
  rw[hX',hY'];exact DK x1 x0 y1 y0 4294967296
 have bP:=zp bx0.1 by0.1 bx0.2 by0.2
 have bQ:=zp Z9.1 by0.1 Z9.2 by0.2
 have bR:=zp bx0.1 by1.1 bx0.2 by1.2
 have bS:=zp Z9.1 by1.1 Z9.2 by1.2
 have w0:wr .u64 (x0*y0)=x0*y0:=kJ ⟨bP.1,Int.le_trans bP.2 (by decide)⟩
 have w1:wr .u64 (x1*y0)=x1*y0:=kJ ⟨bQ.1,Int.le_trans bQ.2 (by decide)⟩
 have w2:wr .u64 (x0*y1)=x0*y1:=kJ ⟨bR.1,Int.le_trans bR.2 (by decide)⟩
 have w3:wr .u64 (x1*y1)=x1*y1:=kJ ⟨bS.1,Int.le_trans bS.2 (by decide)⟩
 have hhi:=Zy (x0*y0) (x1*y0) (x0*y1) (x1*y1) bP.1 bQ.1 bR.1 bS.1
 rw[←pr]at hhi
 have wlo:=zo ((X:Int)*Y)
 rw[aG QX (by simp[Ih]),←hhi]
 generalize hP:x0*y0=P at bP w0
 generalize hQ:x1*y0=Q at bQ w1
 generalize hR:x0*y1=R at bR w2
 generalize hS:x1*y1=S at bS w3
 have w4:wr .u64 (Q+P/4294967296)=Q+P/4294967296:=kJ ⟨by omega,by omega⟩
 have w5:wr .u64 ((Q+P/4294967296)%4294967296+R)=(Q+P/4294967296)%4294967296+R:=kJ ⟨by omega,by omega⟩
 have w6:wr .u64 (S+(Q+P/4294967296)/4294967296)=S+(Q+P/4294967296)/4294967296:=kJ ⟨by omega,by omega⟩
 have w7:wr .u64 (S+(Q+P/4294967296)/4294967296+((Q+P/4294967296)%4294967296+R)/4294967296)=S+(Q+P/4294967296)/4294967296+((Q+P/4294967296)%4294967296+R)/4294967296:=kJ ⟨by omega,by omega⟩
 simp(maxDischargeDepth:=6) only[qF,ae,ah,aa,aj,ab,reduceCtorEq,Nat.reduceLT,Nat.reduceEqDiff,Ih,Ow,Ox,←ZL,←IY,←hy0,←SM,hP,hQ,hR,hS,w0,w1,w2,w3,w4,w5,w6,w7,wlo]
theorem zq{a:Int}(h:bd a):a.natAbs≤1099511627776:=by unfold bd at h;omega
theorem Fg(a b:Int):(a.natAbs:Int)*(b.natAbs:Int)=((a*b).natAbs:Int):=by rw[Int.natAbs_mul];omega
theorem BT{a b:Int}(h:(a<0∧ ¬b<0)∨(¬a<0∧b<0)):a*b≤0:=by
 rcases h with⟨h1,h2⟩|⟨h1,h2⟩
 ·exact Int.mul_nonpos_of_nonpos_of_nonneg (by omega) (by omega)
 ·exact Int.mul_nonpos_of_nonneg_of_nonpos (by omega) (by omega)
theorem xV{a b:Int}(h:(a<0∧b<0)∨(¬a<0∧ ¬b<0)):0≤a*b:=by
 rcases h with⟨h1,h2⟩|⟨h1,h2⟩
 ·exact Int.mul_nonneg_of_nonpos_of_nonpos (by omega) (by omega)
 ·exact Int.mul_nonneg (by omega) (by omega)
theorem Fh{a b:Int}(ha:bd a)(hb:bd b):ai pE 213 [.i .i64 a,.i .i64 b] []=some (.i .i64 (aV (a*b)),[]):=by
 have h1:=Ff ha
 have h2:=Ff hb
 have h3:=LG a.natAbs b.natAbs (zq ha) (zq hb)
 rw[Fg]at h3
 have hs:= @BT a b
 have hp:= @xV a b
 rw[aG QF (by simp[oY])]
 generalize hx:a*b=x at*
 generalize kF:(x.natAbs:Int)/18446744073709551616=q1 at h3
 generalize nz:(x.natAbs:Int)%18446744073709551616=q2 at h3
 have key:(if q1≠0 then(1099511627776:Int)else if 1099511627776<q2 then 1099511627776 else q2)=min (x.natAbs:Int) 1099511627776:=by
  split
  ·omega
  ·split <;> omega
 by_cases c1:q1=0
 ·by_cases c2:(1099511627776:Int)<q2
  ·rw[if_neg (by simp[c1]),if_pos c2]at key
   by_cases s1:a<0
   ·by_cases s2:b<0
    ·have:=hp (.inl ⟨s1,s2⟩)
     have e:aV x=1099511627776:=by unfold aV;omega
     simp(maxDischargeDepth:=6) only[qF,ae,ah,aa,aj,ab,Int.reduceSub,Int.reduceNeg,reduceCtorEq,Nat.reduceLT,Nat.reduceEqDiff,Int.reduceLE,oY,h1,h2,h3,ns,nq,c1,c2,s1,s2,df,e];rfl
    ·have:=hs (.inl ⟨s1,s2⟩)
     have e:aV x= -1099511627776:=by unfold aV;omega
     simp(maxDischargeDepth:=6) only[qF,ae,ah,aa,aj,ab,an,Int.reduceSub,Int.reduceNeg,reduceCtorEq,Nat.reduceLT,Nat.reduceEqDiff,Int.reduceLE,oY,h1,h2,h3,ns,nq,c1,c2,s1,s2,df,e];rfl
   ·by_cases s2:b<0
    ·have:=hs (.inr ⟨s1,s2⟩)
     have e:aV x= -1099511627776:=by unfold aV;omega
     simp(maxDischargeDepth:=6) only[qF,ae,ah,aa,aj,ab,an,Int.reduceSub,Int.reduceNeg,reduceCtorEq,Nat.reduceLT,Nat.reduceEqDiff,Int.reduceLE,oY,h1,h2,h3,ns,nq,c1,c2,s1,s2,df,e];rfl
    ·have:=hp (.inr ⟨s1,s2⟩)
     have e:aV x=1099511627776:=by unfold aV;omega
     simp(maxDischargeDepth:=6) only[qF,ae,ah,aa,aj,ab,an,Int.reduceSub,Int.reduceNeg,reduceCtorEq,Nat.reduceLT,Nat.reduceEqDiff,Int.reduceLE,oY,h1,h2,h3,ns,nq,c1,c2,s1,s2,df,e];rfl
  ·rw[if_neg (by simp[c1]),if_neg c2]at key
   have w1:wr .i64 q2=q2:=nX ⟨by omega,by omega⟩
   have w2:wr .i64 (0-q2)= -q2:=by rw[nX ⟨by omega,by omega⟩];omega
   by_cases s1:a<0
   ·by_cases s2:b<0
    ·have:=hp (.inl ⟨s1,s2⟩)
     have e:aV x=q2:=by unfold aV;omega
     simp(maxDischargeDepth:=6) only[qF,ae,ah,aa,aj,ab,an,reduceCtorEq,Nat.reduceLT,Nat.reduceEqDiff,oY,h1,h2,h3,ns,nq,c1,c2,s1,s2,df,w1,w2,e];rfl
    ·have:=hs (.inl ⟨s1,s2⟩)
     have e:aV x= -q2:=by unfold aV;omega
     simp(maxDischargeDepth:=6) only[qF,ae,ah,aa,aj,ab,an,reduceCtorEq,Nat.reduceLT,Nat.reduceEqDiff,oY,h1,h2,h3,ns,nq,c1,c2,s1,s2,df,w1,w2,e];rfl
   ·by_cases s2:b<0
    ·have:=hs (.inr ⟨s1,s2⟩)
     have e:aV x= -q2:=by unfold aV;omega
     simp(maxDischargeDepth:=6) only[qF,ae,ah,aa,aj,ab,an,reduceCtorEq,Nat.reduceLT,Nat.reduceEqDiff,oY,h1,h2,h3,ns,nq,c1,c2,s1,s2,df,w1,w2,e];rfl
    ·have:=hp (.inr ⟨s1,s2⟩)
     have e:aV x=q2:=by unfold aV;omega
     simp(maxDischargeDepth:=6) only[qF,ae,ah,aa,aj,ab,an,reduceCtorEq,Nat.reduceLT,Nat.reduceEqDiff,oY,h1,h2,h3,ns,nq,c1,c2,s1,s2,df,w1,w2,e];rfl
 ·rw[if_pos c1]at key
  by_cases s1:a<0
  ·by_cases s2:b<0
   ·have:=hp (.inl ⟨s1,s2⟩)
    have e:aV x=1099511627776:=by unfold aV;omega
    simp(maxDischargeDepth:=6) only[qF,ae,ah,aa,aj,ab,an,Int.reduceSub,Int.reduceNeg,reduceCtorEq,Nat.reduceLT,Nat.reduceEqDiff,Int.reduceLE,oY,h1,h2,h3,ns,nq,c1,s1,s2,df,e];rfl
   ·have:=hs (.inl ⟨s1,s2⟩)
    have e:aV x= -1099511627776:=by unfold aV;omega
    simp(maxDischargeDepth:=6) only[qF,ae,ah,aa,aj,ab,an,Int.reduceSub,Int.reduceNeg,reduceCtorEq,Nat.reduceLT,Nat.reduceEqDiff,Int.reduceLE,oY,h1,h2,h3,ns,nq,c1,s1,s2,df,e];rfl
  ·by_cases s2:b<0
   ·have:=hs (.inr ⟨s1,s2⟩)
    have e:aV x= -1099511627776:=by unfold aV;omega
    simp(maxDischargeDepth:=6) only[qF,ae,ah,aa,aj,ab,an,Int.reduceSub,Int.reduceNeg,reduceCtorEq,Nat.reduceLT,Nat.reduceEqDiff,Int.reduceLE,oY,h1,h2,h3,ns,nq,c1,s1,s2,df,e];rfl
   ·have:=hp (.inr ⟨s1,s2⟩)
    have e:aV x=1099511627776:=by unfold aV;omega
    simp(maxDischargeDepth:=6) only[qF,ae,ah,aa,aj,ab,an,Int.reduceSub,Int.reduceNeg,reduceCtorEq,Nat.reduceLT,Nat.reduceEqDiff,Int.reduceLE,oY,h1,h2,h3,ns,nq,c1,s1,s2,df,e];rfl
end Go.Proofs.YtfenhjpkomldcaaGreat
namespace Go.Proofs.YtfenhjpkomldcaaGreat
open Go Go.Ev
theorem BU{a b:Int}(h:b≠0):Ev.bin .quo (.i .u64 a) (.i .u64 b)=some (.i .u64 (wr .u64 (a.tdiv b))):=by
 simp only[Ev.bin,if_true,mM,if_neg h]
theorem LH{a b:Int}(h:b≠0):Ev.bin .rem (.i .u64 a) (.i .u64 b)=some (.i .u64 (a.tmod b)):=by
 simp only[Ev.bin,if_true,mM,if_neg h]
theorem LI{a b:Int}(h:b≠0):Ev.bin .quo (.i .i64 a) (.i .i64 b)=some (.i .i64 (wr .i64 (a.tdiv b))):=by
 simp only[Ev.bin,if_true,mM,if_neg h]
theorem LJ{a b:Int}(h:b≠0):Ev.bin .rem (.i .i64 a) (.i .i64 b)=some (.i .i64 (a.tmod b)):=by
 simp only[Ev.bin,if_true,mM,if_neg h]
theorem UN(x y:Nat)(hy:0<y):((x:Int)≤(1099511627776:Int).tdiv (y:Int))↔(x:Int)*y≤1099511627776:=by
 have e:(1099511627776:Int).tdiv (y:Int)=((1099511627776/y:Nat):Int):=rfl
 rw[e]
 have:=Nat.le_div_iff_mul_le hy (x:=x) (y:=1099511627776)
 have h2:(x:Int)*y=((x*y:Nat):Int):=by simp
 rw[h2];omega
theorem Pz{a b:Int}(ha:bd a)(hb:bd b):ai pE 159 [.i .i64 a,.i .i64 b] []=some (.i .i64 (aV (a*b)),[]):=by
 have h1:=tU ha
 have h2:=tU hb
 have hs:= @BT a b
 have hp:= @xV a b
 have LK:=Fg a b
 rw[aG IH (by simp[qd])]
 by_cases a0:a=0
 ·subst a0
  simp(maxDischargeDepth:=6) only[qF,ae,ah,aa,aj,ab,reduceCtorEq,Nat.reduceLT,Nat.reduceEqDiff,qd,Int.zero_mul];rfl
 by_cases b0:b=0
 ·subst b0
  simp(maxDischargeDepth:=6) only[qF,ae,ah,aa,aj,ab,an,reduceCtorEq,Nat.reduceLT,Nat.reduceEqDiff,qd,Int.mul_zero,a0];rfl
 have hle:=UN a.natAbs b.natAbs (by omega)
 have hbn:((b.natAbs:Nat):Int)≠0:=by omega
 have hq:Ev.bin .quo (.i .u64 1099511627776) (.i .u64 (b.natAbs:Int))=some (.i .u64 ((1099511627776:Int).tdiv (b.natAbs:Int))):=by
  rw[BU hbn]
  have e:(1099511627776:Int).tdiv (b.natAbs:Int)=((1099511627776/b.natAbs:Nat):Int):=rfl
  rw[e,kJ ⟨Int.natCast_nonneg _,Int.le_trans (Int.ofNat_le.2 (Nat.div_le_self _ _)) (by decide)⟩]
 rw[LK]at hle
 generalize (1099511627776:Int).tdiv (b.natAbs:Int)=q at hle hq
 generalize hx:a*b=x at*
 have w1:x.natAbs≤1099511627776→wr .u64 (x.natAbs:Int)=(x.natAbs:Int):=fun h=>kJ ⟨by omega,by omega⟩
 have w2:x.natAbs≤1099511627776→wr .i64 (x.natAbs:Int)=(x.natAbs:Int):=fun h=>nX ⟨by omega,by omega⟩
 have w3:x.natAbs≤1099511627776→wr .i64 (0-(x.natAbs:Int))= -(x.natAbs:Int):=fun h=>by rw[nX ⟨by omega,by omega⟩];omega
 by_cases c:(a.natAbs:Int)≤q
 ·have hc:=hle.1 c
  have w1':=w1 (by omega)
  have w2':=w2 (by omega)
  have w3':=w3 (by omega)
  by_cases s1:a<0
  ·by_cases s2:b<0
   ·have:=hp (.inl ⟨s1,s2⟩)
    have e:aV x=(x.natAbs:Int):=by unfold aV;omega
    simp(maxDischargeDepth:=6) only[qF,ae,ah,aa,aj,ab,an,reduceCtorEq,Nat.reduceLT,Nat.reduceEqDiff,qd,h1,h2,jR,a0,b0,hq,LK,df,c,s1,s2,w1',w2',w3',e];rfl
   ·have:=hs (.inl ⟨s1,s2⟩)
    have e:aV x= -(x.natAbs:Int):=by unfold aV;omega
    simp(maxDischargeDepth:=6) only[qF,ae,ah,aa,aj,ab,an,reduceCtorEq,Nat.reduceLT,Nat.reduceEqDiff,qd,h1,h2,jR,a0,b0,hq,LK,df,c,s1,s2,w1',w2',w3',e];rfl
  ·by_cases s2:b<0
   ·have:=hs (.inr ⟨s1,s2⟩)
    have e:aV x= -(x.natAbs:Int):=by unfold aV;omega
    simp(maxDischargeDepth:=6) only[qF,ae,ah,aa,aj,ab,an,reduceCtorEq,Nat.reduceLT,Nat.reduceEqDiff,qd,h1,h2,jR,a0,b0,hq,LK,df,c,s1,s2,w1',w2',w3',e];rfl
   ·have:=hp (.inr ⟨s1,s2⟩)
    have e:aV x=(x.natAbs:Int):=by unfold aV;omega
    simp(maxDischargeDepth:=6) only[qF,ae,ah,aa,aj,ab,an,reduceCtorEq,Nat.reduceLT,Nat.reduceEqDiff,qd,h1,h2,jR,a0,b0,hq,LK,df,c,s1,s2,w1',w2',w3',e];rfl
 ·have hc: ¬(x.natAbs:Int)≤1099511627776:=fun h=>c (hle.2 h)
  by_cases s1:a<0
  ·by_cases s2:b<0
   ·have:=hp (.inl ⟨s1,s2⟩)
    have e:aV x=1099511627776:=by unfold aV;omega
    simp(maxDischargeDepth:=6) only[qF,ae,ah,aa,aj,ab,an,Int.reduceSub,Int.reduceNeg,reduceCtorEq,Nat.reduceLT,Nat.reduceEqDiff,Int.reduceLE,qd,h1,h2,jR,a0,b0,hq,LK,df,c,s1,s2,e];rfl
   ·have:=hs (.inl ⟨s1,s2⟩)
    have e:aV x= -1099511627776:=by unfold aV;omega
    simp(maxDischargeDepth:=6) only[qF,ae,ah,aa,aj,ab,an,Int.reduceSub,Int.reduceNeg,reduceCtorEq,Nat.reduceLT,Nat.reduceEqDiff,Int.reduceLE,qd,h1,h2,jR,a0,b0,hq,LK,df,c,s1,s2,e];rfl
  ·by_cases s2:b<0
   ·have:=hs (.inr ⟨s1,s2⟩)
    have e:aV x= -1099511627776:=by unfold aV;omega
    simp(maxDischargeDepth:=6) only[qF,ae,ah,aa,aj,ab,an,Int.reduceSub,Int.reduceNeg,reduceCtorEq,Nat.reduceLT,Nat.reduceEqDiff,Int.reduceLE,qd,h1,h2,jR,a0,b0,hq,LK,df,c,s1,s2,e];rfl
   ·have:=hp (.inr ⟨s1,s2⟩)
    have e:aV x=1099511627776:=by unfold aV;omega
    simp(maxDischargeDepth:=6) only[qF,ae,ah,aa,aj,ab,an,Int.reduceSub,Int.reduceNeg,reduceCtorEq,Nat.reduceLT,Nat.reduceEqDiff,Int.reduceLE,qd,h1,h2,jR,a0,b0,hq,LK,df,c,s1,s2,e];rfl
end Go.Proofs.YtfenhjpkomldcaaGreat
namespace Go.Proofs.YtfenhjpkomldcaaGreat
open Go Go.Ev
theorem bq1:((true==true) != false)=true:=nr rfl
theorem bq2:((false==false) != false)=true:=nr rfl
theorem bq3:((true==false) != false)=false:=nr rfl
theorem bq4:((false==true) != false)=false:=nr rfl
theorem bq5:((true==true) != true)=false:=nr rfl
theorem bq6:((false==false) != true)=false:=nr rfl
theorem bq7:((true==false) != true)=true:=nr rfl
theorem bq8:((false==true) != true)=true:=nr rfl
theorem Hp{a b:Int}(hb:b≠0)(h:(a<0∧b<0)∨(¬a<0∧ ¬b<0)):a.fdiv b=((a.natAbs/b.natAbs:Nat):Int):=by
 rcases h with⟨h1,h2⟩|⟨h1,h2⟩
 ·rw[←Int.neg_fdiv_neg,Int.fdiv_eq_ediv_of_nonneg _ (by omega)]
  have e1: -a=((a.natAbs:Nat):Int):=by omega
  have e2: -b=((b.natAbs:Nat):Int):=by omega
  rw[e1,e2];rfl
 ·rw[Int.fdiv_eq_ediv_of_nonneg _ (by omega)]
  have e1:a=((a.natAbs:Nat):Int):=by omega
  have e2:b=((b.natAbs:Nat):Int):=by omega
  conv=>lhs;rw[e1,e2]
  rfl
theorem BV(x y:Nat):(x:Int).fdiv (y:Int)=((x/y:Nat):Int):=by rw[Int.fdiv_eq_ediv_of_nonneg _ (by omega)];rfl
theorem tV(x y:Nat):((y:Int)∣(x:Int))↔x%y=0:=by rw[Int.natCast_dvd_natCast];exact Nat.dvd_iff_mod_eq_zero
def upN(x y:Nat):Nat:=x/y+if 0<x%y then 1 else 0
theorem Hq{a b:Int}(hb:b≠0)(h:(a<0∧ ¬b<0)∨(¬a<0∧b<0)):a.fdiv b= -((upN a.natAbs b.natAbs:Nat):Int):=by
 unfold upN
 rcases h with⟨h1,h2⟩|⟨h1,h2⟩
 ·have e1:a= -((a.natAbs:Nat):Int):=by omega
  have e2:b=((b.natAbs:Nat):Int):=by omega
  have hy:b.natAbs≠0:=by omega
  generalize a.natAbs=x,b.natAbs=y at*
  subst e1 e2
  rw[Int.neg_fdiv,BV]
  by_cases hd:x%y=0
  ·rw[if_pos (Or.inr ((tV x y).2 hd)),if_neg (by omega)];omega
  ·rw[if_neg (by rintro(h|h)
                 ·omega
                 ·exact hd ((tV x y).1 h)),if_pos (by omega)];omega
 ·have e1:a=((a.natAbs:Nat):Int):=by omega
  have e2:b= -((b.natAbs:Nat):Int):=by omega
  have hy:((b.natAbs:Nat):Int)≠0:=by omega
  generalize a.natAbs=x,b.natAbs=y at*
  subst e1 e2
  rw[Int.fdiv_neg hy,BV]
  by_cases hd:x%y=0
  ·rw[if_pos ((tV x y).2 hd),if_neg (by omega)];omega
  ·rw[if_neg (fun h=>hd ((tV x y).1 h)),if_pos (by omega)];omega
theorem DL(a b:Int)(h:bd a):a.natAbs/b.natAbs≤1099511627776:=Nat.le_trans (Nat.div_le_self _ _) (zq h)
theorem PA{a b:Int}(ha:bd a)(hb:bd b):ai pE 160 [.i .i64 a,.i .i64 b] []=some (.i .i64 (Dz a b),[]):=by
 have h1:=tU ha
 have h2:=tU hb
 rw[aG II (by simp[rD])]
 unfold Dz
 by_cases b0:b=0
 ·subst b0
  simp(maxDischargeDepth:=6) only[qF,ae,ah,aa,aj,ab,reduceCtorEq,Nat.reduceLT,Nat.reduceEqDiff,rD]
 rw[if_neg b0]
 have hbn:((b.natAbs:Nat):Int)≠0:=by omega
 have aeF:=DL a b ha
 have hq:Ev.bin .quo (.i .u64 (a.natAbs:Int)) (.i .u64 (b.natAbs:Int))=some (.i .u64 ((a.natAbs/b.natAbs:Nat):Int)):=by
  rw[BU hbn]
  have e:(a.natAbs:Int).tdiv (b.natAbs:Int)=((a.natAbs/b.natAbs:Nat):Int):=rfl
  rw[e,kJ ⟨Int.natCast_nonneg _,Int.le_trans (Int.ofNat_le.2 aeF) (by decide)⟩]
 have hr:Ev.bin .rem (.i .u64 (a.natAbs:Int)) (.i .u64 (b.natAbs:Int))=some (.i .u64 ((a.natAbs%b.natAbs:Nat):Int)):=by
  rw[LH hbn];rfl
 have gP:= @Hp a b b0
 have LL:= @Hq a b b0
 unfold upN at LL
 generalize a.natAbs/b.natAbs=q at*
 generalize a.natAbs%b.natAbs=r at*
 have m1: ∀n:Nat,¬(1099511627776:Int)<(n:Int)→wr .i64 (n:Int)=(n:Int):=fun n h=>nX ⟨by omega,by omega⟩
 have m2: ∀n:Nat,¬(1099511627776:Int)<(n:Int)→wr .i64 (0-(n:Int))= -(n:Int):=fun n h=>by rw[nX ⟨by omega,by omega⟩];omega
 have HC: ¬(1099511627776:Int)<(q:Int):=by omega
 by_cases s1:a<0
 ·by_cases s2:b<0
  ·have:=gP (.inl ⟨s1,s2⟩)
   rw[this,oX (by unfold bd;omega)]
   by_cases Hr:(1099511627776:Int)<(q:Int)
   ·exact absurd Hr HC
   ·simp(maxDischargeDepth:=6) only[qF,ae,ah,aa,aj,ab,an,pL,bM,reduceCtorEq,Nat.reduceLT,Nat.reduceEqDiff,rD,h1,h2,jR,b0,hq,df,gt_iff_lt,s1,s2,HC,m1 q HC,bq1]
  ·have:=LL (.inl ⟨s1,s2⟩)
   rw[this]
   by_cases Rq:0<r
   ·have dA:(0:Int)<(r:Int):=by omega
    rw[if_pos Rq]
    have w1:wr .u64 ((q:Int)+1)=((q+1:Nat):Int):=by rw[kJ ⟨by omega,by omega⟩];omega
    by_cases Hr:(1099511627776:Int)<((q+1:Nat):Int)
    ·have e:aV (-((q+1:Nat):Int))= -1099511627776:=by unfold aV;omega
     simp(maxDischargeDepth:=6) only[qF,ae,ah,aa,aj,ab,an,Int.reduceSub,Int.reduceNeg,pL,bM,reduceCtorEq,Nat.reduceLT,Nat.reduceEqDiff,Int.reduceLE,rD,h1,h2,jR,b0,hq,hr,df,gt_iff_lt,bq3,s1,s2,dA,w1,Hr,e]
    ·have e:aV (-((q+1:Nat):Int))= -((q+1:Nat):Int):=by unfold aV;omega
     simp(maxDischargeDepth:=6) only[qF,ae,ah,aa,aj,ab,an,pL,bM,reduceCtorEq,Nat.reduceLT,Nat.reduceEqDiff,rD,h1,h2,jR,b0,hq,hr,df,gt_iff_lt,bq3,s1,s2,dA,w1,Hr,e,m1 _ Hr,m2 _ Hr]
   ·have dA: ¬(0:Int)<(r:Int):=by omega
    rw[if_neg Rq,Nat.add_zero]
    have e:aV (-(q:Int))= -(q:Int):=by unfold aV;omega
    simp(maxDischargeDepth:=6) only[qF,ae,ah,aa,aj,ab,an,pL,bM,reduceCtorEq,Nat.reduceLT,Nat.reduceEqDiff,rD,h1,h2,jR,b0,hq,hr,df,gt_iff_lt,bq3,s1,s2,dA,HC,e,m1 _ HC,m2 _ HC]
 ·by_cases s2:b<0
  ·have:=LL (.inr ⟨s1,s2⟩)
   rw[this]
   by_cases Rq:0<r
   ·have dA:(0:Int)<(r:Int):=by omega
    rw[if_pos Rq]
    have w1:wr .u64 ((q:Int)+1)=((q+1:Nat):Int):=by rw[kJ ⟨by omega,by omega⟩];omega
    by_cases Hr:(1099511627776:Int)<((q+1:Nat):Int)
    ·have e:aV (-((q+1:Nat):Int))= -1099511627776:=by unfold aV;omega
     simp(maxDischargeDepth:=6) only[qF,ae,ah,aa,aj,ab,an,Int.reduceSub,Int.reduceNeg,pL,bM,reduceCtorEq,Nat.reduceLT,Nat.reduceEqDiff,Int.reduceLE,rD,h1,h2,jR,b0,hq,hr,df,gt_iff_lt,bq4,s1,s2,dA,w1,Hr,e]
    ·have e:aV (-((q+1:Nat):Int))= -((q+1:Nat):Int):=by unfold aV;omega
     simp(maxDischargeDepth:=6) only[qF,ae,ah,aa,aj,ab,an,pL,bM,reduceCtorEq,Nat.reduceLT,Nat.reduceEqDiff,rD,h1,h2,jR,b0,hq,hr,df,gt_iff_lt,bq4,s1,s2,dA,w1,Hr,e,m1 _ Hr,m2 _ Hr]
   ·have dA: ¬(0:Int)<(r:Int):=by omega
    rw[if_neg Rq,Nat.add_zero]
    have e:aV (-(q:Int))= -(q:Int):=by unfold aV;omega
    simp(maxDischargeDepth:=6) only[qF,ae,ah,aa,aj,ab,an,pL,bM,reduceCtorEq,Nat.reduceLT,Nat.reduceEqDiff,rD,h1,h2,jR,b0,hq,hr,df,gt_iff_lt,bq4,s1,s2,dA,HC,e,m1 _ HC,m2 _ HC]
  ·have:=gP (.inr ⟨s1,s2⟩)
   rw[this,oX (by unfold bd;omega)]
   by_cases Hr:(1099511627776:Int)<(q:Int)
   ·exact absurd Hr HC
   ·simp(maxDischargeDepth:=6) only[qF,ae,ah,aa,aj,ab,an,pL,bM,reduceCtorEq,Nat.reduceLT,Nat.reduceEqDiff,rD,h1,h2,jR,b0,hq,df,gt_iff_lt,s1,s2,HC,m1 q HC,bq2]
theorem PB:bd (-1):=by unfold bd;omega
theorem PC{a b:Int}(ha:bd a)(hb:bd b):ai pE 214 [.i .i64 a,.i .i64 b] []=some (.i .i64 (Dz a b),[]):=by
 have hm:=Fh ha PB
 rw[aG QH (by simp[ui])]
 unfold Dz
 by_cases b0:b=0
 ·subst b0
  simp(maxDischargeDepth:=6) only[qF,ae,ah,aa,aj,ab,an,Int.reduceNeg,reduceCtorEq,Nat.reduceLT,Nat.reduceEqDiff,ui]
 rw[if_neg b0]
 by_cases b1:b= -1
 ·subst b1
  have e:a.fdiv (-1)=a* -1:=by
   have:=Int.fdiv_neg (a:=a) (b:=1) (by decide)
   rw[if_pos (Int.one_dvd a),Int.fdiv_one]at this
   rw[this];omega
  rw[e]
  simp(maxDischargeDepth:=6) only[qF,ae,ah,aa,aj,ab,an,Int.reduceNeg,reduceCtorEq,Nat.reduceLT,Nat.reduceEqDiff,ui,hm,QG]
 have hf:= @Int.fdiv_eq_tdiv a b
 have hd:= @Int.dvd_iff_tmod_eq_zero b a
 have hle:=Int.natAbs_tdiv_le_natAbs a b
 have hna:=zq ha
 have Zz:Ev.bin .quo (.i .i64 a) (.i .i64 b)=some (.i .i64 (a.tdiv b)):=by
  rw[LI b0,nX ⟨by omega,by omega⟩]
 have ep:=LJ (a:=a) b0
 have vU:=sr (a.tdiv b)
 have ni:=sr (a.tdiv b-1)
 have w1:wr .i64 (a.tdiv b-1)=a.tdiv b-1:=nX ⟨by omega,by omega⟩
 generalize a.tdiv b=q at*
 generalize a.tmod b=r at*
 by_cases r0:r=0
 ·have e:a.fdiv b=q:=by rw[hf,if_pos (hd.2 r0)];omega
  rw[e]
  simp(maxDischargeDepth:=6) only[qF,ae,ah,aa,aj,ab,an,Int.reduceNeg,reduceCtorEq,Nat.reduceLT,Nat.reduceEqDiff,ui,b0,b1,Zz,ep,r0,vU,qf]
 ·rw[if_neg (fun h=>r0 (hd.1 h))]at hf
  by_cases s1:a<0
  ·by_cases s2:b<0
   ·have e:a.fdiv b=q:=by rw[hf,if_neg (by omega),if_neg (by omega),Int.sign_eq_neg_one_of_neg s2];omega
    rw[e]
    simp(maxDischargeDepth:=6) only[qF,ae,ah,aa,aj,ab,an,Int.reduceNeg,reduceCtorEq,Nat.reduceLT,Nat.reduceEqDiff,ui,b0,b1,Zz,ep,r0,vU,qf,s1,s2,df,bq5]
   ·have e:a.fdiv b=q-1:=by rw[hf,if_neg (by omega),if_pos (by omega),Int.sign_eq_one_of_pos (by omega)]
    rw[e]
    simp(maxDischargeDepth:=6) only[qF,ae,ah,aa,aj,ab,an,Int.reduceNeg,reduceCtorEq,Nat.reduceLT,Nat.reduceEqDiff,ui,b0,b1,Zz,ep,r0,ni,qf,s1,s2,df,bq7,w1]
  ·by_cases s2:b<0
   ·have e:a.fdiv b=q-1:=by rw[hf,if_pos (by omega),if_neg (by omega)]
    rw[e]
    simp(maxDischargeDepth:=6) only[qF,ae,ah,aa,aj,ab,an,Int.reduceNeg,reduceCtorEq,Nat.reduceLT,Nat.reduceEqDiff,ui,b0,b1,Zz,ep,r0,ni,qf,s1,s2,df,bq8,w1]
   ·have e:a.fdiv b=q:=by rw[hf,if_pos (by omega),if_pos (by omega)];omega
    rw[e]
    simp(maxDischargeDepth:=6) only[qF,ae,ah,aa,aj,ab,an,Int.reduceNeg,reduceCtorEq,Nat.reduceLT,Nat.reduceEqDiff,ui,b0,b1,Zz,ep,r0,vU,qf,s1,s2,df,bq6]
theorem PD(a b:Int):bd (Dz a b):=by
 unfold Dz
 split
 ·unfold bd;omega
 ·exact oW _
end Go.Proofs.YtfenhjpkomldcaaGreat
