/- Bounded arithmetic: the program's and the reference's. Bounded products. Bounded products and quotients. Bounded quotients. Conditions: the theorems' own. -/
import Derived.Test.YtfenhjpkomldcaaGreatM5
import Derived.KernelRfl
set_option maxRecDepth 100000
set_option linter.unusedSimpArgs false
set_option linter.unusedVariables false
set_option maxHeartbeats 16000000
namespace Go.Proofs.YtfenhjpkomldcaaGreat
open Go Go.Ev
def bd(n:Int):Prop:= -1099511627776≤n∧n≤1099511627776
theorem eqT_b{x y:Bool}:eqT (.one .bool) (.b x) (.b y)=some (x==y):=rfl
theorem clampS_bd(n:Int):bd (clampS n):=by unfold bd clampS;omega
theorem clampS_of{n:Int}(h:bd n):clampS n=n:=by unfold bd at h;unfold clampS;omega
theorem clamp_ite(n:Int):(if(if n<1099511627776 then n else(1099511627776:Int))> -1099511627776 then(if n<1099511627776 then n else(1099511627776:Int))else-1099511627776)=clampS n:=by
 unfold clampS;split <;> split <;> omega
theorem pclamp_ev(n:Int):DCall pE 137 [.i .i64 n] []=some (.i .i64 (clampS n),[]):=by
 rw[p_fun fn137 (by simp[c137]),←clamp_ite]
 simp(maxDischargeDepth:=6) only[qF,qGO0,qGO1,qGO2,qGO3,qGO4,Int.reduceNeg,mmV,minmax,reduceCtorEq,Nat.reduceLT,c137]
theorem wr_sum{a b:Int}(ha:bd a)(hb:bd b):wr .i64 (a+b)=a+b:=by unfold bd at *; exact wr64 ⟨by omega,by omega⟩
theorem wr_neg{a:Int}(ha:bd a):wr .i64 (0-a)= -a:=by unfold bd at *; rw[wr64 ⟨by omega,by omega⟩];omega
theorem bd_neg{a:Int}(ha:bd a):bd (-a):=by unfold bd at *; omega
theorem padd_ev{a b:Int}(ha:bd a)(hb:bd b):DCall pE 140 [.i .i64 a,.i .i64 b] []=some (.i .i64 (clampS (a+b)),[]):=by
 have hw:=wr_sum ha hb
 have hc:=pclamp_ev (a+b)
 clear ha hb
 rw[p_fun fn140 (by simp[c140])]
 by_cases h1:0≤a
 ·have h1': ¬a<0:=by omega
  by_cases h2:0≤b
  ·have h3: ¬a+b<0:=by omega
   simp(maxDischargeDepth:=6) only[qF,qGO0,qGO1,qGO2,qGO3,qGO4,qGO5,Int.reduceNeg,reduceCtorEq,Nat.reduceLT,Nat.reduceEqDiff,c140,hw,hc,dc137,h1,h1',h2,h3]
  ·simp(maxDischargeDepth:=6) only[qF,qGO0,qGO1,qGO2,qGO3,qGO4,qGO5,Int.reduceNeg,reduceCtorEq,Nat.reduceLT,Nat.reduceEqDiff,c140,hw,hc,dc137,h1,h1',h2]
 ·have h1':a<0:=by omega
  by_cases h2:b<0
  ·have h3: ¬0≤a+b:=by omega
   simp(maxDischargeDepth:=6) only[qF,qGO0,qGO1,qGO2,qGO3,qGO4,qGO5,Int.reduceNeg,reduceCtorEq,Nat.reduceLT,Nat.reduceEqDiff,c140,hw,hc,dc137,h1,h1',h2,h3]
  ·simp(maxDischargeDepth:=6) only[qF,qGO0,qGO1,qGO2,qGO3,qGO4,qGO5,Int.reduceNeg,reduceCtorEq,Nat.reduceLT,Nat.reduceEqDiff,c140,hw,hc,dc137,h1,h1',h2]
theorem wr_pos{a:Int}(h:bd a)(h0: ¬a<0):wr .u64 a=(a.natAbs:Int):=by unfold bd at h;rw[wru64 ⟨by omega,by omega⟩];omega
theorem wrapU(n:Int):IntKind.wrap .u64 n=n%18446744073709551616:=by
 unfold IntKind.wrap
 have hb:(IntKind.u64).bits=64:=rfl
 simp only[hb]
 rw[if_neg (by simp[IntKind.signed])]
 rfl
theorem wru_mod(n:Int):wr .u64 n=n%18446744073709551616:=by
 show(if(0:Int)≤n∧n≤18446744073709551615 then n else IntKind.wrap .u64 n)=_
 rw[wrapU]
 split <;> omega
theorem wr_negU{a:Int}(h:bd a)(h0:a<0):wr .u64 (0-wr .u64 a)=(a.natAbs:Int):=by
 unfold bd at h
 rw[wru_mod,wru_mod];omega
theorem pmag_ev{a:Int}(h:bd a):DCall pE 245 [.i .i64 a] []=some (.i .u64 (a.natAbs:Int),[]):=by
 rw[p_fun fn245 (by simp[c245])]
 by_cases h0:a<0
 ·have hw:=wr_negU h h0
  simp(maxDischargeDepth:=6) only[qF,qGO0,qGO1,qGO2,qGO3,qGO4,reduceCtorEq,Nat.reduceLT,c245,h0,hw]
 ·have hw:=wr_pos h h0
  simp(maxDischargeDepth:=6) only[qF,qGO0,qGO1,qGO2,qGO3,qGO4,qGO5,reduceCtorEq,Nat.reduceLT,c245,h0,hw]
end Go.Proofs.YtfenhjpkomldcaaGreat
namespace Go.Proofs.YtfenhjpkomldcaaGreat
open Go Go.Ev
theorem hi_eq(P Q R S:Int)(hP:0≤P)(hQ:0≤Q)(hR:0≤R)(hS:0≤S):
  S+(Q+P/4294967296)/4294967296+((Q+P/4294967296)%4294967296+R)/4294967296=(S*18446744073709551616+(Q+R)*4294967296+P)/18446744073709551616:=by
 have e1:S*18446744073709551616+(Q+R)*4294967296+P=((S*4294967296+(Q+R))*4294967296+P):=by omega
 have e2:(18446744073709551616:Int)=4294967296*4294967296:=by decide
 rw[e1,e2,←Int.ediv_ediv_of_nonneg (by decide)]
 have e3:((S*4294967296+(Q+R))*4294967296+P)/4294967296=S*4294967296+(Q+R)+P/4294967296:=by
  rw[Int.add_comm,Int.add_mul_ediv_right _ _ (by decide)];omega
 rw[e3]
 generalize P/4294967296=p
 have e4:S*4294967296+(Q+R)+p=(Q+p+R)+S*4294967296:=by omega
 rw[e4,Int.add_mul_ediv_right _ _ (by decide)]
 generalize Q+p=t
 have e5:t+R=(t%4294967296+R)+(t/4294967296)*4294967296:=by omega
 rw[e5,Int.add_mul_ediv_right _ _ (by decide)]
 omega
theorem prod_split(x1 x0 y1 y0 c:Int):(x1*c+x0)*(y1*c+y0)=x1*y1*(c*c)+(x1*y0+x0*y1)*c+x0*y0:=by
 have a1:x1*c*(y1*c)=x1*y1*(c*c):=by ac_rfl
 have a2:x1*c*y0=x1*y0*c:=Int.mul_right_comm _ _ _
 have a3:x0*(y1*c)=x0*y1*c:=(Int.mul_assoc _ _ _).symm
 rw[Int.add_mul,Int.mul_add,Int.mul_add,Int.add_mul,a1,a2,a3]
 omega
theorem mul_bd{a b A B:Int}(ha:0≤a)(hb:0≤b)(hA:a≤A)(hB:b≤B):0≤a*b∧a*b≤A*B:=
 ⟨Int.mul_nonneg ha hb,Int.mul_le_mul hA hB hb (by omega)⟩
theorem mul64_ev(X Y:Nat)(hX:X≤1099511627776)(hY:Y≤1099511627776):DCall pE 244 [.i .u64 (X:Int),.i .u64 (Y:Int)] []=some (.tup [.i .u64 ((X:Int)*Y/18446744073709551616),.i .u64 ((X:Int)*Y%18446744073709551616)],[]):=by
 obtain⟨x1,hx1⟩: ∃x1,x1=(X:Int)/4294967296:=⟨_,rfl⟩
 obtain⟨x0,hx0⟩: ∃x0,x0=(X:Int)%4294967296:=⟨_,rfl⟩
 obtain⟨y1,hy1⟩: ∃y1,y1=(Y:Int)/4294967296:=⟨_,rfl⟩
 obtain⟨y0,hy0⟩: ∃y0,y0=(Y:Int)%4294967296:=⟨_,rfl⟩
 have hX':(X:Int)=x1*4294967296+x0:=by omega
 have hY':(Y:Int)=y1*4294967296+y0:=by omega
 have bx1:0≤x1∧x1≤256:=by omega
 have bx0:0≤x0∧x0≤4294967295:=by omega
 have by1:0≤y1∧y1≤256:=by omega
 have by0:0≤y0∧y0≤4294967295:=by omega
 have hxy:(X:Int)*Y=x1*y1*18446744073709551616+(x1*y0+x0*y1)*4294967296+x0*y0:=by
  rw[hX',hY'];exact prod_split x1 x0 y1 y0 4294967296
 have bP:=mul_bd bx0.1 by0.1 bx0.2 by0.2
 have bQ:=mul_bd bx1.1 by0.1 bx1.2 by0.2
 have bR:=mul_bd bx0.1 by1.1 bx0.2 by1.2
 have bS:=mul_bd bx1.1 by1.1 bx1.2 by1.2
 have w0:wr .u64 (x0*y0)=x0*y0:=wru64 ⟨bP.1,Int.le_trans bP.2 (by decide)⟩
 have w1:wr .u64 (x1*y0)=x1*y0:=wru64 ⟨bQ.1,Int.le_trans bQ.2 (by decide)⟩
 have w2:wr .u64 (x0*y1)=x0*y1:=wru64 ⟨bR.1,Int.le_trans bR.2 (by decide)⟩
 have w3:wr .u64 (x1*y1)=x1*y1:=wru64 ⟨bS.1,Int.le_trans bS.2 (by decide)⟩
 have hhi:=hi_eq (x0*y0) (x1*y0) (x0*y1) (x1*y1) bP.1 bQ.1 bR.1 bS.1
 rw[←hxy]at hhi
 have wlo:=wru_mod ((X:Int)*Y)
 rw[p_fun fn244 (by simp[c244]),←hhi]
 generalize hP:x0*y0=P at bP w0
 generalize hQ:x1*y0=Q at bQ w1
 generalize hR:x0*y1=R at bR w2
 generalize hS:x1*y1=S at bS w3
 have w4:wr .u64 (Q+P/4294967296)=Q+P/4294967296:=wru64 ⟨by omega,by omega⟩
 have w5:wr .u64 ((Q+P/4294967296)%4294967296+R)=(Q+P/4294967296)%4294967296+R:=wru64 ⟨by omega,by omega⟩
 have w6:wr .u64 (S+(Q+P/4294967296)/4294967296)=S+(Q+P/4294967296)/4294967296:=wru64 ⟨by omega,by omega⟩
 have w7:wr .u64 (S+(Q+P/4294967296)/4294967296+((Q+P/4294967296)%4294967296+R)/4294967296)=S+(Q+P/4294967296)/4294967296+((Q+P/4294967296)%4294967296+R)/4294967296:=wru64 ⟨by omega,by omega⟩
 simp(maxDischargeDepth:=6) only[qF,qGO0,qGO1,qGO2,qGO3,qGO4,reduceCtorEq,Nat.reduceLT,Nat.reduceEqDiff,c244,and_u32,shr_u32,←hx0,←hx1,←hy0,←hy1,hP,hQ,hR,hS,w0,w1,w2,w3,w4,w5,w6,w7,wlo]
theorem nat_bd{a:Int}(h:bd a):a.natAbs≤1099511627776:=by unfold bd at h;omega
theorem mul_abs(a b:Int):(a.natAbs:Int)*(b.natAbs:Int)=((a*b).natAbs:Int):=by rw[Int.natAbs_mul];omega
theorem mul_sign{a b:Int}(h:(a<0∧ ¬b<0)∨(¬a<0∧b<0)):a*b≤0:=by
 rcases h with⟨h1,h2⟩|⟨h1,h2⟩
 ·exact Int.mul_nonpos_of_nonpos_of_nonneg (by omega) (by omega)
 ·exact Int.mul_nonpos_of_nonneg_of_nonpos (by omega) (by omega)
theorem mul_signP{a b:Int}(h:(a<0∧b<0)∨(¬a<0∧ ¬b<0)):0≤a*b:=by
 rcases h with⟨h1,h2⟩|⟨h1,h2⟩
 ·exact Int.mul_nonneg_of_nonpos_of_nonpos (by omega) (by omega)
 ·exact Int.mul_nonneg (by omega) (by omega)
theorem pmul_ev{a b:Int}(ha:bd a)(hb:bd b):DCall pE 213 [.i .i64 a,.i .i64 b] []=some (.i .i64 (clampS (a*b)),[]):=by
 have h1:=pmag_ev ha
 have h2:=pmag_ev hb
 have h3:=mul64_ev a.natAbs b.natAbs (nat_bd ha) (nat_bd hb)
 rw[mul_abs]at h3
 have hs:= @mul_sign a b
 have hp:= @mul_signP a b
 rw[p_fun fn213 (by simp[c213])]
 generalize hx:a*b=x at*
 generalize hq1:(x.natAbs:Int)/18446744073709551616=q1 at h3
 generalize hq2:(x.natAbs:Int)%18446744073709551616=q2 at h3
 have key:(if q1≠0 then(1099511627776:Int)else if 1099511627776<q2 then 1099511627776 else q2)=min (x.natAbs:Int) 1099511627776:=by
  split
  ·omega
  ·split <;> omega
 by_cases c1:q1=0
 ·by_cases c2:(1099511627776:Int)<q2
  ·rw[if_neg (by simp[c1]),if_pos c2]at key
   by_cases s1:a<0
   ·by_cases s2:b<0
    ·have:=hp (.inl ⟨s1,s2⟩)
     have e:clampS x=1099511627776:=by unfold clampS;omega
     simp(maxDischargeDepth:=6) only[qF,qGO0,qGO1,qGO2,qGO3,qGO4,Int.reduceSub,Int.reduceNeg,reduceCtorEq,Nat.reduceLT,Nat.reduceEqDiff,Int.reduceLE,c213,h1,h2,h3,dc245,dc244,c1,c2,s1,s2,eqT_b,e];rfl
    ·have:=hs (.inl ⟨s1,s2⟩)
     have e:clampS x= -1099511627776:=by unfold clampS;omega
     simp(maxDischargeDepth:=6) only[qF,qGO0,qGO1,qGO2,qGO3,qGO4,qGO5,Int.reduceSub,Int.reduceNeg,reduceCtorEq,Nat.reduceLT,Nat.reduceEqDiff,Int.reduceLE,c213,h1,h2,h3,dc245,dc244,c1,c2,s1,s2,eqT_b,e];rfl
   ·by_cases s2:b<0
    ·have:=hs (.inr ⟨s1,s2⟩)
     have e:clampS x= -1099511627776:=by unfold clampS;omega
     simp(maxDischargeDepth:=6) only[qF,qGO0,qGO1,qGO2,qGO3,qGO4,qGO5,Int.reduceSub,Int.reduceNeg,reduceCtorEq,Nat.reduceLT,Nat.reduceEqDiff,Int.reduceLE,c213,h1,h2,h3,dc245,dc244,c1,c2,s1,s2,eqT_b,e];rfl
    ·have:=hp (.inr ⟨s1,s2⟩)
     have e:clampS x=1099511627776:=by unfold clampS;omega
     simp(maxDischargeDepth:=6) only[qF,qGO0,qGO1,qGO2,qGO3,qGO4,qGO5,Int.reduceSub,Int.reduceNeg,reduceCtorEq,Nat.reduceLT,Nat.reduceEqDiff,Int.reduceLE,c213,h1,h2,h3,dc245,dc244,c1,c2,s1,s2,eqT_b,e];rfl
  ·rw[if_neg (by simp[c1]),if_neg c2]at key
   have w1:wr .i64 q2=q2:=wr64 ⟨by omega,by omega⟩
   have w2:wr .i64 (0-q2)= -q2:=by rw[wr64 ⟨by omega,by omega⟩];omega
   by_cases s1:a<0
   ·by_cases s2:b<0
    ·have:=hp (.inl ⟨s1,s2⟩)
     have e:clampS x=q2:=by unfold clampS;omega
     simp(maxDischargeDepth:=6) only[qF,qGO0,qGO1,qGO2,qGO3,qGO4,qGO5,reduceCtorEq,Nat.reduceLT,Nat.reduceEqDiff,c213,h1,h2,h3,dc245,dc244,c1,c2,s1,s2,eqT_b,w1,w2,e];rfl
    ·have:=hs (.inl ⟨s1,s2⟩)
     have e:clampS x= -q2:=by unfold clampS;omega
     simp(maxDischargeDepth:=6) only[qF,qGO0,qGO1,qGO2,qGO3,qGO4,qGO5,reduceCtorEq,Nat.reduceLT,Nat.reduceEqDiff,c213,h1,h2,h3,dc245,dc244,c1,c2,s1,s2,eqT_b,w1,w2,e];rfl
   ·by_cases s2:b<0
    ·have:=hs (.inr ⟨s1,s2⟩)
     have e:clampS x= -q2:=by unfold clampS;omega
     simp(maxDischargeDepth:=6) only[qF,qGO0,qGO1,qGO2,qGO3,qGO4,qGO5,reduceCtorEq,Nat.reduceLT,Nat.reduceEqDiff,c213,h1,h2,h3,dc245,dc244,c1,c2,s1,s2,eqT_b,w1,w2,e];rfl
    ·have:=hp (.inr ⟨s1,s2⟩)
     have e:clampS x=q2:=by unfold clampS;omega
     simp(maxDischargeDepth:=6) only[qF,qGO0,qGO1,qGO2,qGO3,qGO4,qGO5,reduceCtorEq,Nat.reduceLT,Nat.reduceEqDiff,c213,h1,h2,h3,dc245,dc244,c1,c2,s1,s2,eqT_b,w1,w2,e];rfl
 ·rw[if_pos c1]at key
  by_cases s1:a<0
  ·by_cases s2:b<0
   ·have:=hp (.inl ⟨s1,s2⟩)
    have e:clampS x=1099511627776:=by unfold clampS;omega
    simp(maxDischargeDepth:=6) only[qF,qGO0,qGO1,qGO2,qGO3,qGO4,qGO5,Int.reduceSub,Int.reduceNeg,reduceCtorEq,Nat.reduceLT,Nat.reduceEqDiff,Int.reduceLE,c213,h1,h2,h3,dc245,dc244,c1,s1,s2,eqT_b,e];rfl
   ·have:=hs (.inl ⟨s1,s2⟩)
    have e:clampS x= -1099511627776:=by unfold clampS;omega
    simp(maxDischargeDepth:=6) only[qF,qGO0,qGO1,qGO2,qGO3,qGO4,qGO5,Int.reduceSub,Int.reduceNeg,reduceCtorEq,Nat.reduceLT,Nat.reduceEqDiff,Int.reduceLE,c213,h1,h2,h3,dc245,dc244,c1,s1,s2,eqT_b,e];rfl
  ·by_cases s2:b<0
   ·have:=hs (.inr ⟨s1,s2⟩)
    have e:clampS x= -1099511627776:=by unfold clampS;omega
    simp(maxDischargeDepth:=6) only[qF,qGO0,qGO1,qGO2,qGO3,qGO4,qGO5,Int.reduceSub,Int.reduceNeg,reduceCtorEq,Nat.reduceLT,Nat.reduceEqDiff,Int.reduceLE,c213,h1,h2,h3,dc245,dc244,c1,s1,s2,eqT_b,e];rfl
   ·have:=hp (.inr ⟨s1,s2⟩)
    have e:clampS x=1099511627776:=by unfold clampS;omega
    simp(maxDischargeDepth:=6) only[qF,qGO0,qGO1,qGO2,qGO3,qGO4,qGO5,Int.reduceSub,Int.reduceNeg,reduceCtorEq,Nat.reduceLT,Nat.reduceEqDiff,Int.reduceLE,c213,h1,h2,h3,dc245,dc244,c1,s1,s2,eqT_b,e];rfl
end Go.Proofs.YtfenhjpkomldcaaGreat
namespace Go.Proofs.YtfenhjpkomldcaaGreat
open Go Go.Ev
theorem bin_quoI{a b:Int}(h:b≠0):Ev.bin .quo (.i .i64 a) (.i .i64 b)=some (.i .i64 (wr .i64 (a.tdiv b))):=by
 simp only[Ev.bin,if_true,binI,if_neg h]
theorem bin_remI{a b:Int}(h:b≠0):Ev.bin .rem (.i .i64 a) (.i .i64 b)=some (.i .i64 (a.tmod b)):=by
 simp only[Ev.bin,if_true,binI,if_neg h]
end Go.Proofs.YtfenhjpkomldcaaGreat
namespace Go.Proofs.YtfenhjpkomldcaaGreat
open Go Go.Ev
theorem bq5:((true==true) != true)=false:=nr rfl
theorem bq6:((false==false) != true)=false:=nr rfl
theorem bq7:((true==false) != true)=true:=nr rfl
theorem bq8:((false==true) != true)=true:=nr rfl
def upN(x y:Nat):Nat:=x/y+if 0<x%y then 1 else 0
theorem bd_neg1:bd (-1):=by unfold bd;omega
theorem pdiv_ev{a b:Int}(ha:bd a)(hb:bd b):DCall pE 214 [.i .i64 a,.i .i64 b] []=some (.i .i64 (divS a b),[]):=by
 have hm:=pmul_ev ha bd_neg1
 rw[p_fun fn214 (by simp[c214])]
 unfold divS
 by_cases b0:b=0
 ·subst b0
  simp(maxDischargeDepth:=6) only[qF,qGO0,qGO1,qGO2,qGO3,qGO4,qGO5,Int.reduceNeg,reduceCtorEq,Nat.reduceLT,Nat.reduceEqDiff,c214]
 rw[if_neg b0]
 by_cases b1:b= -1
 ·subst b1
  have e:a.fdiv (-1)=a* -1:=by
   have:=Int.fdiv_neg (a:=a) (b:=1) (by decide)
   rw[if_pos (Int.one_dvd a),Int.fdiv_one]at this
   rw[this];omega
  rw[e]
  simp(maxDischargeDepth:=6) only[qF,qGO0,qGO1,qGO2,qGO3,qGO4,qGO5,Int.reduceNeg,reduceCtorEq,Nat.reduceLT,Nat.reduceEqDiff,c214,hm,dc213]
 have hf:= @Int.fdiv_eq_tdiv a b
 have hd:= @Int.dvd_iff_tmod_eq_zero b a
 have hle:=Int.natAbs_tdiv_le_natAbs a b
 have hna:=nat_bd ha
 have hqq:Ev.bin .quo (.i .i64 a) (.i .i64 b)=some (.i .i64 (a.tdiv b)):=by
  rw[bin_quoI b0,wr64 ⟨by omega,by omega⟩]
 have hrr:=bin_remI (a:=a) b0
 have hc0:=pclamp_ev (a.tdiv b)
 have hc1:=pclamp_ev (a.tdiv b-1)
 have w1:wr .i64 (a.tdiv b-1)=a.tdiv b-1:=wr64 ⟨by omega,by omega⟩
 generalize a.tdiv b=q at*
 generalize a.tmod b=r at*
 by_cases r0:r=0
 ·have e:a.fdiv b=q:=by rw[hf,if_pos (hd.2 r0)];omega
  rw[e]
  simp(maxDischargeDepth:=6) only[qF,qGO0,qGO1,qGO2,qGO3,qGO4,qGO5,Int.reduceNeg,reduceCtorEq,Nat.reduceLT,Nat.reduceEqDiff,c214,b0,b1,hqq,hrr,r0,hc0,dc137]
 ·rw[if_neg (fun h=>r0 (hd.1 h))]at hf
  by_cases s1:a<0
  ·by_cases s2:b<0
   ·have e:a.fdiv b=q:=by rw[hf,if_neg (by omega),if_neg (by omega),Int.sign_eq_neg_one_of_neg s2];omega
    rw[e]
    simp(maxDischargeDepth:=6) only[qF,qGO0,qGO1,qGO2,qGO3,qGO4,qGO5,Int.reduceNeg,reduceCtorEq,Nat.reduceLT,Nat.reduceEqDiff,c214,b0,b1,hqq,hrr,r0,hc0,dc137,s1,s2,eqT_b,bq5]
   ·have e:a.fdiv b=q-1:=by rw[hf,if_neg (by omega),if_pos (by omega),Int.sign_eq_one_of_pos (by omega)]
    rw[e]
    simp(maxDischargeDepth:=6) only[qF,qGO0,qGO1,qGO2,qGO3,qGO4,qGO5,Int.reduceNeg,reduceCtorEq,Nat.reduceLT,Nat.reduceEqDiff,c214,b0,b1,hqq,hrr,r0,hc1,dc137,s1,s2,eqT_b,bq7,w1]
  ·by_cases s2:b<0
   ·have e:a.fdiv b=q-1:=by rw[hf,if_pos (by omega),if_neg (by omega)]
    rw[e]
    simp(maxDischargeDepth:=6) only[qF,qGO0,qGO1,qGO2,qGO3,qGO4,qGO5,Int.reduceNeg,reduceCtorEq,Nat.reduceLT,Nat.reduceEqDiff,c214,b0,b1,hqq,hrr,r0,hc1,dc137,s1,s2,eqT_b,bq8,w1]
   ·have e:a.fdiv b=q:=by rw[hf,if_pos (by omega),if_pos (by omega)];omega
    rw[e]
    simp(maxDischargeDepth:=6) only[qF,qGO0,qGO1,qGO2,qGO3,qGO4,qGO5,Int.reduceNeg,reduceCtorEq,Nat.reduceLT,Nat.reduceEqDiff,c214,b0,b1,hqq,hrr,r0,hc0,dc137,s1,s2,eqT_b,bq6]
theorem divS_bd(a b:Int):bd (divS a b):=by
 unfold divS
 split
 ·unfold bd;omega
 ·exact clampS_bd _
end Go.Proofs.YtfenhjpkomldcaaGreat
