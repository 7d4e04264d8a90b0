/- Bounded arithmetic: the program's and the reference's. Bounded products. Bounded products and quotients. Bounded quotients. Conditions: the theorems' own. -/
import Derived.Test.YtfenhjpkomldcaaGreatM5
import Derived.KernelRfl
set_option maxRecDepth 100000
set_option linter.unusedSimpArgs false
set_option linter.unusedVariables false
set_option maxHeartbeats 16000000
namespace Go.Proofs.YtfenhjpkomldcaaGreat
open Go Go.Ev
def bd(n:Int):Prop:= -1099511627776≤n∧n≤1099511627776
theorem cO{x y:Bool}:mO (.one .bool) (.b x) (.b y)=some (x==y):=rfl
theorem ml(n:Int):bd (aO n):=by unfold bd aO;omega
theorem mn{n:Int}(h:bd n):aO n=n:=by unfold bd at h;unfold aO;omega
theorem uH(n:Int):(if(if n<1099511627776 then n else(1099511627776:Int))> -1099511627776 then(if n<1099511627776 then n else(1099511627776:Int))else-1099511627776)=aO n:=by
 unfold aO;split <;> split <;> omega
theorem pF(n:Int):aa pE 137 [.i .i64 n] []=some (.i .i64 (aO n),[]):=by
 rw[aD Mj (by simp[Ew]),←uH]
 simp(maxDischargeDepth:=6) only[qF,ah,ai,ab,aj,ae,Int.reduceNeg,mR,bu,reduceCtorEq,Nat.reduceLT,Ew]
theorem D8(n:Int):aa pE 220 [.i .i64 n] []=some (.i .i64 (aO n),[]):=by
 rw[aD M5 (by simp[EM]),←uH]
 simp(maxDischargeDepth:=6) only[qF,ah,ai,ab,aj,ae,Int.reduceNeg,mR,bu,reduceCtorEq,Nat.reduceLT,EM]
theorem Ir{a b:Int}(ha:bd a)(hb:bd b):wr .i64 (a+b)=a+b:=by unfold bd at *; exact lg ⟨by omega,by omega⟩
theorem mZ{a:Int}(ha:bd a):wr .i64 (0-a)= -a:=by unfold bd at *; rw[lg ⟨by omega,by omega⟩];omega
theorem lS{a:Int}(ha:bd a):bd (-a):=by unfold bd at *; omega
theorem wb{a b:Int}(ha:bd a)(hb:bd b):aa pE 140 [.i .i64 a,.i .i64 b] []=some (.i .i64 (aO (a+b)),[]):=by
 have hw:=Ir ha hb
 have hc:=pF (a+b)
 clear ha hb
 rw[aD Mk (by simp[wF])]
 by_cases h1:0≤a
 ·have lq: ¬a<0:=by omega
  by_cases h2:0≤b
  ·have h3: ¬a+b<0:=by omega
   simp(maxDischargeDepth:=6) only[qF,ah,ai,ab,aj,ae,ak,Int.reduceNeg,reduceCtorEq,Nat.reduceLT,Nat.reduceEqDiff,wF,hw,hc,nj,h1,lq,h2,h3]
  ·simp(maxDischargeDepth:=6) only[qF,ah,ai,ab,aj,ae,ak,Int.reduceNeg,reduceCtorEq,Nat.reduceLT,Nat.reduceEqDiff,wF,hw,hc,nj,h1,lq,h2]
 ·have lq:a<0:=by omega
  by_cases h2:b<0
  ·have h3: ¬0≤a+b:=by omega
   simp(maxDischargeDepth:=6) only[qF,ah,ai,ab,aj,ae,ak,Int.reduceNeg,reduceCtorEq,Nat.reduceLT,Nat.reduceEqDiff,wF,hw,hc,nj,h1,lq,h2,h3]
  ·simp(maxDischargeDepth:=6) only[qF,ah,ai,ab,aj,ae,ak,Int.reduceNeg,reduceCtorEq,Nat.reduceLT,Nat.reduceEqDiff,wF,hw,hc,nj,h1,lq,h2]
theorem wc{a b:Int}(ha:bd a)(hb:bd b):aa pE 158 [.i .i64 a,.i .i64 b] []=some (.i .i64 (aO (a+b)),[]):=by
 have hw:=Ir ha hb
 have hc:=D8 (a+b)
 clear ha hb
 rw[aD E7 (by simp[uK])]
 by_cases h1:0<a
 ·have lq: ¬a<0:=by omega
  by_cases h2:0<b
  ·have h3: ¬a+b<0:=by omega
   simp(maxDischargeDepth:=6) only[qF,ah,ai,ab,aj,ae,ak,Int.reduceNeg,reduceCtorEq,Nat.reduceLT,Nat.reduceEqDiff,uK,hw,hc,wL,h1,lq,h2,h3]
  ·simp(maxDischargeDepth:=6) only[qF,ah,ai,ab,aj,ae,ak,Int.reduceNeg,reduceCtorEq,Nat.reduceLT,Nat.reduceEqDiff,uK,hw,hc,wL,h1,lq,h2]
 ·by_cases lq:a<0
  ·by_cases h2:b<0
   ·have h3: ¬0≤a+b:=by omega
    simp(maxDischargeDepth:=6) only[qF,ah,ai,ab,aj,ae,ak,Int.reduceNeg,reduceCtorEq,Nat.reduceLT,Nat.reduceEqDiff,uK,hw,hc,wL,h1,lq,h2,h3]
   ·simp(maxDischargeDepth:=6) only[qF,ah,ai,ab,aj,ae,ak,Int.reduceNeg,reduceCtorEq,Nat.reduceLT,Nat.reduceEqDiff,uK,hw,hc,wL,h1,lq,h2]
  ·simp(maxDischargeDepth:=6) only[qF,ah,ai,ab,aj,ae,ak,Int.reduceNeg,reduceCtorEq,Nat.reduceLT,Nat.reduceEqDiff,uK,hw,hc,wL,h1,lq]
theorem Is{a:Int}(h:bd a)(h0: ¬a<0):wr .u64 a=(a.natAbs:Int):=by unfold bd at h;rw[iZ ⟨by omega,by omega⟩];omega
theorem VG(n:Int):IntKind.wrap .u64 n=n%18446744073709551616:=by
 unfold IntKind.wrap
 have hb:(IntKind.u64).bits=64:=rfl
 simp only[hb]
 rw[if_neg (by simp[IntKind.signed])]
 rfl
theorem we(n:Int):wr .u64 n=n%18446744073709551616:=by
 show(if(0:Int)≤n∧n≤18446744073709551615 then n else IntKind.wrap .u64 n)=_
 rw[VG]
 split <;> omega
theorem B8{a:Int}(h:bd a)(h0:a<0):wr .u64 (0-wr .u64 a)=(a.natAbs:Int):=by
 unfold bd at h
 rw[we,we];omega
theorem B9{a:Int}(h:bd a):aa pE 245 [.i .i64 a] []=some (.i .u64 (a.natAbs:Int),[]):=by
 rw[aD Nf (by simp[Cx])]
 by_cases h0:a<0
 ·have hw:=B8 h h0
  simp(maxDischargeDepth:=6) only[qF,ah,ai,ab,aj,ae,reduceCtorEq,Nat.reduceLT,Cx,h0,hw]
 ·have hw:=Is h h0
  simp(maxDischargeDepth:=6) only[qF,ah,ai,ab,aj,ae,ak,reduceCtorEq,Nat.reduceLT,Cx,h0,hw]
theorem qP{a:Int}(h:bd a):aa pE 221 [.i .i64 a] []=some (.i .u64 (a.natAbs:Int),[]):=by
 rw[aD M6 (by simp[Cp])]
 by_cases h0:a<0
 ·have hw:=B8 h h0
  simp(maxDischargeDepth:=6) only[qF,ah,ai,ab,aj,ae,reduceCtorEq,Nat.reduceLT,Cp,h0,hw]
 ·have hw:=Is h h0
  simp(maxDischargeDepth:=6) only[qF,ah,ai,ab,aj,ae,ak,reduceCtorEq,Nat.reduceLT,Cp,h0,hw]
end Go.Proofs.YtfenhjpkomldcaaGreat
namespace Go.Proofs.YtfenhjpkomldcaaGreat
open Go Go.Ev
theorem VH(P Q R S:Int)(hP:0≤P)(hQ:0≤Q)(hR:0≤R)(hS:0≤S):
  S+(Q+P/4294967296)/4294967296+((Q+P/4294967296)%4294967296+R)/4294967296=(S*18446744073709551616+(Q+R)*4294967296+P)/18446744073709551616:=by
 have e1:S*18446744073709551616+(Q+R)*4294967296+P=((S*4294967296+(Q+R))*4294967296+P):=by omega
 have e2:(18446744073709551616:Int)=4294967296*4294967296:=by decide
 rw[e1,e2,←Int.ediv_ediv_of_nonneg (by decide)]
 have e3:((S*4294967296+(Q+R))*4294967296+P)/4294967296=S*4294967296+(Q+R)+P/4294967296:=by
  rw[Int.add_comm,Int.add_mul_ediv_right _ _ (by decide)];omega
 rw[e3]
 generalize P/4294967296=p
 have e4:S*4294967296+(Q+R)+p=(Q+p+R)+S*4294967296:=by omega
 rw[e4,Int.add_mul_ediv_right _ _ (by decide)]
 generalize Q+p=t
 have e5:t+R=(t%4294967296+R)+(t/4294967296)*4294967296:=by omega
 rw[e5,Int.add_mul_ediv_right _ _ (by decide)]
 omega
theorem AL(x1 x0 y1 y0 c:Int):(x1*c+x0)*(y1*c+y0)=x1*y1*(c*c)+(x1*y0+x0*y1)*c+x0*y0:=by
 have a1:x1*c*(y1*c)=x1*y1*(c*c):=by ac_rfl
 have a2:x1*c*y0=x1*y0*c:=Int.mul_right_comm _ _ _
 have a3:x0*(y1*c)=x0*y1*c:=(Int.mul_assoc _ _ _).symm
 rw[Int.add_mul,Int.mul_add,Int.mul_add,Int.add_mul,a1,a2,a3]
 omega
theorem wg{a b A B:Int}(ha:0≤a)(hb:0≤b)(hA:a≤A)(hB:b≤B):0≤a*b∧a*b≤A*B:=
 ⟨Int.mul_nonneg ha hb,Int.mul_le_mul hA hB hb (by omega)⟩
theorem It(X Y:Nat)(hX:X≤1099511627776)(hY:Y≤1099511627776):aa pE 244 [.i .u64 (X:Int),.i .u64 (Y:Int)] []=some (.tup [.i .u64 ((X:Int)*Y/18446744073709551616),.i .u64 ((X:Int)*Y%18446744073709551616)],[]):=by
 obtain⟨x1,Fs⟩: ∃x1,x1=(X:Int)/4294967296:=⟨_,rfl⟩
 obtain⟨x0,VT⟩: ∃x0,x0=(X:Int)%4294967296:=⟨_,rfl⟩
 obtain⟨y1,IB⟩: ∃y1,y1=(Y:Int)/4294967296:=⟨_,rfl⟩
 obtain⟨y0,hy0⟩: ∃y0,y0=(Y:Int)%4294967296:=⟨_,rfl⟩
 have hX':(X:Int)=x1*4294967296+x0:=by omega
 have hY':(Y:Int)=y1*4294967296+y0:=by omega
 have Wl:0≤x1∧x1≤256:=by omega
 have Wm:0≤x0∧x0≤4294967295:=by omega
 have Wn:0≤y1∧y1≤256:=by omega
 have Wo:0≤y0∧y0≤4294967295:=by omega
 have lY:(X:Int)*Y=x1*y1*18446744073709551616+(x1*y0+x0*y1)*4294967296+x0*y0:=by
  rw[hX',hY'];exact AL x1 x0 y1 y0 4294967296
 have bP:=wg Wm.1 Wo.1 Wm.2 Wo.2
 have bQ:=wg Wl.1 Wo.1 Wl.2 Wo.2
 have bR:=wg Wm.1 Wn.1 Wm.2 Wn.2
 have bS:=wg Wl.1 Wn.1 Wl.2 Wn.2
 have w0:wr .u64 (x0*y0)=x0*y0:=iZ ⟨bP.1,Int.le_trans bP.2 (by decide)⟩
 have w1:wr .u64 (x1*y0)=x1*y0:=iZ ⟨bQ.1,Int.le_trans bQ.2 (by decide)⟩
 have w2:wr .u64 (x0*y1)=x0*y1:=iZ ⟨bR.1,Int.le_trans bR.2 (by decide)⟩
 have w3:wr .u64 (x1*y1)=x1*y1:=iZ ⟨bS.1,Int.le_trans bS.2 (by decide)⟩
 have hhi:=VH (x0*y0) (x1*y0) (x0*y1) (x1*y1) bP.1 bQ.1 bR.1 bS.1
 rw[←lY]at hhi
 have wlo:=we ((X:Int)*Y)
 rw[aD Nd (by simp[EN]),←hhi]
 generalize hP:x0*y0=P at bP w0
 generalize hQ:x1*y0=Q at bQ w1
 generalize hR:x0*y1=R at bR w2
 generalize hS:x1*y1=S at bS w3
 have w4:wr .u64 (Q+P/4294967296)=Q+P/4294967296:=iZ ⟨by omega,by omega⟩
 have w5:wr .u64 ((Q+P/4294967296)%4294967296+R)=(Q+P/4294967296)%4294967296+R:=iZ ⟨by omega,by omega⟩
 have w6:wr .u64 (S+(Q+P/4294967296)/4294967296)=S+(Q+P/4294967296)/4294967296:=iZ ⟨by omega,by omega⟩
 have w7:wr .u64 (S+(Q+P/4294967296)/4294967296+((Q+P/4294967296)%4294967296+R)/4294967296)=S+(Q+P/4294967296)/4294967296+((Q+P/4294967296)%4294967296+R)/4294967296:=iZ ⟨by omega,by omega⟩
 simp(maxDischargeDepth:=6) only[qF,ah,ai,ab,aj,ae,reduceCtorEq,Nat.reduceLT,Nat.reduceEqDiff,EN,KZ,K0,←VT,←Fs,←hy0,←IB,hP,hQ,hR,hS,w0,w1,w2,w3,w4,w5,w6,w7,wlo]
theorem wh{a:Int}(h:bd a):a.natAbs≤1099511627776:=by unfold bd at h;omega
theorem Ca(a b:Int):(a.natAbs:Int)*(b.natAbs:Int)=((a*b).natAbs:Int):=by rw[Int.natAbs_mul];omega
theorem yP{a b:Int}(h:(a<0∧ ¬b<0)∨(¬a<0∧b<0)):a*b≤0:=by
 rcases h with⟨h1,h2⟩|⟨h1,h2⟩
 ·exact Int.mul_nonpos_of_nonpos_of_nonneg (by omega) (by omega)
 ·exact Int.mul_nonpos_of_nonneg_of_nonpos (by omega) (by omega)
theorem uI{a b:Int}(h:(a<0∧b<0)∨(¬a<0∧ ¬b<0)):0≤a*b:=by
 rcases h with⟨h1,h2⟩|⟨h1,h2⟩
 ·exact Int.mul_nonneg_of_nonpos_of_nonpos (by omega) (by omega)
 ·exact Int.mul_nonneg (by omega) (by omega)
theorem Cb{a b:Int}(ha:bd a)(hb:bd b):aa pE 213 [.i .i64 a,.i .i64 b] []=some (.i .i64 (aO (a*b)),[]):=by
 have h1:=B9 ha
 have h2:=B9 hb
 have h3:=It a.natAbs b.natAbs (wh ha) (wh hb)
 rw[Ca]at h3
 have hs:= @yP a b
 have hp:= @uI a b
 rw[aD MS (by simp[mq])]
 generalize hx:a*b=x at*
 generalize oX:(x.natAbs:Int)/18446744073709551616=q1 at h3
 generalize wy:(x.natAbs:Int)%18446744073709551616=q2 at h3
 have key:(if q1≠0 then(1099511627776:Int)else if 1099511627776<q2 then 1099511627776 else q2)=min (x.natAbs:Int) 1099511627776:=by
  split
  ·omega
  ·split <;> omega
 by_cases c1:q1=0
 ·by_cases c2:(1099511627776:Int)<q2
  ·rw[if_neg (by simp[c1]),if_pos c2]at key
   by_cases s1:a<0
   ·by_cases s2:b<0
    ·have:=hp (.inl ⟨s1,s2⟩)
     have e:aO x=1099511627776:=by unfold aO;omega
     simp(maxDischargeDepth:=6) only[qF,ah,ai,ab,aj,ae,Int.reduceSub,Int.reduceNeg,reduceCtorEq,Nat.reduceLT,Nat.reduceEqDiff,Int.reduceLE,mq,h1,h2,h3,kR,kQ,c1,c2,s1,s2,cO,e];rfl
    ·have:=hs (.inl ⟨s1,s2⟩)
     have e:aO x= -1099511627776:=by unfold aO;omega
     simp(maxDischargeDepth:=6) only[qF,ah,ai,ab,aj,ae,ak,Int.reduceSub,Int.reduceNeg,reduceCtorEq,Nat.reduceLT,Nat.reduceEqDiff,Int.reduceLE,mq,h1,h2,h3,kR,kQ,c1,c2,s1,s2,cO,e];rfl
   ·by_cases s2:b<0
    ·have:=hs (.inr ⟨s1,s2⟩)
     have e:aO x= -1099511627776:=by unfold aO;omega
     simp(maxDischargeDepth:=6) only[qF,ah,ai,ab,aj,ae,ak,Int.reduceSub,Int.reduceNeg,reduceCtorEq,Nat.reduceLT,Nat.reduceEqDiff,Int.reduceLE,mq,h1,h2,h3,kR,kQ,c1,c2,s1,s2,cO,e];rfl
    ·have:=hp (.inr ⟨s1,s2⟩)
     have e:aO x=1099511627776:=by unfold aO;omega
     simp(maxDischargeDepth:=6) only[qF,ah,ai,ab,aj,ae,ak,Int.reduceSub,Int.reduceNeg,reduceCtorEq,Nat.reduceLT,Nat.reduceEqDiff,Int.reduceLE,mq,h1,h2,h3,kR,kQ,c1,c2,s1,s2,cO,e];rfl
  ·rw[if_neg (by simp[c1]),if_neg c2]at key
   have w1:wr .i64 q2=q2:=lg ⟨by omega,by omega⟩
   have w2:wr .i64 (0-q2)= -q2:=by rw[lg ⟨by omega,by omega⟩];omega
   by_cases s1:a<0
   ·by_cases s2:b<0
    ·have:=hp (.inl ⟨s1,s2⟩)
     have e:aO x=q2:=by unfold aO;omega
     simp(maxDischargeDepth:=6) only[qF,ah,ai,ab,aj,ae,ak,reduceCtorEq,Nat.reduceLT,Nat.reduceEqDiff,mq,h1,h2,h3,kR,kQ,c1,c2,s1,s2,cO,w1,w2,e];rfl
    ·have:=hs (.inl ⟨s1,s2⟩)
     have e:aO x= -q2:=by unfold aO;omega
     simp(maxDischargeDepth:=6) only[qF,ah,ai,ab,aj,ae,ak,reduceCtorEq,Nat.reduceLT,Nat.reduceEqDiff,mq,h1,h2,h3,kR,kQ,c1,c2,s1,s2,cO,w1,w2,e];rfl
   ·by_cases s2:b<0
    ·have:=hs (.inr ⟨s1,s2⟩)
     have e:aO x= -q2:=by unfold aO;omega
     simp(maxDischargeDepth:=6) only[qF,ah,ai,ab,aj,ae,ak,reduceCtorEq,Nat.reduceLT,Nat.reduceEqDiff,mq,h1,h2,h3,kR,kQ,c1,c2,s1,s2,cO,w1,w2,e];rfl
    ·have:=hp (.inr ⟨s1,s2⟩)
     have e:aO x=q2:=by unfold aO;omega
     simp(maxDischargeDepth:=6) only[qF,ah,ai,ab,aj,ae,ak,reduceCtorEq,Nat.reduceLT,Nat.reduceEqDiff,mq,h1,h2,h3,kR,kQ,c1,c2,s1,s2,cO,w1,w2,e];rfl
 ·rw[if_pos c1]at key
  by_cases s1:a<0
  ·by_cases s2:b<0
   ·have:=hp (.inl ⟨s1,s2⟩)
    have e:aO x=1099511627776:=by unfold aO;omega
    simp(maxDischargeDepth:=6) only[qF,ah,ai,ab,aj,ae,ak,Int.reduceSub,Int.reduceNeg,reduceCtorEq,Nat.reduceLT,Nat.reduceEqDiff,Int.reduceLE,mq,h1,h2,h3,kR,kQ,c1,s1,s2,cO,e];rfl
   ·have:=hs (.inl ⟨s1,s2⟩)
    have e:aO x= -1099511627776:=by unfold aO;omega
    simp(maxDischargeDepth:=6) only[qF,ah,ai,ab,aj,ae,ak,Int.reduceSub,Int.reduceNeg,reduceCtorEq,Nat.reduceLT,Nat.reduceEqDiff,Int.reduceLE,mq,h1,h2,h3,kR,kQ,c1,s1,s2,cO,e];rfl
  ·by_cases s2:b<0
   ·have:=hs (.inr ⟨s1,s2⟩)
    have e:aO x= -1099511627776:=by unfold aO;omega
    simp(maxDischargeDepth:=6) only[qF,ah,ai,ab,aj,ae,ak,Int.reduceSub,Int.reduceNeg,reduceCtorEq,Nat.reduceLT,Nat.reduceEqDiff,Int.reduceLE,mq,h1,h2,h3,kR,kQ,c1,s1,s2,cO,e];rfl
   ·have:=hp (.inr ⟨s1,s2⟩)
    have e:aO x=1099511627776:=by unfold aO;omega
    simp(maxDischargeDepth:=6) only[qF,ah,ai,ab,aj,ae,ak,Int.reduceSub,Int.reduceNeg,reduceCtorEq,Nat.reduceLT,Nat.reduceEqDiff,Int.reduceLE,mq,h1,h2,h3,kR,kQ,c1,s1,s2,cO,e];rfl
end Go.Proofs.YtfenhjpkomldcaaGreat
namespace Go.Proofs.YtfenhjpkomldcaaGreat
open Go Go.Ev
theorem yQ{a b:Int}(h:b≠0):Ev.bin .quo (.i .u64 a) (.i .u64 b)=some (.i .u64 (wr .u64 (a.tdiv b))):=by
 simp only[Ev.bin,if_true,kh,if_neg h]
theorem Iu{a b:Int}(h:b≠0):Ev.bin .rem (.i .u64 a) (.i .u64 b)=some (.i .u64 (a.tmod b)):=by
 simp only[Ev.bin,if_true,kh,if_neg h]
theorem Iv{a b:Int}(h:b≠0):Ev.bin .quo (.i .i64 a) (.i .i64 b)=some (.i .i64 (wr .i64 (a.tdiv b))):=by
 simp only[Ev.bin,if_true,kh,if_neg h]
theorem Iw{a b:Int}(h:b≠0):Ev.bin .rem (.i .i64 a) (.i .i64 b)=some (.i .i64 (a.tmod b)):=by
 simp only[Ev.bin,if_true,kh,if_neg h]
theorem QW(x y:Nat)(hy:0<y):((x:Int)≤(1099511627776:Int).tdiv (y:Int))↔(x:Int)*y≤1099511627776:=by
 have e:(1099511627776:Int).tdiv (y:Int)=((1099511627776/y:Nat):Int):=rfl
 rw[e]
 have:=Nat.le_div_iff_mul_le hy (x:=x) (y:=1099511627776)
 have h2:(x:Int)*y=((x*y:Nat):Int):=by simp
 rw[h2];omega
theorem LX{a b:Int}(ha:bd a)(hb:bd b):aa pE 159 [.i .i64 a,.i .i64 b] []=some (.i .i64 (aO (a*b)),[]):=by
 have h1:=qP ha
 have h2:=qP hb
 have hs:= @yP a b
 have hp:= @uI a b
 have B3:=Ca a b
 rw[aD E9 (by simp[nh])]
 by_cases a0:a=0
 ·subst a0
  simp(maxDischargeDepth:=6) only[qF,ah,ai,ab,aj,ae,reduceCtorEq,Nat.reduceLT,Nat.reduceEqDiff,nh,Int.zero_mul];rfl
 by_cases b0:b=0
 ·subst b0
  simp(maxDischargeDepth:=6) only[qF,ah,ai,ab,aj,ae,ak,reduceCtorEq,Nat.reduceLT,Nat.reduceEqDiff,nh,Int.mul_zero,a0];rfl
 have hle:=QW a.natAbs b.natAbs (by omega)
 have Wp:((b.natAbs:Nat):Int)≠0:=by omega
 have hq:Ev.bin .quo (.i .u64 1099511627776) (.i .u64 (b.natAbs:Int))=some (.i .u64 ((1099511627776:Int).tdiv (b.natAbs:Int))):=by
  rw[yQ Wp]
  have e:(1099511627776:Int).tdiv (b.natAbs:Int)=((1099511627776/b.natAbs:Nat):Int):=rfl
  rw[e,iZ ⟨Int.natCast_nonneg _,Int.le_trans (Int.ofNat_le.2 (Nat.div_le_self _ _)) (by decide)⟩]
 rw[B3]at hle
 generalize (1099511627776:Int).tdiv (b.natAbs:Int)=q at hle hq
 generalize hx:a*b=x at*
 have w1:x.natAbs≤1099511627776→wr .u64 (x.natAbs:Int)=(x.natAbs:Int):=fun h=>iZ ⟨by omega,by omega⟩
 have w2:x.natAbs≤1099511627776→wr .i64 (x.natAbs:Int)=(x.natAbs:Int):=fun h=>lg ⟨by omega,by omega⟩
 have w3:x.natAbs≤1099511627776→wr .i64 (0-(x.natAbs:Int))= -(x.natAbs:Int):=fun h=>by rw[lg ⟨by omega,by omega⟩];omega
 by_cases c:(a.natAbs:Int)≤q
 ·have hc:=hle.1 c
  have Wq:=w1 (by omega)
  have Wr:=w2 (by omega)
  have Ws:=w3 (by omega)
  by_cases s1:a<0
  ·by_cases s2:b<0
   ·have:=hp (.inl ⟨s1,s2⟩)
    have e:aO x=(x.natAbs:Int):=by unfold aO;omega
    simp(maxDischargeDepth:=6) only[qF,ah,ai,ab,aj,ae,ak,reduceCtorEq,Nat.reduceLT,Nat.reduceEqDiff,nh,h1,h2,iu,a0,b0,hq,B3,cO,c,s1,s2,Wq,Wr,Ws,e];rfl
   ·have:=hs (.inl ⟨s1,s2⟩)
    have e:aO x= -(x.natAbs:Int):=by unfold aO;omega
    simp(maxDischargeDepth:=6) only[qF,ah,ai,ab,aj,ae,ak,reduceCtorEq,Nat.reduceLT,Nat.reduceEqDiff,nh,h1,h2,iu,a0,b0,hq,B3,cO,c,s1,s2,Wq,Wr,Ws,e];rfl
  ·by_cases s2:b<0
   ·have:=hs (.inr ⟨s1,s2⟩)
    have e:aO x= -(x.natAbs:Int):=by unfold aO;omega
    simp(maxDischargeDepth:=6) only[qF,ah,ai,ab,aj,ae,ak,reduceCtorEq,Nat.reduceLT,Nat.reduceEqDiff,nh,h1,h2,iu,a0,b0,hq,B3,cO,c,s1,s2,Wq,Wr,Ws,e];rfl
   ·have:=hp (.inr ⟨s1,s2⟩)
    have e:aO x=(x.natAbs:Int):=by unfold aO;omega
    simp(maxDischargeDepth:=6) only[qF,ah,ai,ab,aj,ae,ak,reduceCtorEq,Nat.reduceLT,Nat.reduceEqDiff,nh,h1,h2,iu,a0,b0,hq,B3,cO,c,s1,s2,Wq,Wr,Ws,e];rfl
 ·have hc: ¬(x.natAbs:Int)≤1099511627776:=fun h=>c (hle.2 h)
  by_cases s1:a<0
  ·by_cases s2:b<0
   ·have:=hp (.inl ⟨s1,s2⟩)
    have e:aO x=1099511627776:=by unfold aO;omega
    simp(maxDischargeDepth:=6) only[qF,ah,ai,ab,aj,ae,ak,Int.reduceSub,Int.reduceNeg,reduceCtorEq,Nat.reduceLT,Nat.reduceEqDiff,Int.reduceLE,nh,h1,h2,iu,a0,b0,hq,B3,cO,c,s1,s2,e];rfl
   ·have:=hs (.inl ⟨s1,s2⟩)
    have e:aO x= -1099511627776:=by unfold aO;omega
    simp(maxDischargeDepth:=6) only[qF,ah,ai,ab,aj,ae,ak,Int.reduceSub,Int.reduceNeg,reduceCtorEq,Nat.reduceLT,Nat.reduceEqDiff,Int.reduceLE,nh,h1,h2,iu,a0,b0,hq,B3,cO,c,s1,s2,e];rfl
  ·by_cases s2:b<0
   ·have:=hs (.inr ⟨s1,s2⟩)
    have e:aO x= -1099511627776:=by unfold aO;omega
    simp(maxDischargeDepth:=6) only[qF,ah,ai,ab,aj,ae,ak,Int.reduceSub,Int.reduceNeg,reduceCtorEq,Nat.reduceLT,Nat.reduceEqDiff,Int.reduceLE,nh,h1,h2,iu,a0,b0,hq,B3,cO,c,s1,s2,e];rfl
   ·have:=hp (.inr ⟨s1,s2⟩)
    have e:aO x=1099511627776:=by unfold aO;omega
    simp(maxDischargeDepth:=6) only[qF,ah,ai,ab,aj,ae,ak,Int.reduceSub,Int.reduceNeg,reduceCtorEq,Nat.reduceLT,Nat.reduceEqDiff,Int.reduceLE,nh,h1,h2,iu,a0,b0,hq,B3,cO,c,s1,s2,e];rfl
end Go.Proofs.YtfenhjpkomldcaaGreat
namespace Go.Proofs.YtfenhjpkomldcaaGreat
open Go Go.Ev
theorem bq1:((true==true) != false)=true:=nr rfl
theorem bq2:((false==false) != false)=true:=nr rfl
theorem Wt:((true==false) != false)=false:=nr rfl
theorem Wu:((false==true) != false)=false:=nr rfl
theorem bq5:((true==true) != true)=false:=nr rfl
theorem bq6:((false==false) != true)=false:=nr rfl
theorem bq7:((true==false) != true)=true:=nr rfl
theorem bq8:((false==true) != true)=true:=nr rfl
theorem D9{a b:Int}(hb:b≠0)(h:(a<0∧b<0)∨(¬a<0∧ ¬b<0)):a.fdiv b=((a.natAbs/b.natAbs:Nat):Int):=by
 rcases h with⟨h1,h2⟩|⟨h1,h2⟩
 ·rw[←Int.neg_fdiv_neg,Int.fdiv_eq_ediv_of_nonneg _ (by omega)]
  have e1: -a=((a.natAbs:Nat):Int):=by omega
  have e2: -b=((b.natAbs:Nat):Int):=by omega
  rw[e1,e2];rfl
 ·rw[Int.fdiv_eq_ediv_of_nonneg _ (by omega)]
  have e1:a=((a.natAbs:Nat):Int):=by omega
  have e2:b=((b.natAbs:Nat):Int):=by omega
  conv=>lhs;rw[e1,e2]
  rfl
theorem yR(x y:Nat):(x:Int).fdiv (y:Int)=((x/y:Nat):Int):=by rw[Int.fdiv_eq_ediv_of_nonneg _ (by omega)];rfl
theorem qQ(x y:Nat):((y:Int)∣(x:Int))↔x%y=0:=by rw[Int.natCast_dvd_natCast];exact Nat.dvd_iff_mod_eq_zero
def te(x y:Nat):Nat:=x/y+if 0<x%y then 1 else 0
theorem Ea{a b:Int}(hb:b≠0)(h:(a<0∧ ¬b<0)∨(¬a<0∧b<0)):a.fdiv b= -((te a.natAbs b.natAbs:Nat):Int):=by
 unfold te
 rcases h with⟨h1,h2⟩|⟨h1,h2⟩
 ·have e1:a= -((a.natAbs:Nat):Int):=by omega
  have e2:b=((b.natAbs:Nat):Int):=by omega
  have hy:b.natAbs≠0:=by omega
  generalize a.natAbs=x,b.natAbs=y at*
  subst e1 e2
  rw[Int.neg_fdiv,yR]
  by_cases hd:x%y=0
  ·rw[if_pos (Or.inr ((qQ x y).2 hd)),if_neg (by omega)];omega
  ·rw[if_neg (by rintro(h|h)
                 ·omega
                 ·exact hd ((qQ x y).1 h)),if_pos (by omega)];omega
 ·have e1:a=((a.natAbs:Nat):Int):=by omega
  have e2:b= -((b.natAbs:Nat):Int):=by omega
  have hy:((b.natAbs:Nat):Int)≠0:=by omega
  generalize a.natAbs=x,b.natAbs=y at*
  subst e1 e2
  rw[Int.fdiv_neg hy,yR]
  by_cases hd:x%y=0
  ·rw[if_pos ((qQ x y).2 hd),if_neg (by omega)];omega
  ·rw[if_neg (fun h=>hd ((qQ x y).1 h)),if_pos (by omega)];omega
theorem AM(a b:Int)(h:bd a):a.natAbs/b.natAbs≤1099511627776:=Nat.le_trans (Nat.div_le_self _ _) (wh h)
theorem LY{a b:Int}(ha:bd a)(hb:bd b):aa pE 160 [.i .i64 a,.i .i64 b] []=some (.i .i64 (Az a b),[]):=by
 have h1:=qP ha
 have h2:=qP hb
 rw[aD Fa (by simp[oM])]
 unfold Az
 by_cases b0:b=0
 ·subst b0
  simp(maxDischargeDepth:=6) only[qF,ah,ai,ab,aj,ae,reduceCtorEq,Nat.reduceLT,Nat.reduceEqDiff,oM]
 rw[if_neg b0]
 have Wp:((b.natAbs:Nat):Int)≠0:=by omega
 have ZU:=AM a b ha
 have hq:Ev.bin .quo (.i .u64 (a.natAbs:Int)) (.i .u64 (b.natAbs:Int))=some (.i .u64 ((a.natAbs/b.natAbs:Nat):Int)):=by
  rw[yQ Wp]
  have e:(a.natAbs:Int).tdiv (b.natAbs:Int)=((a.natAbs/b.natAbs:Nat):Int):=rfl
  rw[e,iZ ⟨Int.natCast_nonneg _,Int.le_trans (Int.ofNat_le.2 ZU) (by decide)⟩]
 have hr:Ev.bin .rem (.i .u64 (a.natAbs:Int)) (.i .u64 (b.natAbs:Int))=some (.i .u64 ((a.natAbs%b.natAbs:Nat):Int)):=by
  rw[Iu Wp];rfl
 have gT:= @D9 a b b0
 have Ix:= @Ea a b b0
 unfold te at Ix
 generalize a.natAbs/b.natAbs=q at*
 generalize a.natAbs%b.natAbs=r at*
 have m1: ∀n:Nat,¬(1099511627776:Int)<(n:Int)→wr .i64 (n:Int)=(n:Int):=fun n h=>lg ⟨by omega,by omega⟩
 have m2: ∀n:Nat,¬(1099511627776:Int)<(n:Int)→wr .i64 (0-(n:Int))= -(n:Int):=fun n h=>by rw[lg ⟨by omega,by omega⟩];omega
 have Ek: ¬(1099511627776:Int)<(q:Int):=by omega
 by_cases s1:a<0
 ·by_cases s2:b<0
  ·have:=gT (.inl ⟨s1,s2⟩)
   rw[this,mn (by unfold bd;omega)]
   by_cases Eb:(1099511627776:Int)<(q:Int)
   ·exact absurd Eb Ek
   ·simp(maxDischargeDepth:=6) only[qF,ah,ai,ab,aj,ae,ak,mR,bu,reduceCtorEq,Nat.reduceLT,Nat.reduceEqDiff,oM,h1,h2,iu,b0,hq,cO,gt_iff_lt,s1,s2,Ek,m1 q Ek,bq1]
  ·have:=Ix (.inl ⟨s1,s2⟩)
   rw[this]
   by_cases NI:0<r
   ·have wv:(0:Int)<(r:Int):=by omega
    rw[if_pos NI]
    have w1:wr .u64 ((q:Int)+1)=((q+1:Nat):Int):=by rw[iZ ⟨by omega,by omega⟩];omega
    by_cases Eb:(1099511627776:Int)<((q+1:Nat):Int)
    ·have e:aO (-((q+1:Nat):Int))= -1099511627776:=by unfold aO;omega
     simp(maxDischargeDepth:=6) only[qF,ah,ai,ab,aj,ae,ak,Int.reduceSub,Int.reduceNeg,mR,bu,reduceCtorEq,Nat.reduceLT,Nat.reduceEqDiff,Int.reduceLE,oM,h1,h2,iu,b0,hq,hr,cO,gt_iff_lt,Wt,s1,s2,wv,w1,Eb,e]
    ·have e:aO (-((q+1:Nat):Int))= -((q+1:Nat):Int):=by unfold aO;omega
     simp(maxDischargeDepth:=6) only[qF,ah,ai,ab,aj,ae,ak,mR,bu,reduceCtorEq,Nat.reduceLT,Nat.reduceEqDiff,oM,h1,h2,iu,b0,hq,hr,cO,gt_iff_lt,Wt,s1,s2,wv,w1,Eb,e,m1 _ Eb,m2 _ Eb]
   ·have wv: ¬(0:Int)<(r:Int):=by omega
    rw[if_neg NI,Nat.add_zero]
    have e:aO (-(q:Int))= -(q:Int):=by unfold aO;omega
    simp(maxDischargeDepth:=6) only[qF,ah,ai,ab,aj,ae,ak,mR,bu,reduceCtorEq,Nat.reduceLT,Nat.reduceEqDiff,oM,h1,h2,iu,b0,hq,hr,cO,gt_iff_lt,Wt,s1,s2,wv,Ek,e,m1 _ Ek,m2 _ Ek]
 ·by_cases s2:b<0
  ·have:=Ix (.inr ⟨s1,s2⟩)
   rw[this]
   by_cases NI:0<r
   ·have wv:(0:Int)<(r:Int):=by omega
    rw[if_pos NI]
    have w1:wr .u64 ((q:Int)+1)=((q+1:Nat):Int):=by rw[iZ ⟨by omega,by omega⟩];omega
    by_cases Eb:(1099511627776:Int)<((q+1:Nat):Int)
    ·have e:aO (-((q+1:Nat):Int))= -1099511627776:=by unfold aO;omega
     simp(maxDischargeDepth:=6) only[qF,ah,ai,ab,aj,ae,ak,Int.reduceSub,Int.reduceNeg,mR,bu,reduceCtorEq,Nat.reduceLT,Nat.reduceEqDiff,Int.reduceLE,oM,h1,h2,iu,b0,hq,hr,cO,gt_iff_lt,Wu,s1,s2,wv,w1,Eb,e]
    ·have e:aO (-((q+1:Nat):Int))= -((q+1:Nat):Int):=by unfold aO;omega
     simp(maxDischargeDepth:=6) only[qF,ah,ai,ab,aj,ae,ak,mR,bu,reduceCtorEq,Nat.reduceLT,Nat.reduceEqDiff,oM,h1,h2,iu,b0,hq,hr,cO,gt_iff_lt,Wu,s1,s2,wv,w1,Eb,e,m1 _ Eb,m2 _ Eb]
   ·have wv: ¬(0:Int)<(r:Int):=by omega
    rw[if_neg NI,Nat.add_zero]
    have e:aO (-(q:Int))= -(q:Int):=by unfold aO;omega
    simp(maxDischargeDepth:=6) only[qF,ah,ai,ab,aj,ae,ak,mR,bu,reduceCtorEq,Nat.reduceLT,Nat.reduceEqDiff,oM,h1,h2,iu,b0,hq,hr,cO,gt_iff_lt,Wu,s1,s2,wv,Ek,e,m1 _ Ek,m2 _ Ek]
  ·have:=gT (.inr ⟨s1,s2⟩)
   rw[this,mn (by unfold bd;omega)]
   by_cases Eb:(1099511627776:Int)<(q:Int)
   ·exact absurd Eb Ek
   ·simp(maxDischargeDepth:=6) only[qF,ah,ai,ab,aj,ae,ak,mR,bu,reduceCtorEq,Nat.reduceLT,Nat.reduceEqDiff,oM,h1,h2,iu,b0,hq,cO,gt_iff_lt,s1,s2,Ek,m1 q Ek,bq2]
theorem LZ:bd (-1):=by unfold bd;omega
theorem L0{a b:Int}(ha:bd a)(hb:bd b):aa pE 214 [.i .i64 a,.i .i64 b] []=some (.i .i64 (Az a b),[]):=by
 have hm:=Cb ha LZ
 rw[aD MU (by simp[qW])]
 unfold Az
 by_cases b0:b=0
 ·subst b0
  simp(maxDischargeDepth:=6) only[qF,ah,ai,ab,aj,ae,ak,Int.reduceNeg,reduceCtorEq,Nat.reduceLT,Nat.reduceEqDiff,qW]
 rw[if_neg b0]
 by_cases b1:b= -1
 ·subst b1
  have e:a.fdiv (-1)=a* -1:=by
   have:=Int.fdiv_neg (a:=a) (b:=1) (by decide)
   rw[if_pos (Int.one_dvd a),Int.fdiv_one]at this
   rw[this];omega
  rw[e]
  simp(maxDischargeDepth:=6) only[qF,ah,ai,ab,aj,ae,ak,Int.reduceNeg,reduceCtorEq,Nat.reduceLT,Nat.reduceEqDiff,qW,hm,MT]
 have hf:= @Int.fdiv_eq_tdiv a b
 have hd:= @Int.dvd_iff_tmod_eq_zero b a
 have hle:=Int.natAbs_tdiv_le_natAbs a b
 have Wv:=wh ha
 have VI:Ev.bin .quo (.i .i64 a) (.i .i64 b)=some (.i .i64 (a.tdiv b)):=by
  rw[Iv b0,lg ⟨by omega,by omega⟩]
 have dO:=Iw (a:=a) b0
 have sO:=pF (a.tdiv b)
 have jO:=pF (a.tdiv b-1)
 have w1:wr .i64 (a.tdiv b-1)=a.tdiv b-1:=lg ⟨by omega,by omega⟩
 generalize a.tdiv b=q at*
 generalize a.tmod b=r at*
 by_cases r0:r=0
 ·have e:a.fdiv b=q:=by rw[hf,if_pos (hd.2 r0)];omega
  rw[e]
  simp(maxDischargeDepth:=6) only[qF,ah,ai,ab,aj,ae,ak,Int.reduceNeg,reduceCtorEq,Nat.reduceLT,Nat.reduceEqDiff,qW,b0,b1,VI,dO,r0,sO,nj]
 ·rw[if_neg (fun h=>r0 (hd.1 h))]at hf
  by_cases s1:a<0
  ·by_cases s2:b<0
   ·have e:a.fdiv b=q:=by rw[hf,if_neg (by omega),if_neg (by omega),Int.sign_eq_neg_one_of_neg s2];omega
    rw[e]
    simp(maxDischargeDepth:=6) only[qF,ah,ai,ab,aj,ae,ak,Int.reduceNeg,reduceCtorEq,Nat.reduceLT,Nat.reduceEqDiff,qW,b0,b1,VI,dO,r0,sO,nj,s1,s2,cO,bq5]
   ·have e:a.fdiv b=q-1:=by rw[hf,if_neg (by omega),if_pos (by omega),Int.sign_eq_one_of_pos (by omega)]
    rw[e]
    simp(maxDischargeDepth:=6) only[qF,ah,ai,ab,aj,ae,ak,Int.reduceNeg,reduceCtorEq,Nat.reduceLT,Nat.reduceEqDiff,qW,b0,b1,VI,dO,r0,jO,nj,s1,s2,cO,bq7,w1]
  ·by_cases s2:b<0
   ·have e:a.fdiv b=q-1:=by rw[hf,if_pos (by omega),if_neg (by omega)]
    rw[e]
    simp(maxDischargeDepth:=6) only[qF,ah,ai,ab,aj,ae,ak,Int.reduceNeg,reduceCtorEq,Nat.reduceLT,Nat.reduceEqDiff,qW,b0,b1,VI,dO,r0,jO,nj,s1,s2,cO,bq8,w1]
   ·have e:a.fdiv b=q:=by rw[hf,if_pos (by omega),if_pos (by omega)];omega
    rw[e]
    simp(maxDischargeDepth:=6) only[qF,ah,ai,ab,aj,ae,ak,Int.reduceNeg,reduceCtorEq,Nat.reduceLT,Nat.reduceEqDiff,qW,b0,b1,VI,dO,r0,sO,nj,s1,s2,cO,bq6]
theorem L1(a b:Int):bd (Az a b):=by
 unfold Az
 split
 ·unfold bd;omega
 ·exact ml _
end Go.Proofs.YtfenhjpkomldcaaGreat
