/- The value of an operator: the reference's Apply. Formulas and their values. The value of a formula. Conditions: the theorems' own. -/
import Derived.Test.YtfenhjpkomldcaaGreatM6
import Derived.KernelRfl
set_option maxRecDepth 100000
set_option linter.unusedSimpArgs false
set_option linter.unusedVariables false
set_option maxHeartbeats 16000000
namespace Go.Proofs.YtfenhjpkomldcaaGreat
open Go Go.Ev
def bit(n:Int):Prop:=n=0∨n=1
theorem UO{n:Int}(h:bit n):bd n:=by unfold bit at h;unfold bd;omega
theorem Hs(b:Bool):bit (ov b):=by cases b <;> simp[ov,bit]
theorem DM(c f t:Int):ai pE 139 [.i .i64 c,.i .i64 f,.i .i64 t] []=some (.b (tb c f t),[]):=by
 rw[aG IA (by simp[Fq])]
 unfold tb
 by_cases h1:f≤t
 ·by_cases h2:f≤c <;> by_cases h3:c<t <;> simp(maxDischargeDepth:=6) only[qF,ae,ah,aa,aj,ab,an,Nat.reduceAdd,reduceCtorEq,Nat.reduceLT,Nat.reduceEqDiff,Fq,h1,h2,h3]
 ·by_cases h2:f≤c <;> by_cases h3:c<t <;> simp(maxDischargeDepth:=6) only[qF,ae,ah,aa,aj,ab,an,Nat.reduceAdd,reduceCtorEq,Nat.reduceLT,Nat.reduceEqDiff,Fq,h1,h2,h3,or_true,or_false,or_self]
theorem DN(c f t:Int):ai pE 162 [.i .i64 c,.i .i64 f,.i .i64 t] []=some (.b (tb c f t),[]):=by
 have h:ai pE 222 [.i .i64 c,.i .i64 f,.i .i64 t] []=some (.b (tb c f t),[]):=by
  rw[aG QQ (by simp[FB])]
  unfold tb
  by_cases h1:f≤t
  ·by_cases h2:f≤c <;> by_cases h3:c<t <;> simp(maxDischargeDepth:=6) only[qF,ae,ah,aa,aj,ab,an,Nat.reduceAdd,reduceCtorEq,Nat.reduceLT,Nat.reduceEqDiff,FB,h1,h2,h3]
  ·by_cases h2:f≤c <;> by_cases h3:c<t <;> simp(maxDischargeDepth:=6) only[qF,ae,ah,aa,aj,ab,an,Nat.reduceAdd,reduceCtorEq,Nat.reduceLT,Nat.reduceEqDiff,FB,h1,h2,h3,or_true,or_false,or_self]
 rw[aG IK (by simp[H4])]
 simp(maxDischargeDepth:=6) only[qF,ae,ah,aa,aj,ab,Nat.reduceAdd,reduceCtorEq,Nat.reduceLT,Nat.reduceEqDiff,H4,h,WD]
theorem tW(b:Bool):ai pE 161 [.b b] []=some (.i .i64 (ov b),[]):=by
 rw[aG IJ (by simp[H0])]
 cases b <;> simp(maxDischargeDepth:=6) only[qF,ae,ah,aa,aj,ab,reduceCtorEq,Nat.reduceLT,H0,ov]
theorem rn(b:Bool):ai pE 136 [.b b] []=some (.i .i64 (ov b),[]):=by
 rw[aG Iz (by simp[HT])]
 cases b <;> simp(maxDischargeDepth:=6) only[qF,ae,ah,aa,aj,ab,reduceCtorEq,Nat.reduceLT,HT,ov]
def B8(op:Int):Int→List Int→Int:=if op=12 then Un else Uo
theorem vR(op m v:Int)(vs:List Int)(h:op=12∨op=13):B8 op m (v::vs)=B8 op (if op=12 then min m v else max m v) vs:=by
 unfold B8
 rcases h with rfl|rfl <;> rfl
theorem zt(op m:Int):B8 op m []=m:=by unfold B8;split <;> rfl
theorem aeG(op num:Int)(fF:op=12∨op=13)(vs:List Int)(ev:0<vs.length)(a:T)(ha:aR a vs.length (ints vs))(hlen:vs.length≤eG)(fr:Fr)(lh:aQ aB)(sh:List aB)
  (h0:ak fr 0= .i .i64 op) (h2:ak fr 2=a) (h7:ak fr 7= .i .i64 (a0 vs)) (h8:ak fr 8= .i .i64 1):
  DC pE 176 (.loop fG) ⟨fr,lh,sh⟩=some (.ext 1,⟨cz pE 176 fG fr lh sh,bK pE 176 fG fr lh sh,cw pE 176 fG fr lh sh⟩)∧
  (ak (cz pE 176 fG fr lh sh) 7= .i .i64 (B8 op (a0 vs) vs.tail)∧bK pE 176 fG fr lh sh=lh∧cw pE 176 fG fr lh sh=sh):=by
 refine aD (P:=fun fr bp br=>ak fr 7= .i .i64 (B8 op (a0 vs) vs.tail)∧bp=lh∧br=sh) (aI (fun k st=> ∃(fr:Fr) (m:Int),st=⟨fr,lh,sh⟩∧ak fr 0= .i .i64 op∧ak fr 2=a∧ak fr 7= .i .i64 m∧ak fr 8= .i .i64 (k:Int)∧B8 op m (vs.drop k)=B8 op (a0 vs) vs.tail) _ vs.length ?_ ?_ 1 _ ev ⟨fr,a0 vs,rfl,h0,h2,h7,h8,by rw[List.drop_one]⟩)
 ·rintro k _ hk ⟨fr,m,rfl,h0,h2,h7,h8,hx⟩
  left
  have bt:(k:Int)<vs.length:=by omega
  have hw:=aJ (k:=k) (by omega)
  rw[List.drop_eq_getElem_cons hk,vR _ _ _ _ fF]at hx
  by_cases hc:vs[k]<m
  ·rcases fF with rfl|rfl
   ·rw[if_pos rfl,show min m vs[k]=vs[k]by omega]at hx
    simp(maxDischargeDepth:=6) only[ae,ah,aa,aj,ab,reduceCtorEq,Nat.reduceLT,Nat.reduceEqDiff,fG,h0,h2,h7,h8,ha.lenI,bt,iU ha hk,hw,hc,df,bq1]
    refine⟨_,rfl,_,_,rfl, ?_, ?_, ?_, ?_,hx⟩ <;> simp(maxDischargeDepth:=6) only[aa,ab,reduceCtorEq,Nat.reduceEqDiff,h0,h2]
   ·rw[if_neg (by decide),show max m vs[k]=m by omega]at hx
    simp(maxDischargeDepth:=6) only[ae,ah,aa,aj,ab,an,reduceCtorEq,Nat.reduceLT,Nat.reduceEqDiff,Int.reduceEq,fG,h0,h2,h7,h8,ha.lenI,bt,iU ha hk,hw,hc,df,bq4]
    refine⟨_,rfl,_,_,rfl, ?_, ?_, ?_, ?_,hx⟩ <;> simp(maxDischargeDepth:=6) only[aa,ab,reduceCtorEq,Nat.reduceEqDiff,h0,h2,h7]
  ·rcases fF with rfl|rfl
   ·rw[if_pos rfl,show min m vs[k]=m by omega]at hx
    simp(maxDischargeDepth:=6) only[ae,ah,aa,aj,ab,an,reduceCtorEq,Nat.reduceLT,Nat.reduceEqDiff,fG,h0,h2,h7,h8,ha.lenI,bt,iU ha hk,hw,hc,df,bq3]
    refine⟨_,rfl,_,_,rfl, ?_, ?_, ?_, ?_,hx⟩ <;> simp(maxDischargeDepth:=6) only[aa,ab,reduceCtorEq,Nat.reduceEqDiff,h0,h2,h7]
   ·rw[if_neg (by decide),show max m vs[k]=vs[k]by omega]at hx
    simp(maxDischargeDepth:=6) only[ae,ah,aa,aj,ab,an,reduceCtorEq,Nat.reduceLT,Nat.reduceEqDiff,Int.reduceEq,fG,h0,h2,h7,h8,ha.lenI,bt,iU ha hk,hw,hc,df,bq2]
    refine⟨_,rfl,_,_,rfl, ?_, ?_, ?_, ?_,hx⟩ <;> simp(maxDischargeDepth:=6) only[aa,ab,reduceCtorEq,Nat.reduceEqDiff,h0,h2]
 ·rintro _ ⟨fr,m,rfl,h0,h2,h7,h8,hx⟩
  rw[List.drop_length,zt]at hx
  simp(maxDischargeDepth:=6) only[ae,ah,aa,ab,an,Nat.reduceLT,Nat.reduceEqDiff,fG,h2,h8,ha.lenI,Int.lt_irrefl]
  exact⟨_,_,(by simp:Out.ext 1≠ .nrm),rfl,rfl,by simp(maxDischargeDepth:=6) only[aa,ab,Nat.reduceEqDiff,h7,hx],rfl,rfl⟩
def TW(op:Int)(vs:List Int):Prop:=(∀v∈vs,bd v)∧((op=19∨op=20∨op=21∨op=22)→ ∀v∈vs,bit v)∧(op=14→bit (a0 vs))
theorem xE(op num:Int)(vs:List Int)(a:T)(ha:aR a vs.length (ints vs))(hl:vs.length≤eG)(h1:7≤op)(h2:op≤22)(bo:bm op vs.length=true)(hv:TW op vs):ai pE 108 [.i .i64 op,.i .i64 num,a] []=some (.i .i64 (ry op vs),[]):=by
 rw[aG It (by simp[jh])]
 obtain⟨jP,BW,hif⟩:=hv
 have MJ: ∀x mR,vs=x::mR→(op=12∨op=13)→rR jh.res jh.eff (DC pE jh.n jh.code ⟨iO [.i .i64 op,.i .i64 num,a],.nil,[]⟩)=some (.i .i64 (B8 op (a0 vs) vs.tail),[]):=by
  rintro x mR rfl ho
  have hL:=fun fr lh sh=>aeG op num ho (x::mR) (by simp) a ha hl fr lh sh
  obtain⟨ex,rfl⟩:=eQ ha
  have hz:0<mR.length+1:=Nat.succ_pos _
  have e0:a0 (x::mR)=x:=rfl
  rw[e0]at hL ⊢
  rcases ho with rfl|rfl <;> simp(maxDischargeDepth:=6) only[qF,ae,ah,aa,aj,ab,an,bW,bn,aP,Nat.reduceAdd,reduceCtorEq,Nat.reduceLT,Nat.reduceLeDiff,Nat.reduceEqDiff,Int.reduceToNat,Int.reduceLE,Int.reduceEq,jh,hz,hL]
 have px:1≤op:=by omega
 rcases eP px h2 with rfl|rfl|rfl|rfl|rfl|rfl|rfl|rfl|rfl|rfl|rfl|rfl|rfl|rfl|rfl|rfl|rfl|rfl|rfl|rfl|rfl|rfl
 iterate 6 ·exact absurd h1 (by decide)
 ·obtain⟨x,rfl⟩:=BQ (by simpa[bm]using bo)
  obtain⟨ex,rfl⟩:=eQ ha
  have hx:=jP x (by simp)
  have h:=zn (a:=0) (by unfold bd;omega) (oA hx)
  have hw:=pO hx
  rw[show(0:Int)+ -x= -x by omega,oX (oA hx)]at h
  simp(maxDischargeDepth:=6) only[qF,ae,ah,aa,aj,ab,an,bW,bn,aP,Nat.reduceAdd,reduceCtorEq,Nat.reduceLT,Nat.reduceLeDiff,Nat.reduceEqDiff,Int.reduceToNat,Int.reduceLE,Int.reduceEq,jh,ints,hw,h,IG];rfl
 ·obtain⟨x,y,rfl⟩:=ft (by simpa[bm]using bo)
  obtain⟨ex,rfl⟩:=eQ ha
  have h:=zn (jP x (by simp)) (jP y (by simp))
  simp(maxDischargeDepth:=6) only[qF,ae,ah,aa,aj,ab,an,bW,pL,bM,bn,aP,Nat.reduceAdd,reduceCtorEq,Nat.reduceLT,Nat.reduceLeDiff,Nat.reduceEqDiff,Int.reduceToNat,Int.reduceLE,Int.reduceEq,cq,aZ,jh,ints,h,IG,Qn];rfl
 ·obtain⟨x,y,rfl⟩:=ft (by simpa[bm]using bo)
  obtain⟨ex,rfl⟩:=eQ ha
  have hy:=jP y (by simp)
  have h:=zn (jP x (by simp)) (oA hy)
  have hw:=pO hy
  simp(maxDischargeDepth:=6) only[qF,ae,ah,aa,aj,ab,an,bW,pL,bM,bn,aP,Nat.reduceAdd,reduceCtorEq,Nat.reduceLT,Nat.reduceLeDiff,Nat.reduceEqDiff,Int.reduceToNat,Int.reduceLE,Int.reduceEq,cq,aZ,jh,ints,hw,h,IG,Qn];rfl
 ·obtain⟨x,y,rfl⟩:=ft (by simpa[bm]using bo)
  obtain⟨ex,rfl⟩:=eQ ha
  have h:=Pz (jP x (by simp)) (jP y (by simp))
  simp(maxDischargeDepth:=6) only[qF,ae,ah,aa,aj,ab,an,bW,pL,bM,bn,aP,Nat.reduceAdd,reduceCtorEq,Nat.reduceLT,Nat.reduceLeDiff,Nat.reduceEqDiff,Int.reduceToNat,Int.reduceLE,Int.reduceEq,cq,aZ,jh,ints,h,Ws,Wt];rfl
 ·obtain⟨x,y,rfl⟩:=ft (by simpa[bm]using bo)
  obtain⟨ex,rfl⟩:=eQ ha
  have h:=PA (jP x (by simp)) (jP y (by simp))
  simp(maxDischargeDepth:=6) only[qF,ae,ah,aa,aj,ab,an,bW,pL,bM,bn,aP,Nat.reduceAdd,reduceCtorEq,Nat.reduceLT,Nat.reduceLeDiff,Nat.reduceEqDiff,Int.reduceToNat,Int.reduceLE,Int.reduceEq,cq,aZ,jh,ints,h,Wu,Wv];rfl
 ·match vs,bo with
  |x::ts,_=>exact MJ x ts rfl (by simp)
 ·match vs,bo with
  |x::ts,_=>exact MJ x ts rfl (by simp)
 ·obtain⟨x,y,z,rfl⟩:=zj (by simpa[bm]using bo)
  obtain⟨ex,rfl⟩:=eQ ha
  have e:ry 14 [x,y,z]=if x=0 then z else y:=rfl
  rw[e]
  rcases hif rfl with hx|hx
  ·have hx:x=0:=hx
   subst hx;simp(maxDischargeDepth:=6) only[qF,ae,ah,aa,aj,ab,an,Int.reduceSub,Int.reduceNeg,bW,pL,bM,bn,aP,Nat.reduceAdd,reduceCtorEq,Nat.reduceLT,Nat.reduceLeDiff,Nat.reduceEqDiff,Int.reduceToNat,Int.reduceLE,Int.reduceEq,jh,ints]
  ·have hx:x=1:=hx
   subst hx;simp(maxDischargeDepth:=6) only[qF,ae,ah,aa,aj,ab,an,Int.reduceSub,Int.reduceNeg,bW,pL,bM,bn,aP,Nat.reduceAdd,reduceCtorEq,Nat.reduceLT,Nat.reduceLeDiff,Nat.reduceEqDiff,Int.reduceToNat,Int.reduceLE,Int.reduceEq,jh,ints]
 ·obtain⟨x,y,z,rfl⟩:=zj (by simpa[bm]using bo)
  obtain⟨ex,rfl⟩:=eQ ha
  have h:=DN x y z
  have h':=tW (tb x y z)
  simp(maxDischargeDepth:=6) only[qF,ae,ah,aa,aj,ab,an,bW,pL,bM,bn,aP,Nat.reduceAdd,reduceCtorEq,Nat.reduceLT,Nat.reduceLeDiff,Nat.reduceEqDiff,Int.reduceToNat,Int.reduceLE,Int.reduceEq,cq,aZ,jh,ints,h,h',Ww,Wx,DY,DZ];rfl
 ·obtain⟨x,y,rfl⟩:=ft (by simpa[bm]using bo)
  obtain⟨ex,rfl⟩:=eQ ha
  have h':=tW (decide (x<y))
  simp(maxDischargeDepth:=6) only[qF,ae,ah,aa,aj,ab,an,bW,pL,bM,bn,aP,Nat.reduceAdd,reduceCtorEq,Nat.reduceLT,Nat.reduceLeDiff,Nat.reduceEqDiff,Int.reduceToNat,Int.reduceLE,Int.reduceEq,cq,aZ,jh,ints,h',DY,DZ];rfl
 ·obtain⟨x,y,rfl⟩:=ft (by simpa[bm]using bo)
  obtain⟨ex,rfl⟩:=eQ ha
  have h':=tW (decide (x≤y))
  simp(maxDischargeDepth:=6) only[qF,ae,ah,aa,aj,ab,an,bW,pL,bM,bn,aP,Nat.reduceAdd,reduceCtorEq,Nat.reduceLT,Nat.reduceLeDiff,Nat.reduceEqDiff,Int.reduceToNat,Int.reduceLE,Int.reduceEq,cq,aZ,jh,ints,h',DY,DZ];rfl
 ·obtain⟨x,y,rfl⟩:=ft (by simpa[bm]using bo)
  obtain⟨ex,rfl⟩:=eQ ha
  have h':=tW (decide (x=y))
  simp(maxDischargeDepth:=6) only[qF,ae,ah,aa,aj,ab,an,bW,pL,bM,bn,aP,Nat.reduceAdd,reduceCtorEq,Nat.reduceLT,Nat.reduceLeDiff,Nat.reduceEqDiff,Int.reduceToNat,Int.reduceLE,Int.reduceEq,cq,aZ,jh,ints,h',DY,DZ];rfl
 ·obtain⟨x,rfl⟩:=BQ (by simpa[bm]using bo)
  obtain⟨ex,rfl⟩:=eQ ha
  have hb:=BW (by simp) x (by simp)
  have hw:wr .i64 (1-x)=1-x:=by unfold bit at hb;exact nX ⟨by omega,by omega⟩
  simp(maxDischargeDepth:=6) only[qF,ae,ah,aa,aj,ab,an,bW,bn,aP,Nat.reduceAdd,reduceCtorEq,Nat.reduceLT,Nat.reduceLeDiff,Nat.reduceEqDiff,Int.reduceToNat,Int.reduceLE,Int.reduceEq,jh,ints,hw];rfl
 ·obtain⟨x,y,rfl⟩:=ft (by simpa[bm]using bo)
  obtain⟨ex,rfl⟩:=eQ ha
  have e:ry 20 [x,y]=if y<x then y else x:=by
   show min x y=_
   split <;> omega
  rw[e]
  simp(maxDischargeDepth:=6) only[qF,ae,ah,aa,aj,ab,an,bW,pL,bM,bn,aP,Nat.reduceAdd,reduceCtorEq,Nat.reduceLT,Nat.reduceLeDiff,Nat.reduceEqDiff,Int.reduceToNat,Int.reduceLE,Int.reduceEq,cq,aZ,jh,ints]
 ·obtain⟨x,y,rfl⟩:=ft (by simpa[bm]using bo)
  obtain⟨ex,rfl⟩:=eQ ha
  have e:ry 21 [x,y]=if y>x then y else x:=by
   show max x y=_
   split <;> omega
  rw[e]
  simp(maxDischargeDepth:=6) only[qF,ae,ah,aa,aj,ab,an,bW,pL,bM,bn,aP,Nat.reduceAdd,reduceCtorEq,Nat.reduceLT,Nat.reduceLeDiff,Nat.reduceEqDiff,Int.reduceToNat,Int.reduceLE,Int.reduceEq,cq,aZ,jh,ints]
 ·obtain⟨x,y,rfl⟩:=ft (by simpa[bm]using bo)
  obtain⟨ex,rfl⟩:=eQ ha
  have hb:=BW (by simp) x (by simp)
  have hw:wr .i64 (1-x)=1-x:=by unfold bit at hb;exact nX ⟨by omega,by omega⟩
  have e:ry 22 [x,y]=if y>1-x then y else 1-x:=by
   show max (1-x) y=_
   split <;> omega
  rw[e]
  simp(maxDischargeDepth:=6) only[qF,ae,ah,aa,aj,ab,an,bW,pL,bM,bn,aP,Nat.reduceAdd,reduceCtorEq,Nat.reduceLT,Nat.reduceLeDiff,Nat.reduceEqDiff,Int.reduceToNat,Int.reduceLE,Int.reduceEq,cq,aZ,jh,ints,hw]
end Go.Proofs.YtfenhjpkomldcaaGreat
namespace Go.Proofs.YtfenhjpkomldcaaGreat
open Go Go.Ev
theorem DO(op a b:Int)(hv:TW op [a,b])(ho:op=8∨op=9∨op=10∨op=11∨op=16∨op=17∨op=18∨op=20∨op=21∨op=22):ai pE 141 [.i .i64 op,.i .i64 a,.i .i64 b] []=some (.i .i64 (ry op [a,b]),[]):=by
 rw[aG IC (by simp[qb])]
 obtain⟨jP,BW,_⟩:=hv
 have ha:=jP a (by simp)
 have hb:=jP b (by simp)
 have hbt:(op=19∨op=20∨op=21∨op=22)→bit a∧bit b:=fun h=>⟨BW h a (by simp),BW h b (by simp)⟩
 clear jP BW
 rcases ho with rfl|rfl|rfl|rfl|rfl|rfl|rfl|rfl|rfl|rfl
 ·have h:=zl ha hb
  simp(maxDischargeDepth:=6) only[qF,ae,ah,aa,aj,ab,an,Nat.reduceAdd,reduceCtorEq,Nat.reduceLT,Nat.reduceEqDiff,Int.reduceEq,qb,h,IB];rfl
 ·have h:=zl ha (oA hb)
  have hw:=pO hb
  simp(maxDischargeDepth:=6) only[qF,ae,ah,aa,aj,ab,an,Nat.reduceAdd,reduceCtorEq,Nat.reduceLT,Nat.reduceEqDiff,Int.reduceEq,qb,h,hw,IB];rfl
 ·have h:=Fh ha hb
  simp(maxDischargeDepth:=6) only[qF,ae,ah,aa,aj,ab,an,Nat.reduceAdd,reduceCtorEq,Nat.reduceLT,Nat.reduceEqDiff,Int.reduceEq,qb,h,QG];rfl
 ·have h:=PC ha hb
  simp(maxDischargeDepth:=6) only[qF,ae,ah,aa,aj,ab,an,Nat.reduceAdd,reduceCtorEq,Nat.reduceLT,Nat.reduceEqDiff,Int.reduceEq,qb,h,WB];rfl
 ·have h:=rn (decide (a<b))
  simp(maxDischargeDepth:=6) only[qF,ae,ah,aa,aj,ab,an,Nat.reduceAdd,reduceCtorEq,Nat.reduceLT,Nat.reduceEqDiff,Int.reduceEq,qb,h,DW];rfl
 ·have h:=rn (decide (a≤b))
  simp(maxDischargeDepth:=6) only[qF,ae,ah,aa,aj,ab,an,Nat.reduceAdd,reduceCtorEq,Nat.reduceLT,Nat.reduceEqDiff,Int.reduceEq,qb,h,DW];rfl
 ·have h:=rn (decide (a=b))
  simp(maxDischargeDepth:=6) only[qF,ae,ah,aa,aj,ab,an,Nat.reduceAdd,reduceCtorEq,Nat.reduceLT,Nat.reduceEqDiff,Int.reduceEq,qb,h,DW];rfl
 ·obtain⟨h1,h2⟩:=hbt (by simp)
  have h:=Oy h1 h2
  simp(maxDischargeDepth:=6) only[qF,ae,ah,aa,aj,ab,an,Nat.reduceAdd,reduceCtorEq,Nat.reduceLT,Nat.reduceEqDiff,Int.reduceEq,qb,h];rfl
 ·obtain⟨h1,h2⟩:=hbt (by simp)
  have h:=Kw h1 h2
  simp(maxDischargeDepth:=6) only[qF,ae,ah,aa,aj,ab,an,Nat.reduceAdd,reduceCtorEq,Nat.reduceLT,Nat.reduceEqDiff,Int.reduceEq,qb,h];rfl
 ·obtain⟨h1,h2⟩:=hbt (by simp)
  have hw:wr .i64 (1-a)=1-a:=by unfold bit at h1;exact nX ⟨by omega,by omega⟩
  have h:=Kw (a:=1-a) (b:=b) (by unfold bit at h1;omega) h2
  simp(maxDischargeDepth:=6) only[qF,ae,ah,aa,aj,ab,an,Nat.reduceAdd,reduceCtorEq,Nat.reduceLT,Nat.reduceEqDiff,Int.reduceEq,qb,hw,h];rfl
inductive Fm where
 |mk (op num:Int) (args:List Fm)
def Fm.op:Fm→Int| .mk o _ _=>o
def Fm.num:Fm→Int| .mk _ n _=>n
def Fm.args:Fm→List Fm| .mk _ _ a=>a
mutual
def nk:Fm→List T→Prop
 | .mk op num args,cs=> ∃a cc,cs= [.i .i64 op,.i .i64 num,a]∧aR a args.length cc∧cg args cc
def cg:List Fm→List T→Prop
 | [],cs=>cs= []
 |x::xs,cs=> ∃c r,cs=c++r∧nk x c∧cg xs r
end
theorem nk.cells{x:Fm}{cs:List T}(h:nk x cs): ∃a cc,cs= [.i .i64 x.op,.i .i64 x.num,a]∧aR a x.args.length cc∧cg x.args cc:=by
 obtain⟨o,n,a⟩:=x
 rw[nk]at h
 exact h
theorem nk.of{x:Fm}{a:T}{cc:List T}(h1:aR a x.args.length cc)(h2:cg x.args cc):nk x [.i .i64 x.op,.i .i64 x.num,a]:=by
 obtain⟨o,n,l⟩:=x
 rw[nk]
 exact⟨a,cc,rfl,h1,h2⟩
theorem nk.len{x:Fm}{cs:List T}(h:nk x cs):cs.length=3:=by
 obtain⟨a,cc,rfl,_⟩:=h.cells;rfl
theorem cg.nil:cg [] []:=by rw[cg]
theorem cg.cons{x:Fm}{xs:List Fm}{c r:List T}(h1:nk x c)(h2:cg xs r):cg (x::xs) (c++r):=by
 rw[cg];exact⟨c,r,rfl,h1,h2⟩
theorem cg.append: ∀{xs ys:List Fm} {c r:List T},cg xs c→cg ys r→cg (xs++ys) (c++r)
 | [],ys,c,r,h1,h2=>by rw[cg]at h1;subst h1;exact h2
 |x::xs,ys,c,r,h1,h2=>by
  rw[cg]at h1
  obtain⟨c1,r1,rfl,h3,h4⟩:=h1
  rw[List.append_assoc]
  exact cg.cons h3 (cg.append h4 h2)
theorem cg.one{x:Fm}{c:List T}(h:nk x c):cg [x] c:=by
 have:=cg.cons h cg.nil
 rwa [List.append_nil]at this
theorem cg.len: ∀{xs:List Fm} {cs:List T},cg xs cs→cs.length=xs.length*3
 | [],cs,h=>by rw[cg]at h;rw[h];rfl
 |x::xs,cs,h=>by
  rw[cg]at h
  obtain⟨c,r,rfl,h1,h2⟩:=h
  rw[List.length_append,h1.len,h2.len,List.length_cons];omega
theorem cg.drop: ∀{xs:List Fm} {cs:List T} (k:Nat) (hk:k<xs.length),cg xs cs→ ∃c r,cs.drop (k*3)=c++r∧nk xs[k] c∧cg (xs.drop (k+1)) r
 | [],cs,k,hk,h=>by simp at hk
 |x::xs,cs,0,hk,h=>by
  rw[cg]at h
  obtain⟨c,r,rfl,h1,h2⟩:=h
  exact⟨c,r,by simp,h1,by simpa using h2⟩
 |x::xs,cs,k+1,hk,h=>by
  rw[cg]at h
  obtain⟨c,r,rfl,h1,h2⟩:=h
  obtain⟨c',r',e,h3,h4⟩:=cg.drop k (by simpa using hk) h2
  refine⟨c',r', ?_,h3,by simpa using h4⟩
  have:(k+1)*3=c.length+k*3:=by rw[h1.len];omega
  rw[this,List.drop_append,Nat.add_sub_cancel_left,List.drop_eq_nil_of_le (by omega),e];rfl
theorem ZA{xs:List Fm}{a:T}{cc:List T}(h1:aR a xs.length cc)(h2:cg xs cc)(k:Nat)(hk:k<xs.length):
  ∃b cb r,(∀kk,uW a (.i kk (k:Int)) 3=some (.vp (.i .i64 xs[k].op:: .i .i64 xs[k].num::b::r)))∧aR b xs[k].args.length cb∧cg xs[k].args cb:=by
 obtain⟨c,r,e,h3,h4⟩:=cg.drop k hk h2
 obtain⟨b,cb,rfl,h5,h6⟩:=h3.cells
 refine⟨b,cb,r,fun kk=> ?_,h5,h6⟩
 rw[h1.ia (sz:=3) h2.len hk,e];rfl
mutual
def Fm.val(at_:List Int):Fm→Int
 | .mk op num args=>if op=1 then num else if op=6 then at_.getD num.toNat 0 else ry op (dP at_ args)
def dP(at_:List Int):List Fm→List Int
 | []=> []
 |x::xs=>x.val at_::dP at_ xs
end
theorem Fm.val_eq(at_:List Int)(x:Fm):x.val at_=if x.op=1 then x.num else if x.op=6 then at_.getD x.num.toNat 0 else ry x.op (dP at_ x.args):=by obtain⟨_,_,_⟩:=x;rw[Fm.val];rfl
theorem oB(at_:List Int): ∀xs,dP at_ xs=xs.map (Fm.val at_)
 | []=>rfl
 |x::xs=>by rw[dP,oB at_ xs];rfl
mutual
def TU(at_:List Int):Fm→Prop
 | .mk op num args=>(op=1∧bd num)∨(op=6∧0≤num∧num.toNat<at_.length∧bd (at_.getD num.toNat 0))∨(7≤op∧op≤22∧bm op args.length=true∧args.length≤eG∧yQ at_ args∧TW op (dP at_ args))
def yQ(at_:List Int):List Fm→Prop
 | []=>True
 |x::xs=>TU at_ x∧yQ at_ xs
end
theorem rW(at_:List Int)(x:Fm):TU at_ x↔((x.op=1∧bd x.num)∨(x.op=6∧0≤x.num∧x.num.toNat<at_.length∧bd (at_.getD x.num.toNat 0))∨(7≤x.op∧x.op≤22∧bm x.op x.args.length=true∧x.args.length≤eG∧yQ at_ x.args∧TW x.op (dP at_ x.args))):=by obtain⟨_,_,_⟩:=x;rw[TU];rfl
theorem BX(at_:List Int): ∀{xs:List Fm},yQ at_ xs↔ ∀x∈xs,TU at_ x
 | []=>by simp[yQ]
 |x::xs=>by rw[yQ,BX at_ (xs:=xs)];simp
mutual
def Fm.sz:Fm→Nat
 | .mk _ _ args=>1+LM args
def LM:List Fm→Nat
 | []=>0
 |x::xs=>x.sz+LM xs
end
theorem Fm.sz_eq(x:Fm):x.sz=1+LM x.args:=by obtain⟨_,_,_⟩:=x;rw[Fm.sz];rfl
theorem BY: ∀{xs:List Fm} {x:Fm},x∈xs→x.sz≤LM xs
 |y::xs,x,h=>by
  rw[LM]
  rcases List.mem_cons.1 h with rfl|h
  ·omega
  ·have:=BY h;omega
theorem Fm.ind{P:Fm→Prop}(h: ∀x:Fm,(∀y∈x.args,P y)→P x)(x:Fm):P x:=by
 have: ∀n (x:Fm),x.sz≤n→P x:=by
  intro n
  induction n with
  |zero=>intro x hx;rw[x.sz_eq]at hx;omega
  |succ n ih=>
   intro x hx
   refine h x fun y hy=>ih y ?_
   have:=BY hy
   rw[x.sz_eq]at hx;omega
 exact this _ x (Nat.le_refl _)
end Go.Proofs.YtfenhjpkomldcaaGreat
namespace Go.Proofs.YtfenhjpkomldcaaGreat
open Go Go.Ev
section
variable(at_:List Int)(Fi:T)(ga:aR Fi at_.length (ints at_))
def UP(f:Fm):Prop:= ∀(b:T) (cb r:List T),aR b f.args.length cb→cg f.args cb→TU at_ f→ai pE 92 [.vp (.i .i64 f.op:: .i .i64 f.num::b::r),Fi] []=some (.i .i64 (f.val at_),[])
include ga
theorem ZB{xs:List Fm}(ih: ∀y∈xs,UP at_ Fi y){a:T}{cc:List T}(ha:aR a xs.length cc)(hx:cg xs cc)(ZC:yQ at_ xs)(k:Nat)(hk:k<xs.length)(j:Int)(hj:j=(k:Int)):
  ∃c,(∀kk,uW a (.i kk j) 3=some (.vp c))∧ai pE 92 [.vp c,Fi] []=some (.i .i64 (xs[k].val at_),[]):=by
 have _:=ga
 obtain⟨b,cb,r,bh,h1,h2⟩:=ZA ha hx k hk
 subst hj
 exact⟨_,bh,ih xs[k] (List.getElem_mem hk) b cb r h1 h2 ((BX at_).1 ZC _ (List.getElem_mem hk))⟩
theorem aeI(op num:Int)(fF:op=12∨op=13)(xs:List Fm)(ih: ∀y∈xs,UP at_ Fi y)(a:T)(cc r:List T)(ha:aR a xs.length cc)(hx:cg xs cc)(ZC:yQ at_ xs)(ev:0<xs.length)(hlen:xs.length≤eG)(fr:Fr)(lh:aQ aB)(sh:List aB)
  (h0:ak fr 0= .vp (.i .i64 op:: .i .i64 num::a::r)) (h1:ak fr 1=Fi) (h5:ak fr 5= .i .i64 (a0 (dP at_ xs))) (h6:ak fr 6= .i .i64 1):
  DC pE 155 (.loop ku) ⟨fr,lh,sh⟩=some (.ext 1,⟨cz pE 155 ku fr lh sh,bK pE 155 ku fr lh sh,cw pE 155 ku fr lh sh⟩)∧
  (ak (cz pE 155 ku fr lh sh) 5= .i .i64 (B8 op (a0 (dP at_ xs)) (dP at_ xs).tail)∧bK pE 155 ku fr lh sh=lh∧cw pE 155 ku fr lh sh=sh):=by
 refine aD (P:=fun fr bp br=>ak fr 5= .i .i64 (B8 op (a0 (dP at_ xs)) (dP at_ xs).tail)∧bp=lh∧br=sh) (aI (fun k st=> ∃(fr:Fr) (m:Int),st=⟨fr,lh,sh⟩∧ak fr 0= .vp (.i .i64 op:: .i .i64 num::a::r)∧ak fr 1=Fi∧ak fr 5= .i .i64 m∧ak fr 6= .i .i64 (k:Int)∧B8 op m ((dP at_ xs).drop k)=B8 op (a0 (dP at_ xs)) (dP at_ xs).tail) _ xs.length ?_ ?_ 1 _ ev ⟨fr,a0 (dP at_ xs),rfl,h0,h1,h5,h6,by rw[List.drop_one]⟩)
 ·rintro k _ hk ⟨fr,m,rfl,h0,h1,h5,h6,Ep⟩
  left
  have bt:(k:Int)<xs.length:=by omega
  have hw:=aJ (k:=k) (by omega)
  have mh:(dP at_ xs).length=xs.length:=by rw[oB];simp
  have hvk:(dP at_ xs)[k]'(by omega)=xs[k].val at_:=by simp[oB]
  obtain⟨c,bh,az⟩:=ZB at_ Fi ga ih ha hx ZC k hk (k:Int) rfl
  rw[List.drop_eq_getElem_cons (by omega),vR _ _ _ _ fF,hvk]at Ep
  generalize xs[k].val at_=v at Ep az
  rcases fF with rfl|rfl
  ·rw[if_pos rfl,show min m v=(if v<m then v else m)by split <;> omega]at Ep
   simp(maxDischargeDepth:=6) only[qF,ae,ah,aa,aj,ab,an,pL,bM,reduceCtorEq,Nat.reduceLT,Nat.reduceLeDiff,Nat.reduceEqDiff,ku,h0,h1,h5,h6,ha.lenI,bt,bh,hw,az,Ab,ga.froz]
   refine⟨_,rfl,_,_,rfl, ?_, ?_, ?_, ?_,Ep⟩ <;> simp(maxDischargeDepth:=6) only[aa,ab,reduceCtorEq,Nat.reduceEqDiff,h0,h1]
  ·rw[if_neg (by decide),show max m v=(if v>m then v else m)by split <;> omega]at Ep
   simp(maxDischargeDepth:=6) only[qF,ae,ah,aa,aj,ab,an,pL,bM,reduceCtorEq,Nat.reduceLT,Nat.reduceLeDiff,Nat.reduceEqDiff,Int.reduceEq,ku,h0,h1,h5,h6,ha.lenI,bt,bh,hw,az,Ab,ga.froz]
   refine⟨_,rfl,_,_,rfl, ?_, ?_, ?_, ?_,Ep⟩ <;> simp(maxDischargeDepth:=6) only[aa,ab,reduceCtorEq,Nat.reduceEqDiff,h0,h1]
 ·rintro _ ⟨fr,m,rfl,h0,h1,h5,h6,Ep⟩
  have mh:(dP at_ xs).length=xs.length:=by rw[oB];simp
  rw[←mh,List.drop_length,zt]at Ep
  simp(maxDischargeDepth:=6) only[ae,ah,aa,aj,ab,an,reduceCtorEq,Nat.reduceLT,Nat.reduceLeDiff,Nat.reduceEqDiff,ku,h0,h6,ha.lenI,Int.lt_irrefl]
  exact⟨_,_,(by simp:Out.ext 1≠ .nrm),rfl,rfl,by simp(maxDischargeDepth:=6) only[aa,ab,Nat.reduceEqDiff,h5,Ep],rfl,rfl⟩
theorem TY(f:Fm):UP at_ Fi f:=by
 induction f using Fm.ind with
 |h f ih=>
  intro b cb r hb RD ZC
  rw[aG Md (by simp[wG]),Fm.val_eq]
  rcases(rW at_ f).1 ZC with⟨h1,_⟩|⟨h6,Xp,Hy,_⟩|⟨h7,Dj,bo,tu,ZD,hv⟩
  ·rw[if_pos h1]
   simp(maxDischargeDepth:=6) only[qF,ae,ah,aa,aj,ab,an,reduceCtorEq,Nat.reduceLT,Nat.reduceLeDiff,Nat.reduceEqDiff,Int.reduceEq,wG,h1]
  ·rw[if_neg (by omega),if_pos h6]
   have bh:=fun kk=>iU ga Hy kk
   rw[Int.toNat_of_nonneg Xp]at bh
   have e:at_.getD f.num.toNat 0=at_[f.num.toNat]:=by simp[List.getD_eq_getElem?_getD,List.getElem?_eq_getElem Hy]
   rw[e]
   simp(maxDischargeDepth:=6) only[qF,ae,ah,aa,aj,ab,an,reduceCtorEq,Nat.reduceLT,Nat.reduceLeDiff,Nat.reduceEqDiff,Int.reduceEq,wG,h6,bh]
  ·rw[if_neg (by omega),if_neg (by omega)]
   have mh:dP at_ f.args=f.args.map (Fm.val at_):=oB at_ _
   have ew: ∀(k:Nat) (hk:k<f.args.length) (j:Int),j=(k:Int)→ ∃c,(∀kk,uW b (.i kk j) 3=some (.vp c))∧ai pE 92 [.vp c,Fi] []=some (.i .i64 (f.args[k].val at_),[]):=fun k hk j hj=>ZB at_ Fi ga (fun y hy=>ih y hy) hb RD ZD k hk j hj
   have MJ:0<f.args.length→(f.op=12∨f.op=13)→rR wG.res wG.eff (DC pE wG.n wG.code ⟨iO [.vp (.i .i64 f.op:: .i .i64 f.num::b::r),Fi],.nil,[]⟩)=some (.i .i64 (B8 f.op (a0 (dP at_ f.args)) (dP at_ f.args).tail),[]):=by
    intro ev ho
    obtain⟨c0,bO,vU⟩:=ew 0 ev 0 rfl
    have hL:=fun fr lh sh=>aeI at_ Fi ga f.op f.num ho f.args (fun y hy=>ih y hy) b cb r hb RD ZD ev tu fr lh sh
    have e0:a0 (dP at_ f.args)=f.args[0].val at_:=by rw[mh];unfold a0;simp[List.getD_eq_getElem?_getD,List.getElem?_eq_getElem ev]
    rw[e0]at hL ⊢
    rcases ho with ho|ho <;> rw[ho]at hL ⊢ <;> simp(maxDischargeDepth:=6) only[qF,ae,ah,aa,aj,ab,an,reduceCtorEq,Nat.reduceLT,Nat.reduceLeDiff,Nat.reduceEqDiff,Int.reduceEq,wG,bO,vU,Ab,ga.froz,hL]
   have Ht: ∀x y:Int,dP at_ f.args= [x,y]→(f.op=8∨f.op=9∨f.op=10∨f.op=11∨f.op=16∨f.op=17∨f.op=18∨f.op=20∨f.op=21∨f.op=22)→rR wG.res wG.eff (DC pE wG.n wG.code ⟨iO [.vp (.i .i64 f.op:: .i .i64 f.num::b::r),Fi],.nil,[]⟩)=some (.i .i64 (ry f.op [x,y]),[]):=by
    intro x y pr ho
    have zA:f.args.length=2:=by have:=congrArg List.length pr;rw[mh]at this;simpa using this
    obtain⟨c0,bO,vU⟩:=ew 0 (by omega) 0 rfl
    obtain⟨c1,cu,ni⟩:=ew 1 (by omega) 1 rfl
    have e0:f.args[0].val at_=x:=by
     have:(dP at_ f.args)[0]? =some x:=by rw[pr];rfl
     rw[mh]at this;simpa[List.getElem?_eq_getElem (show 0<f.args.length by omega)]using this
    have e1:f.args[1].val at_=y:=by
     have:(dP at_ f.args)[1]? =some y:=by rw[pr];rfl
     rw[mh]at this;simpa[List.getElem?_eq_getElem (show 1<f.args.length by omega)]using this
    rw[e0]at vU
    rw[e1]at ni
    rw[pr]at hv
    have hcb:=DO f.op x y hv ho
    rcases ho with ho|ho|ho|ho|ho|ho|ho|ho|ho|ho <;> rw[ho]at hcb ⊢ <;> simp(maxDischargeDepth:=6) only[qF,ae,ah,aa,aj,ab,an,reduceCtorEq,Nat.reduceLT,Nat.reduceLeDiff,Nat.reduceEqDiff,Int.reduceEq,cq,aZ,wG,bO,cu,vU,ni,Ab,V0,ga.froz,hcb,Wk,Wl]
   have hg: ∀(k:Nat) (hk:k<f.args.length),(dP at_ f.args)[k]? =some (f.args[k].val at_):=fun k hk=>by rw[mh];simp[List.getElem?_eq_getElem hk]
   rcases eP (show 1≤f.op by omega) Dj with h|h|h|h|h|h|h|h|h|h|h|h|h|h|h|h|h|h|h|h|h|h
   iterate 6 ·omega
   ·have qp:f.args.length=1:=by rw[h]at bo;simpa[bm]using bo
    obtain⟨x,hx⟩:=BQ (ts:=dP at_ f.args) (by rw[mh];simpa using qp)
    obtain⟨c0,bO,vU⟩:=ew 0 (by omega) 0 rfl
    have e0:f.args[0].val at_=x:=by have:=hg 0 (by omega);rw[hx]at this;simpa using this.symm
    rw[e0]at vU
    rw[hx]at hv ⊢
    have ZE:=hv.1 x (by simp)
    have ha:=zl (a:=0) (by unfold bd;omega) (oA ZE)
    have hw:=pO ZE
    rw[show(0:Int)+ -x= -x by omega,oX (oA ZE)]at ha
    rw[h]
    simp(maxDischargeDepth:=6) only[qF,ae,ah,aa,aj,ab,an,reduceCtorEq,Nat.reduceLT,Nat.reduceLeDiff,Nat.reduceEqDiff,Int.reduceEq,wG,bO,vU,Ab,ga.froz,hw,ha,IB];rfl
   ·obtain⟨x,y,pr⟩:=ft (ts:=dP at_ f.args) (by rw[mh];rw[h]at bo;simpa[bm]using bo)
    rw[pr];exact Ht x y pr (by omega)
   ·obtain⟨x,y,pr⟩:=ft (ts:=dP at_ f.args) (by rw[mh];rw[h]at bo;simpa[bm]using bo)
    rw[pr];exact Ht x y pr (by omega)
   ·obtain⟨x,y,pr⟩:=ft (ts:=dP at_ f.args) (by rw[mh];rw[h]at bo;simpa[bm]using bo)
    rw[pr];exact Ht x y pr (by omega)
   ·obtain⟨x,y,pr⟩:=ft (ts:=dP at_ f.args) (by rw[mh];rw[h]at bo;simpa[bm]using bo)
    rw[pr];exact Ht x y pr (by omega)
   ·rw[MJ (by rw[h]at bo;simp[bm]at bo;omega) (by omega),h];rfl
   ·rw[MJ (by rw[h]at bo;simp[bm]at bo;omega) (by omega),h];rfl
   ·have WX:f.args.length=3:=by rw[h]at bo;simpa[bm]using bo
    obtain⟨x,y,z,hx⟩:=zj (ts:=dP at_ f.args) (by rw[mh];simpa using WX)
    obtain⟨c0,bO,vU⟩:=ew 0 (by omega) 0 rfl
    obtain⟨c1,cu,ni⟩:=ew 1 (by omega) 1 rfl
    obtain⟨c2,vu,Ry⟩:=ew 2 (by omega) 2 rfl
    have e0:f.args[0].val at_=x:=by have:=hg 0 (by omega);rw[hx]at this;simpa using this.symm
    have e1:f.args[1].val at_=y:=by have:=hg 1 (by omega);rw[hx]at this;simpa using this.symm
    have e2:f.args[2].val at_=z:=by have:=hg 2 (by omega);rw[hx]at this;simpa using this.symm
    rw[e0]at vU
    rw[e1]at ni
    rw[e2]at Ry
    rw[hx,h,show ry 14 [x,y,z]=if x=0 then z else y from rfl]
    by_cases ZL:x=0 <;> simp(maxDischargeDepth:=6) only[qF,ae,ah,aa,aj,ab,an,Int.reduceSub,Int.reduceNeg,reduceCtorEq,Nat.reduceLT,Nat.reduceLeDiff,Nat.reduceEqDiff,Int.reduceLE,Int.reduceEq,wG,bO,cu,vu,vU,ni,Ry,Ab,ga.froz,ZL]
   ·have WX:f.args.length=3:=by rw[h]at bo;simpa[bm]using bo
    obtain⟨x,y,z,hx⟩:=zj (ts:=dP at_ f.args) (by rw[mh];simpa using WX)
    obtain⟨c0,bO,vU⟩:=ew 0 (by omega) 0 rfl
    obtain⟨c1,cu,ni⟩:=ew 1 (by omega) 1 rfl
    obtain⟨c2,vu,Ry⟩:=ew 2 (by omega) 2 rfl
    have e0:f.args[0].val at_=x:=by have:=hg 0 (by omega);rw[hx]at this;simpa using this.symm
    have e1:f.args[1].val at_=y:=by have:=hg 1 (by omega);rw[hx]at this;simpa using this.symm
    have e2:f.args[2].val at_=z:=by have:=hg 2 (by omega);rw[hx]at this;simpa using this.symm
    rw[e0]at vU
    rw[e1]at ni
    rw[e2]at Ry
    rw[hx,h]
    have hi:=DM x y z
    have ht:=rn (tb x y z)
    simp(maxDischargeDepth:=6) only[qF,ae,ah,aa,aj,ab,an,reduceCtorEq,Nat.reduceLT,Nat.reduceLeDiff,Nat.reduceEqDiff,Int.reduceEq,cq,aZ,wG,bO,cu,vu,vU,ni,Ry,Ab,V0,ga.froz,hi,ht,Wi,Wj,DW,Wh];rfl
   iterate 3
    ·obtain⟨x,y,pr⟩:=ft (ts:=dP at_ f.args) (by rw[mh];rw[h]at bo;simpa[bm]using bo)
     rw[pr];exact Ht x y pr (by omega)
   ·have qp:f.args.length=1:=by rw[h]at bo;simpa[bm]using bo
    obtain⟨x,hx⟩:=BQ (ts:=dP at_ f.args) (by rw[mh];simpa using qp)
    obtain⟨c0,bO,vU⟩:=ew 0 (by omega) 0 rfl
    have e0:f.args[0].val at_=x:=by have:=hg 0 (by omega);rw[hx]at this;simpa using this.symm
    rw[e0]at vU
    rw[hx]at hv ⊢
    have ZE:=hv.2.1 (by omega) x (by simp)
    have hw:wr .i64 (1-x)=1-x:=by unfold bit at ZE;exact nX ⟨by omega,by omega⟩
    rw[h]
    simp(maxDischargeDepth:=6) only[qF,ae,ah,aa,aj,ab,an,reduceCtorEq,Nat.reduceLT,Nat.reduceLeDiff,Nat.reduceEqDiff,Int.reduceEq,wG,bO,vU,Ab,ga.froz,hw];rfl
   iterate 3
    ·obtain⟨x,y,pr⟩:=ft (ts:=dP at_ f.args) (by rw[mh];rw[h]at bo;simpa[bm]using bo)
     rw[pr];exact Ht x y pr (by omega)
end
end Go.Proofs.YtfenhjpkomldcaaGreat
