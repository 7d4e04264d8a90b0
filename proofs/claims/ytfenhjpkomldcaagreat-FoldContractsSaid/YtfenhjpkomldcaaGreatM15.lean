/- The program's check of a contract's form: costs, credit, the whole. The reference's check of a contract's windows. The reference's check of a contract's windows, as a whole. Conditions: the theorems' own. -/
import Derived.Test.YtfenhjpkomldcaaGreatM14
import Derived.KernelRfl
set_option maxRecDepth 100000
set_option linter.unusedSimpArgs false
set_option linter.unusedVariables false
set_option maxHeartbeats 16000000
namespace Go.Proofs.YtfenhjpkomldcaaGreat
open Go Go.Ev
theorem adA(l:List Co)(a:T)(cc:List T)(ha:aR a l.length cc)(hc:aS BB l cc)(hlen:l.length≤eG)(gb: ∀u∈l,B6 u.x)(r:Int)(hr:r=G9 l)(o:Out)(ho:o=if r=0 then .ext 1 else .ret)(c1:aB)(fr:Fr)(lh:aQ aB)(sh:List aB)
  (O4:ak fr 84=a) (L2:ak fr 85= .i .i64 (l.length:Int)) (O5:ak fr 86= .i .i64 0) (o1:aq lh 1=c1):
  DC pE 116 (.loop fH) ⟨fr,lh,sh⟩=some (o,⟨cz pE 116 fH fr lh sh,bK pE 116 fH fr lh sh,cw pE 116 fH fr lh sh⟩)∧
  ((r≠0→ak (cz pE 116 fH fr lh sh) 2= .i .i64 r)∧aq (bK pE 116 fH fr lh sh) 1=c1∧cw pE 116 fH fr lh sh=sh):=by
 refine aD (P:=fun cO bp br=>(r≠0→ak cO 2= .i .i64 r)∧aq bp 1=c1∧br=sh)
  (aI (fun k st=> ∃(fr:Fr) (aX:aQ aB),st=⟨fr,aX,sh⟩∧ak fr 84=a∧ak fr 85= .i .i64 (l.length:Int)∧ak fr 86= .i .i64 (k:Int)∧aq aX 1=c1∧r=G9 (l.drop k)) _ l.length ?_ ?_ 0 _ (Nat.zero_le _) ⟨fr,lh,rfl,O4,L2,O5,o1,by rw[hr];rfl⟩)
 ·rintro k _ hk ⟨fr,aX,rfl,O4,L2,O5,o1,hr⟩
  have bt:(k:Int)<l.length:=by omega
  have hw:=aJ (k:=k) (by omega)
  obtain⟨b,cb,rr,bh,cH,hb⟩:=ri ha hc k hk
  obtain⟨xF,sd⟩:=gb l[k] (List.getElem_mem hk)
  have jx:=xI l[k].sc
  have mA:=fun z fr lh sh=>kh (z:=z) (fr:=fr) (lh:=lh) (sh:=sh) l[k].x _ hb xF sd
  rw[List.drop_eq_getElem_cons hk,G9]at hr
  have leave: ∀e:Int,e≠0→r=e→o= .ret:=fun e he h=>by rw[ho,h,if_neg he]
  cases hq:gF l[k].sc 1 3 with
  |false=>
   right
   rw[if_pos hq]at hr
   rw[hq]at jx
   simp(maxDischargeDepth:=6) only[qF,ae,ah,aa,aj,ab,an,splice,Nat.reduceAdd,Nat.reduceLT,Nat.reduceLeDiff,Nat.reduceEqDiff,fH,O4,L2,O5,bt,bh,jx,su]
   refine⟨_,_,(by simp:Out.ret≠ .nrm),rfl,(leave _ (by decide) hr).symm,fun _=> ?_, ?_,rfl⟩ <;> simp(maxDischargeDepth:=6) only[aa,ab,Nat.reduceEqDiff,hr,o1]
  |true=>
   rw[if_neg (by simp[hq])]at hr
   rw[hq]at jx
   by_cases hv:aW l[k].x=0
   ·left
    rw[if_neg (by simp[hv])]at hr
    rw[hv]at mA
    simp(maxDischargeDepth:=6) only[qF,ae,ah,aa,aj,ab,an,splice,Nat.reduceAdd,Nat.reduceLT,Nat.reduceLeDiff,Nat.reduceEqDiff,fH,O4,L2,O5,bt,bh,hw,jx,su,mA]
    refine⟨_,rfl,_,_,rfl, ?_, ?_, ?_, ?_,hr⟩
    all_goals (simp(maxDischargeDepth:=6) only[aa,ab,Nat.reduceEqDiff,O4,L2,o1])
   ·right
    rw[if_pos hv]at hr
    generalize aW l[k].x=e at*
    simp(maxDischargeDepth:=6) only[qF,ae,ah,aa,aj,ab,an,splice,Nat.reduceAdd,Nat.reduceLT,Nat.reduceLeDiff,Nat.reduceEqDiff,fH,O4,L2,O5,bt,bh,jx,su,mA,hv]
    refine⟨_,_,(by simp:Out.ret≠ .nrm),rfl,(leave _ hv hr).symm,fun _=> ?_, ?_,rfl⟩ <;> simp(maxDischargeDepth:=6) only[aa,ab,Nat.reduceEqDiff,hr,o1]
 ·rintro _ ⟨fr,aX,rfl,O4,L2,O5,o1,hr⟩
  rw[List.drop_length,G9]at hr
  simp(maxDischargeDepth:=6) only[ae,ah,aa,ab,an,Nat.reduceLT,fH,L2,O5,Int.lt_irrefl]
  exact⟨_,_,(by simp:Out.ext 1≠ .nrm),rfl,by rw[ho,hr];rfl,fun h=>absurd hr h,o1,rfl⟩
theorem adB(l:List Ex)(a:T)(cc:List T)(ha:aR a l.length cc)(hc:aK l cc)(hlen:l.length≤eG)(gb: ∀x∈l,B6 x)(r:Int)(hr:r=Ha l)(o:Out)(ho:o=if r=0 then .ext 3 else .ret)(c1:aB)(fr:Fr)(lh:aQ aB)(sh:List aB)
  (BI:ak fr 102=a) (zb:ak fr 103= .i .i64 (l.length:Int)) (BJ:ak fr 104= .i .i64 0) (o1:aq lh 1=c1):
  DC pE 116 (.loop gv) ⟨fr,lh,sh⟩=some (o,⟨cz pE 116 gv fr lh sh,bK pE 116 gv fr lh sh,cw pE 116 gv fr lh sh⟩)∧
  ((r≠0→ak (cz pE 116 gv fr lh sh) 2= .i .i64 r)∧aq (bK pE 116 gv fr lh sh) 1=c1∧cw pE 116 gv fr lh sh=sh):=by
 refine aD (P:=fun cO bp br=>(r≠0→ak cO 2= .i .i64 r)∧aq bp 1=c1∧br=sh)
  (aI (fun k st=> ∃(fr:Fr) (aX:aQ aB),st=⟨fr,aX,sh⟩∧ak fr 102=a∧ak fr 103= .i .i64 (l.length:Int)∧ak fr 104= .i .i64 (k:Int)∧aq aX 1=c1∧r=Ha (l.drop k)) _ l.length ?_ ?_ 0 _ (Nat.zero_le _) ⟨fr,lh,rfl,BI,zb,BJ,o1,by rw[hr];rfl⟩)
 ·rintro k _ hk ⟨fr,aX,rfl,BI,zb,BJ,o1,hr⟩
  have bt:(k:Int)<l.length:=by omega
  have hw:=aJ (k:=k) (by omega)
  obtain⟨b,cb,rr,bh,cH,nA,hb⟩:=dm ha hc k hk
  obtain⟨xF,sd⟩:=gb l[k] (List.getElem_mem hk)
  have mA:=fun z fr lh sh=>kh (z:=z) (fr:=fr) (lh:=lh) (sh:=sh) l[k] _ hb xF sd
  rw[List.drop_eq_getElem_cons hk,Ha]at hr
  have leave: ∀e:Int,e≠0→r=e→o= .ret:=fun e he h=>by rw[ho,h,if_neg he]
  by_cases hv:aW l[k]=0
  ·left
   rw[if_neg (by simp[hv])]at hr
   rw[hv]at mA
   simp(maxDischargeDepth:=6) only[qF,ae,ah,aa,aj,ab,an,splice,Nat.reduceAdd,Nat.reduceLT,Nat.reduceLeDiff,Nat.reduceEqDiff,gv,BI,zb,BJ,bt,bh,hw,mA]
   refine⟨_,rfl,_,_,rfl, ?_, ?_, ?_, ?_,hr⟩
   all_goals (simp(maxDischargeDepth:=6) only[aa,ab,Nat.reduceEqDiff,BI,zb,o1])
  ·right
   rw[if_pos hv]at hr
   generalize aW l[k]=e at*
   simp(maxDischargeDepth:=6) only[qF,ae,ah,aa,aj,ab,an,splice,Nat.reduceAdd,Nat.reduceLT,Nat.reduceLeDiff,Nat.reduceEqDiff,gv,BI,zb,BJ,bt,bh,mA,hv]
   refine⟨_,_,(by simp:Out.ret≠ .nrm),rfl,(leave _ hv hr).symm,fun _=> ?_, ?_,rfl⟩ <;> simp(maxDischargeDepth:=6) only[aa,ab,Nat.reduceEqDiff,hr,o1]
 ·rintro _ ⟨fr,aX,rfl,BI,zb,BJ,o1,hr⟩
  rw[List.drop_length,Ha]at hr
  simp(maxDischargeDepth:=6) only[ae,ah,aa,ab,an,Nat.reduceLT,gv,zb,BJ,Int.lt_irrefl]
  exact⟨_,_,(by simp:Out.ext 3≠ .nrm),rfl,by rw[ho,hr];rfl,fun h=>absurd hr h,o1,rfl⟩
section
variable(c:Ct)(a7 a8 a9 a10 bf ba:T)(hT:zH c a7 a8 a9 a10 bf ba)(hS:tz c)
include hT hS
theorem Lc:ai pE 113 [.agg (bG c a7 a8 a9 a10 bf ba)] []=some (.i .i64 (iC c),[]):=by
 have YM:=Uh c a7 a8 a9 a10 bf ba hT hS
 obtain⟨⟨c7,i7,j7⟩,⟨c8,i8,j8⟩,⟨c9,i9,j9⟩,⟨kQ,i10,jz⟩,⟨j2,i11,ju⟩,⟨ki,i12,jy⟩⟩:=hT
 have Vd:=Ue c.cs a7 c7 i7 j7 hS.s7.2 hS.s7.1
 have YN:=Uf c.ru a8 c8 i8 j8 hS.s8.2 hS.s8.1
 have hL:=fun fr lh sh O4 L2 O5 o1=>adA c.co a9 c9 i9 j9 hS.s9.2 hS.s9.1 _ rfl _ rfl ⟨1,.cells (bG c a7 a8 a9 a10 bf ba) 0 true⟩ fr lh sh O4 L2 O5 o1
 have hM:=fun fr lh sh BI zb BJ o1=>adB c.cr a10 kQ i10 jz hS.s10.2 hS.s10.1 _ rfl _ rfl ⟨1,.cells (bG c a7 a8 a9 a10 bf ba) 0 true⟩ fr lh sh BI zb BJ o1
 unfold bG at hL hM YM ⊢
 rw[aG Ix (by simp[eL])]
 unfold iC oq nB
 have w0:=dj c.rp 0 1440
 have w1:=dj c.rl 0 1440
 have w2:=dj c.cn 0 1440
 have w3:=dj c.st c.cn 1440
 have w4:=dj c.ly 0 10080
 have w5:=dj c.nf 0 1439
 have w6:=dj c.nt 0 1439
 have w7:=dj c.gu 0 599999
 cases q0:gF c.rp 0 1440 with
 |false=>
  rw[q0]at w0
  simp(maxDischargeDepth:=6) only[qF,ae,ah,aa,aj,ab,an,Nat.reduceLT,Nat.reduceEqDiff,eL,w0,cP]
 |true=>
 rw[q0]at w0
 cases q1:gF c.rl 0 1440 with
 |false=>
  rw[q1]at w1
  simp(maxDischargeDepth:=6) only[qF,ae,ah,aa,aj,ab,an,Nat.reduceLT,Nat.reduceEqDiff,eL,w0,w1,cP]
 |true=>
 rw[q1]at w1
 cases q2:gF c.cn 0 1440 with
 |false=>
  rw[q2]at w2
  simp(maxDischargeDepth:=6) only[qF,ae,ah,aa,aj,ab,an,Nat.reduceLT,Nat.reduceEqDiff,eL,w0,w1,w2,cP]
 |true=>
 rw[q2]at w2
 cases q3:gF c.st c.cn 1440 with
 |false=>
  rw[q3]at w3
  simp(maxDischargeDepth:=6) only[qF,ae,ah,aa,aj,ab,an,Nat.reduceLT,Nat.reduceEqDiff,eL,w0,w1,w2,w3,cP]
 |true=>
 rw[q3]at w3
 cases q4:gF c.ly 0 10080 with
 |false=>
  rw[q4]at w4
  simp(maxDischargeDepth:=6) only[qF,ae,ah,aa,aj,ab,an,Nat.reduceLT,Nat.reduceEqDiff,eL,w0,w1,w2,w3,w4,cP]
 |true=>
 rw[q4]at w4
 cases q5:gF c.nf 0 1439 with
 |false=>
  rw[q5]at w5
  simp(maxDischargeDepth:=6) only[qF,ae,ah,aa,aj,ab,an,Nat.reduceLT,Nat.reduceEqDiff,eL,w0,w1,w2,w3,w4,w5,cP]
 |true=>
 rw[q5]at w5
 cases q6:gF c.nt 0 1439 with
 |false=>
  rw[q6]at w6
  simp(maxDischargeDepth:=6) only[qF,ae,ah,aa,aj,ab,an,Nat.reduceLT,Nat.reduceEqDiff,eL,w0,w1,w2,w3,w4,w5,w6,cP]
 |true=>
 rw[q6]at w6
 cases q7:gF c.gu 0 599999 with
 |false=>
  rw[q7]at w7
  simp(maxDischargeDepth:=6) only[qF,ae,ah,aa,aj,ab,an,Nat.reduceLT,Nat.reduceEqDiff,eL,w0,w1,w2,w3,w4,w5,w6,w7,cP]
 |true=>
 rw[q7]at w7
 by_cases n0:(32:Int)<(c.cs.length:Int)
 ·have d0:decide (c.cs.length≤32)=false:=decide_eq_false (by omega)
  simp(maxDischargeDepth:=6) only[qF,ae,ah,aa,aj,ab,an,reduceCtorEq,Nat.reduceLT,Nat.reduceEqDiff,eL,i7.lenI,i8.lenI,i9.lenI,i10.lenI,i11.lenI,i12.lenI,w0,w1,w2,w3,w4,w5,w6,w7,cP,n0,d0]
 have d0:decide (c.cs.length≤32)=true:=decide_eq_true (by omega)
 by_cases n1:(40:Int)<(c.ru.length:Int)
 ·have d1:decide (c.ru.length≤40)=false:=decide_eq_false (by omega)
  simp(maxDischargeDepth:=6) only[qF,ae,ah,aa,aj,ab,an,reduceCtorEq,Nat.reduceLT,Nat.reduceEqDiff,eL,i7.lenI,i8.lenI,i9.lenI,i10.lenI,i11.lenI,i12.lenI,w0,w1,w2,w3,w4,w5,w6,w7,cP,n0,n1,d0,d1]
 have d1:decide (c.ru.length≤40)=true:=decide_eq_true (by omega)
 by_cases n2:(16:Int)<(c.co.length:Int)
 ·have d2:decide (c.co.length≤16)=false:=decide_eq_false (by omega)
  simp(maxDischargeDepth:=6) only[qF,ae,ah,aa,aj,ab,an,reduceCtorEq,Nat.reduceLT,Nat.reduceEqDiff,eL,i7.lenI,i8.lenI,i9.lenI,i10.lenI,i11.lenI,i12.lenI,w0,w1,w2,w3,w4,w5,w6,w7,cP,n0,n1,n2,d0,d1,d2]
 have d2:decide (c.co.length≤16)=true:=decide_eq_true (by omega)
 by_cases n3:(1:Int)<(c.cr.length:Int)
 ·have d3:decide (c.cr.length≤1)=false:=decide_eq_false (by omega)
  simp(maxDischargeDepth:=6) only[qF,ae,ah,aa,aj,ab,an,reduceCtorEq,Nat.reduceLT,Nat.reduceEqDiff,eL,i7.lenI,i8.lenI,i9.lenI,i10.lenI,i11.lenI,i12.lenI,w0,w1,w2,w3,w4,w5,w6,w7,cP,n0,n1,n2,n3,d0,d1,d2,d3]
 have d3:decide (c.cr.length≤1)=true:=decide_eq_true (by omega)
 by_cases n4:(16:Int)<(c.li.length:Int)
 ·have d4:decide (c.li.length≤16)=false:=decide_eq_false (by omega)
  simp(maxDischargeDepth:=6) only[qF,ae,ah,aa,aj,ab,an,reduceCtorEq,Nat.reduceLT,Nat.reduceEqDiff,eL,i7.lenI,i8.lenI,i9.lenI,i10.lenI,i11.lenI,i12.lenI,w0,w1,w2,w3,w4,w5,w6,w7,cP,n0,n1,n2,n3,n4,d0,d1,d2,d3,d4]
 have d4:decide (c.li.length≤16)=true:=decide_eq_true (by omega)
 by_cases n5:(16:Int)<(c.fs.length:Int)
 ·have d5:decide (c.fs.length≤16)=false:=decide_eq_false (by omega)
  simp(maxDischargeDepth:=6) only[qF,ae,ah,aa,aj,ab,an,reduceCtorEq,Nat.reduceLT,Nat.reduceEqDiff,eL,i7.lenI,i8.lenI,i9.lenI,i10.lenI,i11.lenI,i12.lenI,w0,w1,w2,w3,w4,w5,w6,w7,cP,n0,n1,n2,n3,n4,n5,d0,d1,d2,d3,d4,d5]
 have d5:decide (c.fs.length≤16)=true:=decide_eq_true (by omega)
 rw[d0,d1,d2,d3,d4,d5]
 simp only[Bool.and_self,Bool.true_eq_false,if_false]
 by_cases e1:B5 [] c.cs=0
 ·rw[e1]at Vd
  rw[if_neg (by simp[e1])]
  by_cases e2:BD [] c.ru=0
  ·rw[e2]at YN
   rw[if_neg (by simp[e2])]
   by_cases e3:G9 c.co=0
   ·rw[e3]at hL
    rw[if_neg (by simp[e3])]
    simp only[if_true,ne_eq,not_true_eq_false,false_implies,true_and]at hL
    by_cases e4:Ha c.cr=0
    ·rw[e4]at hM
     rw[if_neg (by simp[e4])]
     simp only[if_true,ne_eq,not_true_eq_false,false_implies,true_and]at hM
     simp(maxDischargeDepth:=6) only[qF,ae,ah,aa,aj,ab,an,Nat.reduceShiftRight,Nat.reduceMod,Nat.reduceAdd,Nat.reduceLT,Nat.reduceEqDiff,eL,Fp,wI,i7.lenI,i8.lenI,i9.lenI,i10.lenI,i11.lenI,i12.lenI,i7.froz,i8.froz,i7.froz1,i8.froz1,i9.froz1,i10.froz1,i11.froz1,i12.froz1,w0,w1,w2,w3,w4,w5,w6,w7,cP,n0,n1,n2,n3,n4,n5,Vd,Ad,YN,D0,hL,hM,YM,Wz]
    ·rw[if_pos e4]
     simp only[e4,if_false,ne_eq,not_false_eq_true,forall_const]at hM
     simp(maxDischargeDepth:=6) only[qF,ae,ah,aa,aj,ab,an,Nat.reduceShiftRight,Nat.reduceMod,Nat.reduceLT,Nat.reduceEqDiff,eL,wI,i7.lenI,i8.lenI,i9.lenI,i10.lenI,i11.lenI,i12.lenI,i7.froz,i8.froz,w0,w1,w2,w3,w4,w5,w6,w7,cP,n0,n1,n2,n3,n4,n5,Vd,Ad,YN,D0,hL,hM]
   ·rw[if_pos e3]
    simp only[e3,if_false,ne_eq,not_false_eq_true,forall_const]at hL
    simp(maxDischargeDepth:=6) only[qF,ae,ah,aa,aj,ab,an,Nat.reduceLT,Nat.reduceEqDiff,eL,i7.lenI,i8.lenI,i9.lenI,i10.lenI,i11.lenI,i12.lenI,i7.froz,i8.froz,w0,w1,w2,w3,w4,w5,w6,w7,cP,n0,n1,n2,n3,n4,n5,Vd,Ad,YN,D0,hL]
  ·rw[if_pos e2]
   generalize BD [] c.ru=e at*
   simp(maxDischargeDepth:=6) only[qF,ae,ah,aa,aj,ab,an,Nat.reduceLT,Nat.reduceEqDiff,eL,i7.lenI,i8.lenI,i9.lenI,i10.lenI,i11.lenI,i12.lenI,i7.froz,i8.froz,w0,w1,w2,w3,w4,w5,w6,w7,cP,n0,n1,n2,n3,n4,n5,Vd,Ad,YN,D0,e2]
 ·rw[if_pos e1]
  generalize B5 [] c.cs=e at*
  simp(maxDischargeDepth:=6) only[qF,ae,ah,aa,aj,ab,an,Nat.reduceLT,Nat.reduceEqDiff,eL,i7.lenI,i8.lenI,i9.lenI,i10.lenI,i11.lenI,i12.lenI,i7.froz,w0,w1,w2,w3,w4,w5,w6,w7,cP,n0,n1,n2,n3,n4,n5,Vd,Ad,e1]
end
end Go.Proofs.YtfenhjpkomldcaaGreat
namespace Go.Proofs.YtfenhjpkomldcaaGreat
open Go Go.Ev
theorem cZ(n lo hi:Int):ai pE 125 [.i .i64 n,.i .i64 lo,.i .i64 hi] []=some (.b (gF n lo hi),[]):=by
 rw[aG PU (by simp[HP])]
 unfold gF
 by_cases h:lo≤n <;> simp(maxDischargeDepth:=6) only[qF,ae,ah,aa,aj,ab,an,Nat.reduceAdd,reduceCtorEq,Nat.reduceLT,Nat.reduceEqDiff,HP,h]
theorem jv{α:Type}[DecidableEq α]{l:List α}{j n:Nat}(hj:j<n)(hl:j<l.length){s:α}(h:l[j]=s):s∈l.take n:=by
 rw[List.mem_iff_getElem]
 exact⟨j,by rw[List.length_take];omega,by rw[List.getElem_take];exact h⟩
theorem gp{α:Type}[DecidableEq α]{l:List α}{j:Nat}(hl:j<l.length){s:α}(h1:s∉l.take j)(h2: ¬l[j]=s):s∉l.take (j+1):=by
 rw[List.take_succ_eq_append_getElem hl,List.mem_append,List.mem_singleton]
 rintro(h|h)
 ·exact h1 h
 ·exact h2 h.symm
theorem adC(l:List Li)(a:T)(cc:List T)(ha:aR a l.length cc)(hc:aS L1 l cc)(hlen:l.length≤eG)(n:Nat)(hn:n≤l.length)(s:List Nat)(o:Out)(ho:o=if s∈(l.map Li.nm).take n then .ret else .ext 2)(c:Ct)(a7 a8 a9 a10 ba:T)(r4:List T)(G1 G4:Nat)(fr:Fr)(lh:aQ aB)(sh:List aB)(g1:ak fr 1= .ptr .L 1 G1 0)(g3:ak fr 3= .i .i64 (n:Int))(g4:ak fr 4= .ptr .L 4 G4 0)(gi:ak fr 5= .i .i64 0)(o1:aq lh 1=⟨G1,.cells (bG c a7 a8 a9 a10 a ba) 0 true⟩)(o4:aq lh 4=⟨G4,.cells (.s s::r4) 0 true⟩):
  DC pE 112 (.loop gA) ⟨fr,lh,sh⟩=some (o,⟨cz pE 112 gA fr lh sh,bK pE 112 gA fr lh sh,cw pE 112 gA fr lh sh⟩)∧((s∈(l.map Li.nm).take n→ak (cz pE 112 gA fr lh sh) 2= .i .i64 7)∧bK pE 112 gA fr lh sh=lh∧cw pE 112 gA fr lh sh=sh):=by
 refine aD (P:=fun cO bp br=>(s∈(l.map Li.nm).take n→ak cO 2= .i .i64 7)∧bp=lh∧br=sh) (aI (fun j st=> ∃fr:Fr,st=⟨fr,lh,sh⟩∧ak fr 1= .ptr .L 1 G1 0∧ak fr 3= .i .i64 (n:Int)∧ak fr 4= .ptr .L 4 G4 0∧ak fr 5= .i .i64 (j:Int)∧s∉(l.map Li.nm).take j) _ n ?_ ?_ 0 _ (Nat.zero_le _) ⟨fr,rfl,g1,g3,g4,gi,by simp⟩)
 ·rintro j _ hj ⟨fr,rfl,g1,g3,g4,gi,fh⟩
  have mi:j<l.length:=by omega
  have E4:j<(l.map Li.nm).length:=by rw[List.length_map];exact mi
  have Ds:(j:Int)<n:=by omega
  have hw:=aJ (k:=j) (by omega)
  obtain⟨rr,bh⟩:=xH ha hc j mi
  by_cases fg:Li.nm l[j]=s
  ·right
   have j1:s∈(l.map Li.nm).take n:=jv hj E4 (by rw[List.getElem_map];exact fg)
   change l[j].nm=s at fg
   simp(maxDischargeDepth:=6) only[ae,ah,aa,aj,ab,an,bn,aP,Nat.reduceAdd,Nat.reduceLT,Nat.reduceEqDiff,gA,g1,g3,g4,gi,Ds,bh,fg,o1,o4,bG]
   exact⟨_,_,(by simp:Out.ret≠ .nrm),rfl,by rw[ho,if_pos j1],fun _=>by simp(maxDischargeDepth:=6) only[aa],rfl,rfl⟩
  ·left
   have wD:=gp E4 fh (by rw[List.getElem_map];exact fg)
   change ¬l[j].nm=s at fg
   simp(maxDischargeDepth:=6) only[ae,ah,aa,aj,ab,an,bn,aP,Nat.reduceAdd,Nat.reduceLT,Nat.reduceEqDiff,gA,g1,g3,g4,gi,Ds,bh,hw,fg,o1,o4,bG]
   refine⟨_,rfl,_,rfl, ?_, ?_, ?_, ?_,wD⟩
   all_goals (simp(maxDischargeDepth:=6) only[aa,ab,Nat.reduceEqDiff,g1,g3,g4])
 ·rintro _ ⟨fr,rfl,g1,g3,g4,gi,fh⟩
  simp(maxDischargeDepth:=6) only[ae,ah,aa,ab,an,Nat.reduceLT,Nat.reduceEqDiff,gA,g3,gi,Int.lt_irrefl]
  exact⟨_,_,(by simp:Out.ext 2≠ .nrm),rfl,by rw[ho,if_neg fh],fun h=>absurd h fh,rfl,rfl⟩
theorem adD(l:List Li)(a:T)(cc:List T)(ha:aR a l.length cc)(hc:aS L1 l cc)(hlen:l.length≤eG)(n:Nat)(hn:n≤l.length)(s:List Nat)(o:Out)(ho:o=if s∈(l.map Li.nm).take n then .ret else .ext 6)(c:Ct)(a7 a8 a9 a10 ba:T)(r7:List T)(G1 G7:Nat)(fr:Fr)(lh:aQ aB)(sh:List aB)(g1:ak fr 1= .ptr .L 1 G1 0)(g7:ak fr 7= .ptr .L 7 G7 0)(gi:ak fr 8= .i .i64 0)(pI:n=l.length)(o1:aq lh 1=⟨G1,.cells (bG c a7 a8 a9 a10 a ba) 0 true⟩)(o7:aq lh 7=⟨G7,.cells (.s s::r7) 0 true⟩):
  DC pE 112 (.loop gz) ⟨fr,lh,sh⟩=some (o,⟨cz pE 112 gz fr lh sh,bK pE 112 gz fr lh sh,cw pE 112 gz fr lh sh⟩)∧((s∈(l.map Li.nm).take n→ak (cz pE 112 gz fr lh sh) 2= .i .i64 7)∧bK pE 112 gz fr lh sh=lh∧cw pE 112 gz fr lh sh=sh):=by
 have Ld:((l.length:Nat):Int)=(n:Int):=by omega
 refine aD (P:=fun cO bp br=>(s∈(l.map Li.nm).take n→ak cO 2= .i .i64 7)∧bp=lh∧br=sh) (aI (fun j st=> ∃fr:Fr,st=⟨fr,lh,sh⟩∧ak fr 1= .ptr .L 1 G1 0∧ak fr 7= .ptr .L 7 G7 0∧ak fr 8= .i .i64 (j:Int)∧s∉(l.map Li.nm).take j) _ n ?_ ?_ 0 _ (Nat.zero_le _) ⟨fr,rfl,g1,g7,gi,by simp⟩)
 ·rintro j _ hj ⟨fr,rfl,g1,g7,gi,fh⟩
  have mi:j<l.length:=by omega
  have E4:j<(l.map Li.nm).length:=by rw[List.length_map];exact mi
  have Ds:(j:Int)<n:=by omega
  have hw:=aJ (k:=j) (by omega)
  obtain⟨rr,bh⟩:=xH ha hc j mi
  by_cases fg:Li.nm l[j]=s
  ·right
   have j1:s∈(l.map Li.nm).take n:=jv hj E4 (by rw[List.getElem_map];exact fg)
   change l[j].nm=s at fg
   simp(maxDischargeDepth:=6) only[ae,ah,aa,aj,ab,an,bn,aP,Nat.reduceAdd,Nat.reduceLT,Nat.reduceEqDiff,gz,g1,g7,gi,ha.lenI,Ld,Ds,bh,fg,o1,o7,bG]
   exact⟨_,_,(by simp:Out.ret≠ .nrm),rfl,by rw[ho,if_pos j1],fun _=>by simp(maxDischargeDepth:=6) only[aa],rfl,rfl⟩
  ·left
   have wD:=gp E4 fh (by rw[List.getElem_map];exact fg)
   change ¬l[j].nm=s at fg
   simp(maxDischargeDepth:=6) only[ae,ah,aa,aj,ab,an,bn,aP,Nat.reduceAdd,Nat.reduceLT,Nat.reduceEqDiff,gz,g1,g7,gi,ha.lenI,Ld,Ds,bh,hw,fg,o1,o7,bG]
   refine⟨_,rfl,_,rfl, ?_, ?_, ?_,wD⟩
   all_goals (simp(maxDischargeDepth:=6) only[aa,ab,Nat.reduceEqDiff,g1,g7])
 ·rintro _ ⟨fr,rfl,g1,g7,gi,fh⟩
  simp(maxDischargeDepth:=6) only[ae,ah,aa,aj,ab,an,Nat.reduceLT,Nat.reduceEqDiff,gz,g1,gi,ha.lenI,Ld,Int.lt_irrefl,o1,bG]
  exact⟨_,_,(by simp:Out.ext 6≠ .nrm),rfl,by rw[ho,if_neg fh],fun h=>absurd h fh,rfl,rfl⟩
theorem adE(l:List Of)(a:T)(cc:List T)(ha:aR a l.length cc)(hc:aS O3 l cc)(hlen:l.length≤eG)(n:Nat)(hn:n≤l.length)(s:List Nat)(o:Out)(ho:o=if s∈(l.map Of.nm).take n then .ret else .ext 8)(c:Ct)(a7 a8 a9 a10 bf:T)(r7:List T)(G1 G7:Nat)(fr:Fr)(lh:aQ aB)(sh:List aB)(g1:ak fr 1= .ptr .L 1 G1 0)(g6:ak fr 6= .i .i64 (n:Int))(g7:ak fr 7= .ptr .L 7 G7 0)(gi:ak fr 9= .i .i64 0)(o1:aq lh 1=⟨G1,.cells (bG c a7 a8 a9 a10 bf a) 0 true⟩)(o7:aq lh 7=⟨G7,.cells (.s s::r7) 0 true⟩):
  DC pE 112 (.loop gw) ⟨fr,lh,sh⟩=some (o,⟨cz pE 112 gw fr lh sh,bK pE 112 gw fr lh sh,cw pE 112 gw fr lh sh⟩)∧((s∈(l.map Of.nm).take n→ak (cz pE 112 gw fr lh sh) 2= .i .i64 7)∧bK pE 112 gw fr lh sh=lh∧cw pE 112 gw fr lh sh=sh):=by
 refine aD (P:=fun cO bp br=>(s∈(l.map Of.nm).take n→ak cO 2= .i .i64 7)∧bp=lh∧br=sh) (aI (fun j st=> ∃fr:Fr,st=⟨fr,lh,sh⟩∧ak fr 1= .ptr .L 1 G1 0∧ak fr 6= .i .i64 (n:Int)∧ak fr 7= .ptr .L 7 G7 0∧ak fr 9= .i .i64 (j:Int)∧s∉(l.map Of.nm).take j) _ n ?_ ?_ 0 _ (Nat.zero_le _) ⟨fr,rfl,g1,g6,g7,gi,by simp⟩)
 ·rintro j _ hj ⟨fr,rfl,g1,g6,g7,gi,fh⟩
  have mi:j<l.length:=by omega
  have E4:j<(l.map Of.nm).length:=by rw[List.length_map];exact mi
  have Ds:(j:Int)<n:=by omega
  have hw:=aJ (k:=j) (by omega)
  obtain⟨rr,bh⟩:=BC ha hc j mi
  by_cases fg:Of.nm l[j]=s
  ·right
   have j1:s∈(l.map Of.nm).take n:=jv hj E4 (by rw[List.getElem_map];exact fg)
   change l[j].nm=s at fg
   simp(maxDischargeDepth:=6) only[ae,ah,aa,aj,ab,an,bn,aP,Nat.reduceAdd,Nat.reduceLT,Nat.reduceEqDiff,gw,g1,g6,g7,gi,Ds,bh,fg,o1,o7,bG]
   exact⟨_,_,(by simp:Out.ret≠ .nrm),rfl,by rw[ho,if_pos j1],fun _=>by simp(maxDischargeDepth:=6) only[aa],rfl,rfl⟩
  ·left
   have wD:=gp E4 fh (by rw[List.getElem_map];exact fg)
   change ¬l[j].nm=s at fg
   simp(maxDischargeDepth:=6) only[ae,ah,aa,aj,ab,an,bn,aP,Nat.reduceAdd,Nat.reduceLT,Nat.reduceEqDiff,gw,g1,g6,g7,gi,Ds,bh,hw,fg,o1,o7,bG]
   refine⟨_,rfl,_,rfl, ?_, ?_, ?_, ?_,wD⟩
   all_goals (simp(maxDischargeDepth:=6) only[aa,ab,Nat.reduceEqDiff,g1,g6,g7])
 ·rintro _ ⟨fr,rfl,g1,g6,g7,gi,fh⟩
  simp(maxDischargeDepth:=6) only[ae,ah,aa,ab,an,Nat.reduceLT,Nat.reduceEqDiff,gw,g6,gi,Int.lt_irrefl]
  exact⟨_,_,(by simp:Out.ext 8≠ .nrm),rfl,by rw[ho,if_neg fh],fun h=>absurd h fh,rfl,rfl⟩
end Go.Proofs.YtfenhjpkomldcaaGreat
namespace Go.Proofs.YtfenhjpkomldcaaGreat
open Go Go.Ev
section
variable(c:Ct)(a7 a8 a9 a10 bf ba:T)(hT:zH c a7 a8 a9 a10 bf ba)(hS:tz c)
include hT hS
theorem adF(r:Int)(hr:r=Hb [] c.li)(o:Out)(ho:o=if r=0 then .ext 0 else .ret)(fr:Fr)(lh:aQ aB)(sh:List aB)
  (h1:ak fr 1= .ptr .L 1 1 0) (h3:ak fr 3= .i .i64 0) (o1:aq lh 1=⟨1,.cells (bG c a7 a8 a9 a10 bf ba) 0 true⟩):
  DC pE 112 (.loop ee) ⟨fr,lh,sh⟩=some (o,⟨cz pE 112 ee fr lh sh,bK pE 112 ee fr lh sh,cw pE 112 ee fr lh sh⟩)∧
  ((r≠0→ak (cz pE 112 ee fr lh sh) 2= .i .i64 r)∧aq (bK pE 112 ee fr lh sh) 1=⟨1,.cells (bG c a7 a8 a9 a10 bf ba) 0 true⟩∧cw pE 112 ee fr lh sh=sh):=by
 obtain⟨⟨c7,i7,j7⟩,⟨c8,i8,j8⟩,⟨c9,i9,j9⟩,⟨kQ,i10,jz⟩,⟨j2,i11,ju⟩,⟨ki,i12,jy⟩⟩:=hT
 have hlen:=hS.s11
 refine aD (P:=fun cO bp br=>(r≠0→ak cO 2= .i .i64 r)∧aq bp 1=⟨1,.cells (bG c a7 a8 a9 a10 bf ba) 0 true⟩∧br=sh)
  (aI (fun k st=> ∃(fr:Fr) (aX:aQ aB),st=⟨fr,aX,sh⟩∧ak fr 1= .ptr .L 1 1 0∧ak fr 3= .i .i64 (k:Int)∧aq aX 1=⟨1,.cells (bG c a7 a8 a9 a10 bf ba) 0 true⟩∧r=Hb ((c.li.map Li.nm).take k) (c.li.drop k)) _ c.li.length ?_ ?_ 0 _ (Nat.zero_le _) ⟨fr,lh,rfl,h1,h3,o1,by rw[hr];rfl⟩)
 ·rintro k _ hk ⟨fr,aX,rfl,h1,h3,o1,hr⟩
  have bt:(k:Int)<c.li.length:=by omega
  have hw:=aJ (k:=k) (by omega)
  obtain⟨rr,bh⟩:=xH i11 ju k hk
  have gL:=mq c.li[k].nm
  obtain⟨me,YO,La⟩:=K9 c.li[k].me
  have vE:=cZ c.li[k].mo 0 599999
  have tw:=cZ c.li[k].da 1 31
  have lU:k≤c.li.length:=Nat.le_of_lt hk
  rw[List.drop_eq_getElem_cons hk,Hb]at hr
  have rv:(c.li.map Li.nm).take (k+1)=(c.li.map Li.nm).take k++ [c.li[k].nm]:=by rw[List.take_succ_eq_append_getElem (by rw[List.length_map];exact hk),List.getElem_map]
  rw[rv]
  generalize c.li[k]=u at*
  have hD:=fun G4 fr lh sh g1 g3 g4 gi o1 o4=>adC c.li bf j2 i11 ju hlen k lU u.nm _ rfl c a7 a8 a9 a10 ba [.s u.me,.i .i64 u.mo,.i .i64 u.da] 1 G4 fr lh sh g1 g3 g4 gi o1 o4
  generalize hG:(aq aX 4).g+1=G
  have hD:=fun fr lh sh g1 g3 g4 gi o1 o4=>hD G fr lh sh g1 g3 g4 gi o1 o4
  generalize (c.li.map Li.nm).take k=seen at*
  have leave: ∀e:Int,e≠0→r=e→o= .ret:=fun e he h=>by rw[ho,h,if_neg he]
  unfold bG at o1 hD ⊢
  cases hd:eF u.nm with
  |false=>
   right
   rw[if_pos hd]at hr
   rw[hd]at gL
   simp(maxDischargeDepth:=6) only[qF,ae,ah,aa,aj,ab,an,splice,Nat.reduceAdd,Nat.reduceLT,Nat.reduceLeDiff,Nat.reduceEqDiff,ee,h1,h3,o1,i11.lenI,bt,bh,hG,gL,gf]
   refine⟨_,_,(by simp:Out.ret≠ .nrm),rfl,(leave _ (by decide) hr).symm,fun _=> ?_, ?_,rfl⟩ <;> simp(maxDischargeDepth:=6) only[aa,ab,Nat.reduceEqDiff,hr,o1]
  |true=>
  rw[if_neg (by simp[hd])]at hr
  rw[hd]at gL
  by_cases hs:u.nm∈seen
  ·right
   rw[if_pos hs]at hr
   simp only[hs,if_true,forall_const]at hD
   simp(maxDischargeDepth:=6) only[qF,ae,ah,aa,aj,ab,an,splice,Nat.reduceAdd,Nat.reduceLT,Nat.reduceLeDiff,Nat.reduceEqDiff,ee,h1,h3,o1,i11.lenI,bt,bh,hG,gL,gf,hD]
   refine⟨_,_,(by simp:Out.ret≠ .nrm),rfl,(leave _ (by decide) hr).symm,fun _=> ?_, ?_,rfl⟩ <;> simp(maxDischargeDepth:=6) only[aa,ab,Nat.reduceEqDiff,hr,o1,hD,h1,h3]
  rw[if_neg hs]at hr
  simp only[hs,if_false,false_implies,true_and]at hD
  by_cases hm:BE u.me=0
  ·right
   rw[if_pos hm]at hr
   rw[YO.2 hm]at La
   simp(maxDischargeDepth:=6) only[qF,ae,ah,aa,aj,ab,an,Nat.reduceShiftRight,Nat.reduceMod,splice,Nat.reduceAdd,Nat.reduceLT,Nat.reduceLeDiff,Nat.reduceEqDiff,ee,h1,h3,o1,i11.lenI,bt,bh,hG,gL,gf,hD,l0,La,D1]
   refine⟨_,_,(by simp:Out.ret≠ .nrm),rfl,(leave _ (by decide) hr).symm,fun _=> ?_, ?_,rfl⟩ <;> simp(maxDischargeDepth:=6) only[aa,ab,Nat.reduceEqDiff,hr,o1]
  rw[if_neg hm]at hr
  have Mo: ¬me=0:=fun h=>hm (YO.1 h)
  cases kF:gF u.mo 0 599999 with
  |false=>
   right
   rw[if_pos (.inl kF)]at hr
   rw[kF]at vE
   simp(maxDischargeDepth:=6) only[qF,ae,ah,aa,aj,ab,an,Nat.reduceShiftRight,Nat.reduceMod,splice,Nat.reduceAdd,Nat.reduceLT,Nat.reduceLeDiff,Nat.reduceEqDiff,ee,h1,h3,o1,i11.lenI,bt,bh,hG,gL,gf,hD,l0,La,D1,Mo,vE,cA]
   refine⟨_,_,(by simp:Out.ret≠ .nrm),rfl,(leave _ (by decide) hr).symm,fun _=> ?_, ?_,rfl⟩ <;> simp(maxDischargeDepth:=6) only[aa,ab,Nat.reduceEqDiff,hr,o1]
  |true=>
  rw[kF]at vE
  cases nz:gF u.da 1 31 with
  |false=>
   right
   rw[if_pos (.inr nz)]at hr
   rw[nz]at tw
   simp(maxDischargeDepth:=6) only[qF,ae,ah,aa,aj,ab,an,Nat.reduceShiftRight,Nat.reduceMod,splice,Nat.reduceAdd,Nat.reduceLT,Nat.reduceLeDiff,Nat.reduceEqDiff,ee,h1,h3,o1,i11.lenI,bt,bh,hG,gL,gf,hD,l0,La,D1,Mo,vE,tw,cA]
   refine⟨_,_,(by simp:Out.ret≠ .nrm),rfl,(leave _ (by decide) hr).symm,fun _=> ?_, ?_,rfl⟩ <;> simp(maxDischargeDepth:=6) only[aa,ab,Nat.reduceEqDiff,hr,o1]
  |true=>
   left
   rw[if_neg (by simp[kF,nz])]at hr
   rw[nz]at tw
   simp(maxDischargeDepth:=6) only[qF,ae,ah,aa,aj,ab,an,Nat.reduceShiftRight,Nat.reduceMod,splice,Nat.reduceAdd,Nat.reduceLT,Nat.reduceLeDiff,Nat.reduceEqDiff,ee,h1,h3,o1,i11.lenI,bt,bh,hw,hG,gL,gf,hD,l0,La,D1,Mo,vE,tw,cA]
   refine⟨_,rfl,_,_,rfl, ?_, ?_, ?_,hr⟩
   all_goals (simp(maxDischargeDepth:=6) only[ae,aa,ab,Nat.reduceShiftRight,Nat.reduceMod,Nat.reduceEqDiff,h1,o1,l0])
 ·rintro _ ⟨fr,aX,rfl,h1,h3,o1,hr⟩
  rw[List.drop_length,Hb]at hr
  unfold bG at o1 ⊢
  simp(maxDischargeDepth:=6) only[ae,ah,aa,aj,ab,an,Nat.reduceLT,Nat.reduceEqDiff,ee,h1,h3,o1,i11.lenI,Int.lt_irrefl]
  exact⟨_,_,(by simp:Out.ext 0≠ .nrm),rfl,by rw[ho,hr];rfl,fun h=>absurd hr h,o1,rfl⟩
theorem adG(r:Int)(hr:r=Hz (c.li.map Li.nm) c.fs)(o:Out)(ho:o=if r=0 then .ext 4 else .ret)(fr:Fr)(lh:aQ aB)(sh:List aB)
  (h1:ak fr 1= .ptr .L 1 1 0) (h6:ak fr 6= .i .i64 0) (o1:aq lh 1=⟨1,.cells (bG c a7 a8 a9 a10 bf ba) 0 true⟩):
  DC pE 112 (.loop fb) ⟨fr,lh,sh⟩=some (o,⟨cz pE 112 fb fr lh sh,bK pE 112 fb fr lh sh,cw pE 112 fb fr lh sh⟩)∧
  ((r≠0→ak (cz pE 112 fb fr lh sh) 2= .i .i64 r)∧cw pE 112 fb fr lh sh=sh):=by
 obtain⟨⟨c7,i7,j7⟩,⟨c8,i8,j8⟩,⟨c9,i9,j9⟩,⟨kQ,i10,jz⟩,⟨j2,i11,ju⟩,⟨ki,i12,jy⟩⟩:=hT
 have hlen:=hS.s12
 refine aD (P:=fun cO bp br=>(r≠0→ak cO 2= .i .i64 r)∧br=sh)
  (aI (fun k st=> ∃(fr:Fr) (aX:aQ aB),st=⟨fr,aX,sh⟩∧ak fr 1= .ptr .L 1 1 0∧ak fr 6= .i .i64 (k:Int)∧aq aX 1=⟨1,.cells (bG c a7 a8 a9 a10 bf ba) 0 true⟩∧r=Hz (c.li.map Li.nm++(c.fs.map Of.nm).take k) (c.fs.drop k)) _ c.fs.length ?_ ?_ 0 _ (Nat.zero_le _) ⟨fr,lh,rfl,h1,h6,o1,by rw[hr];simp⟩)
 ·rintro k _ hk ⟨fr,aX,rfl,h1,h6,o1,hr⟩
  have bt:(k:Int)<c.fs.length:=by omega
  have hw:=aJ (k:=k) (by omega)
  obtain⟨rr,bh⟩:=BC i12 jy k hk
  have gL:=mq c.fs[k].nm
  have vE:=cZ c.fs[k].da 1 31
  have tw:=cZ c.fs[k].ct 1 c.fs[k].da
  have lU:k≤c.fs.length:=Nat.le_of_lt hk
  rw[List.drop_eq_getElem_cons hk,Hz]at hr
  have rv:c.li.map Li.nm++(c.fs.map Of.nm).take (k+1)=(c.li.map Li.nm++(c.fs.map Of.nm).take k)++ [c.fs[k].nm]:=by rw[List.take_succ_eq_append_getElem (by rw[List.length_map];exact hk),List.getElem_map,List.append_assoc]
  rw[rv]
  generalize c.fs[k]=u at*
  have hD:=fun G7 fr lh sh g1 g7 gi o1 o7=>adD c.li bf j2 i11 ju hS.s11 c.li.length (Nat.le_refl _) u.nm _ rfl c a7 a8 a9 a10 ba [.i .i64 u.ct,.i .i64 u.da] 1 G7 fr lh sh g1 g7 gi rfl o1 o7
  have hE:=fun G7 fr lh sh g1 g6 g7 gi o1 o7=>adE c.fs ba ki i12 jy hlen k lU u.nm _ rfl c a7 a8 a9 a10 bf [.i .i64 u.ct,.i .i64 u.da] 1 G7 fr lh sh g1 g6 g7 gi o1 o7
  rw[show(c.li.map Li.nm).take c.li.length=c.li.map Li.nm from List.take_of_length_le (by rw[List.length_map];exact Nat.le_refl _)]at hD
  generalize hG:(aq aX 7).g+1=G
  have hD:=fun fr lh sh g1 g7 gi o1 o7=>hD G fr lh sh g1 g7 gi o1 o7
  have hE:=fun fr lh sh g1 g6 g7 gi o1 o7=>hE G fr lh sh g1 g6 g7 gi o1 o7
  generalize hsd:(c.fs.map Of.nm).take k=seen at*
  generalize hld:c.li.map Li.nm=U5 at*
  have leave: ∀e:Int,e≠0→r=e→o= .ret:=fun e he h=>by rw[ho,h,if_neg he]
  unfold bG at o1 hD hE ⊢
  cases hd:eF u.nm with
  |false=>
   right
   rw[if_pos hd]at hr
   rw[hd]at gL
   simp(maxDischargeDepth:=6) only[qF,ae,ah,aa,aj,ab,an,splice,Nat.reduceAdd,Nat.reduceLT,Nat.reduceLeDiff,Nat.reduceEqDiff,fb,h1,h6,o1,i12.lenI,bt,bh,hG,gL,gf]
   refine⟨_,_,(by simp:Out.ret≠ .nrm),rfl,(leave _ (by decide) hr).symm,fun _=> ?_,rfl⟩
   simp(maxDischargeDepth:=6) only[aa,hr]
  |true=>
  rw[if_neg (by simp[hd])]at hr
  rw[hd]at gL
  by_cases hs:u.nm∈U5
  ·right
   rw[if_pos (List.mem_append.2 (.inl hs))]at hr
   simp only[hs,if_true,forall_const]at hD
   simp(maxDischargeDepth:=6) only[qF,ae,ah,aa,aj,ab,an,splice,Nat.reduceAdd,Nat.reduceLT,Nat.reduceLeDiff,Nat.reduceEqDiff,fb,h1,h6,o1,i12.lenI,bt,bh,hG,gL,gf,hD]
   refine⟨_,_,(by simp:Out.ret≠ .nrm),rfl,(leave _ (by decide) hr).symm,fun _=> ?_,rfl⟩
   simp(maxDischargeDepth:=6) only[aa,ab,Nat.reduceEqDiff,hr,o1,hD,h1]
  simp only[hs,if_false,false_implies,true_and]at hD
  by_cases ht:u.nm∈seen
  ·right
   rw[if_pos (List.mem_append.2 (.inr ht))]at hr
   simp only[ht,if_true,forall_const]at hE
   simp(maxDischargeDepth:=6) only[qF,ae,ah,aa,aj,ab,an,Nat.reduceShiftRight,Nat.reduceMod,splice,Nat.reduceAdd,Nat.reduceLT,Nat.reduceLeDiff,Nat.reduceEqDiff,fb,h1,h6,o1,i12.lenI,bt,bh,hG,gL,gf,hD,hE,j4]
   refine⟨_,_,(by simp:Out.ret≠ .nrm),rfl,(leave _ (by decide) hr).symm,fun _=> ?_,rfl⟩
   simp(maxDischargeDepth:=6) only[ae,aa,ab,Nat.reduceShiftRight,Nat.reduceMod,Nat.reduceEqDiff,hr,o1,hE,h1,h6,j4]
  rw[if_neg (by intro h;rcases List.mem_append.1 h with h|h;exact hs h;exact ht h)]at hr
  simp only[ht,if_false,false_implies,true_and]at hE
  cases kF:gF u.da 1 31 with
  |false=>
   right
   rw[if_pos (.inl kF)]at hr
   rw[kF]at vE
   simp(maxDischargeDepth:=6) only[qF,ae,ah,aa,aj,ab,an,Nat.reduceShiftRight,Nat.reduceMod,splice,Nat.reduceAdd,Nat.reduceLT,Nat.reduceLeDiff,Nat.reduceEqDiff,fb,h1,h6,o1,i12.lenI,bt,bh,hG,gL,gf,hD,hE,j4,oC,vE,cA]
   refine⟨_,_,(by simp:Out.ret≠ .nrm),rfl,(leave _ (by decide) hr).symm,fun _=> ?_,rfl⟩
   simp(maxDischargeDepth:=6) only[aa,hr]
  |true=>
  rw[kF]at vE
  cases nz:gF u.ct 1 u.da with
  |false=>
   right
   rw[if_pos (.inr nz)]at hr
   rw[nz]at tw
   simp(maxDischargeDepth:=6) only[qF,ae,ah,aa,aj,ab,an,Nat.reduceShiftRight,Nat.reduceMod,splice,Nat.reduceAdd,Nat.reduceLT,Nat.reduceLeDiff,Nat.reduceEqDiff,fb,h1,h6,o1,i12.lenI,bt,bh,hG,gL,gf,hD,hE,j4,oC,vE,tw,cA]
   refine⟨_,_,(by simp:Out.ret≠ .nrm),rfl,(leave _ (by decide) hr).symm,fun _=> ?_,rfl⟩
   simp(maxDischargeDepth:=6) only[aa,hr]
  |true=>
   left
   rw[if_neg (by simp[kF,nz])]at hr
   rw[nz]at tw
   simp(maxDischargeDepth:=6) only[qF,ae,ah,aa,aj,ab,an,Nat.reduceShiftRight,Nat.reduceMod,splice,Nat.reduceAdd,Nat.reduceLT,Nat.reduceLeDiff,Nat.reduceEqDiff,fb,h1,h6,o1,i12.lenI,bt,bh,hw,hG,gL,gf,hD,hE,j4,oC,vE,tw,cA]
   refine⟨_,rfl,_,_,rfl, ?_, ?_, ?_,hr⟩
   all_goals (simp(maxDischargeDepth:=6) only[ae,aa,ab,Nat.reduceShiftRight,Nat.reduceMod,Nat.reduceEqDiff,h1,o1,j4,oC])
 ·rintro _ ⟨fr,aX,rfl,h1,h6,o1,hr⟩
  rw[List.drop_length,Hz]at hr
  unfold bG at o1
  simp(maxDischargeDepth:=6) only[ae,ah,aa,aj,ab,an,Nat.reduceLT,Nat.reduceEqDiff,fb,h1,h6,o1,i12.lenI,Int.lt_irrefl]
  exact⟨_,_,(by simp:Out.ext 4≠ .nrm),rfl,by rw[ho,hr];rfl,fun h=>absurd hr h,rfl⟩
theorem O6:ai pE 127 [.agg (bG c a7 a8 a9 a10 bf ba)] []=some (.i .i64 (K6 c),[]):=by
 have hL:=fun fr lh sh h1 h3 o1=>adF c a7 a8 a9 a10 bf ba hT hS _ rfl _ rfl fr lh sh h1 h3 o1
 have hO:=fun fr lh sh h1 h6 o1=>adG c a7 a8 a9 a10 bf ba hT hS _ rfl _ rfl fr lh sh h1 h6 o1
 obtain⟨⟨c7,i7,j7⟩,⟨c8,i8,j8⟩,⟨c9,i9,j9⟩,⟨kQ,i10,jz⟩,⟨j2,i11,ju⟩,⟨ki,i12,jy⟩⟩:=hT
 rw[aG PW (by simp[Cd])]
 unfold K6
 unfold bG at hL hO ⊢
 by_cases h0:Hb [] c.li=0
 ·rw[if_neg (by simp[h0])]
  rw[h0]at hL
  simp only[if_true,ne_eq,not_true_eq_false,false_implies,true_and]at hL
  by_cases h1:Hz (c.li.map Li.nm) c.fs=0
  ·rw[h1]at hO
   simp only[if_true,ne_eq,not_true_eq_false,false_implies,true_and]at hO
   simp(maxDischargeDepth:=6) only[qF,ae,ah,aa,aj,ab,Nat.reduceShiftRight,Nat.reduceMod,Nat.reduceLT,Nat.reduceEqDiff,Cd,wJ,hL,hO,h1]
  ·simp only[h1,if_false,ne_eq,not_false_eq_true,forall_const]at hO
   simp(maxDischargeDepth:=6) only[qF,ae,ah,aa,aj,ab,Nat.reduceShiftRight,Nat.reduceMod,Nat.reduceLT,Nat.reduceEqDiff,Cd,wJ,hL,hO]
 ·rw[if_pos h0]
  simp only[h0,if_false,ne_eq,not_false_eq_true,forall_const]at hL
  simp(maxDischargeDepth:=6) only[qF,ae,ah,aa,aj,ab,Nat.reduceLT,Nat.reduceEqDiff,Cd,hL]
end
end Go.Proofs.YtfenhjpkomldcaaGreat
