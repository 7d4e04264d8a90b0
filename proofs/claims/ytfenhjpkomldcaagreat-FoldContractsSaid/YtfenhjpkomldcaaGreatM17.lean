/- The program's check of a contract's types, as a whole. The reference's check of a contract's types. Simplified contracts: plain definitions; rows that grow. Conditions: the theorems' own. -/
import Derived.Test.YtfenhjpkomldcaaGreatM16
import Derived.KernelRfl
set_option maxRecDepth 100000
set_option linter.unusedSimpArgs false
set_option linter.unusedVariables false
set_option maxHeartbeats 16000000
namespace Go.Proofs.YtfenhjpkomldcaaGreat
open Go Go.Ev
section
variable(c:Ct)(a7 a8 a9 a10 bf ba:T)(hT:zH c a7 a8 a9 a10 bf ba)(hS:tz c)
include hT hS
theorem adP(r:Int)(hr:r=He c.cs c.ru)(o:Out)(ho:o=if r=0 then .ext 4 else .ret)(c1:aB)(fr:Fr)(lh:aQ aB)(sh:List aB)(fi:nj c.cs a7 sh)
  (h4:ak fr 4= .ptr .S 2 1 0) (kW:ak fr 12= .i .i64 (c.cs.length:Int)) (hs:ak fr 65=a8) (hl:ak fr 66= .i .i64 (c.ru.length:Int)) (hi:ak fr 67= .i .i64 0) (o1:aq lh 1=c1):
  DC pE 115 (.loop jI) ⟨fr,lh,sh⟩=some (o,⟨cz pE 115 jI fr lh sh,bK pE 115 jI fr lh sh,cw pE 115 jI fr lh sh⟩)∧
  ((r≠0→ak (cz pE 115 jI fr lh sh) 2= .i .i64 r)∧aq (bK pE 115 jI fr lh sh) 1=c1∧nj c.cs a7 (cw pE 115 jI fr lh sh)):=by
 obtain⟨⟨c7,i7,j7⟩,⟨c8,i8,j8⟩,⟨c9,i9,j9⟩,⟨kQ,i10,jz⟩,⟨j2,i11,ju⟩,⟨ki,i12,jy⟩⟩:=hT
 have hlen:=hS.s8.2
 refine aD (P:=fun cO bp br=>(r≠0→ak cO 2= .i .i64 r)∧aq bp 1=c1∧nj c.cs a7 br)
  (aI (fun k st=> ∃(fr:Fr) (aX:aQ aB) (v5:List aB),st=⟨fr,aX,v5⟩∧nj c.cs a7 v5∧ak fr 4= .ptr .S 2 1 0∧ak fr 12= .i .i64 (c.cs.length:Int)∧ak fr 65=a8∧ak fr 66= .i .i64 (c.ru.length:Int)∧ak fr 67= .i .i64 (k:Int)∧aq aX 1=c1∧r=He c.cs (c.ru.drop k)) _ c.ru.length ?_ ?_ 0 _ (Nat.zero_le _) ⟨fr,lh,sh,rfl,fi,h4,kW,hs,hl,hi,o1,by rw[hr];rfl⟩)
 ·rintro k _ hk ⟨fr,aX,v5,rfl,Lf,h4,kW,hs,hl,hi,o1,hr⟩
  have bt:(k:Int)<c.ru.length:=by omega
  have hw:=aJ (k:=k) (by omega)
  rw[List.drop_eq_getElem_cons hk,He]at hr
  have leave: ∀e:Int,e≠0→r=e→o= .ret:=fun e he h=>by rw[ho,h,if_neg he]
  obtain⟨b,cb,rr,bh,cH,hb⟩:=pD i8 j8 k hk
  have kR:=hS.s8.1 c.ru[k] (List.getElem_mem hk)
  generalize c.ru[k]=u at*
  obtain⟨sh2,az,BL⟩:=zd c.cs a7 c7 i7 j7 hS.s7.2 hS.s7.1 u.sc 4 u.x _ hb kR v5 Lf
  generalize xK c.cs u.sc u.x 4=e at*
  by_cases hv:e=0
  ·left
   rw[if_neg (by simp[hv])]at hr
   subst hv
   simp(maxDischargeDepth:=6) only[qF,ae,ah,aa,aj,ab,an,splice,Nat.reduceAdd,Nat.reduceLT,Nat.reduceLeDiff,Nat.reduceEqDiff,fW,jI,h4,kW,hs,hl,hi,bt,bh,hw,cH.kept1,az,wO]
   refine⟨_,rfl,_,_,_,rfl,BL, ?_, ?_, ?_, ?_, ?_, ?_,hr⟩
   all_goals (simp(maxDischargeDepth:=6) only[aa,ab,Nat.reduceEqDiff,h4,kW,hs,hl,o1])
  ·right
   rw[if_pos hv]at hr
   simp(maxDischargeDepth:=6) only[qF,ae,ah,aa,aj,ab,an,splice,Nat.reduceAdd,Nat.reduceLT,Nat.reduceLeDiff,Nat.reduceEqDiff,fW,jI,h4,kW,hs,hl,hi,bt,bh,cH.kept1,az,wO,hv]
   refine⟨_,_,(by simp:Out.ret≠ .nrm),rfl,(leave _ hv hr).symm,fun _=> ?_, ?_,BL⟩ <;> simp(maxDischargeDepth:=6) only[aa,ab,Nat.reduceEqDiff,hr,o1]
 ·rintro _ ⟨fr,aX,v5,rfl,fi,h4,kW,hs,hl,hi,o1,hr⟩
  rw[List.drop_length,He]at hr
  simp(maxDischargeDepth:=6) only[ae,ah,aa,ab,an,Nat.reduceLT,jI,hl,hi,Int.lt_irrefl]
  exact⟨_,_,(by simp:Out.ext 4≠ .nrm),rfl,by rw[ho,hr];rfl,fun h=>absurd hr h,o1,fi⟩
theorem adQ(r:Int)(hr:r=B7 c.cs c.co)(o:Out)(ho:o=if r=0 then .ext 6 else .ret)(c1:aB)(fr:Fr)(lh:aQ aB)(sh:List aB)(fi:nj c.cs a7 sh)
  (h4:ak fr 4= .ptr .S 2 1 0) (kW:ak fr 12= .i .i64 (c.cs.length:Int)) (hs:ak fr 83=a9) (hl:ak fr 84= .i .i64 (c.co.length:Int)) (hi:ak fr 85= .i .i64 0) (o1:aq lh 1=c1):
  DC pE 115 (.loop jH) ⟨fr,lh,sh⟩=some (o,⟨cz pE 115 jH fr lh sh,bK pE 115 jH fr lh sh,cw pE 115 jH fr lh sh⟩)∧
  ((r≠0→ak (cz pE 115 jH fr lh sh) 2= .i .i64 r)∧aq (bK pE 115 jH fr lh sh) 1=c1∧nj c.cs a7 (cw pE 115 jH fr lh sh)):=by
 obtain⟨⟨c7,i7,j7⟩,⟨c8,i8,j8⟩,⟨c9,i9,j9⟩,⟨kQ,i10,jz⟩,⟨j2,i11,ju⟩,⟨ki,i12,jy⟩⟩:=hT
 have hlen:=hS.s9.2
 refine aD (P:=fun cO bp br=>(r≠0→ak cO 2= .i .i64 r)∧aq bp 1=c1∧nj c.cs a7 br)
  (aI (fun k st=> ∃(fr:Fr) (aX:aQ aB) (v5:List aB),st=⟨fr,aX,v5⟩∧nj c.cs a7 v5∧ak fr 4= .ptr .S 2 1 0∧ak fr 12= .i .i64 (c.cs.length:Int)∧ak fr 83=a9∧ak fr 84= .i .i64 (c.co.length:Int)∧ak fr 85= .i .i64 (k:Int)∧aq aX 1=c1∧r=B7 c.cs (c.co.drop k)) _ c.co.length ?_ ?_ 0 _ (Nat.zero_le _) ⟨fr,lh,sh,rfl,fi,h4,kW,hs,hl,hi,o1,by rw[hr];rfl⟩)
 ·rintro k _ hk ⟨fr,aX,v5,rfl,Lf,h4,kW,hs,hl,hi,o1,hr⟩
  have bt:(k:Int)<c.co.length:=by omega
  have hw:=aJ (k:=k) (by omega)
  rw[List.drop_eq_getElem_cons hk,B7]at hr
  have leave: ∀e:Int,e≠0→r=e→o= .ret:=fun e he h=>by rw[ho,h,if_neg he]
  obtain⟨b,cb,rr,bh,cH,hb⟩:=ri i9 j9 k hk
  have kR:=hS.s9.1 c.co[k] (List.getElem_mem hk)
  generalize c.co[k]=u at*
  obtain⟨sh2,az,BL⟩:=zd c.cs a7 c7 i7 j7 hS.s7.2 hS.s7.1 u.sc 1 u.x _ hb kR v5 Lf
  generalize xK c.cs u.sc u.x 1=e at*
  by_cases hv:e=0
  ·left
   rw[if_neg (by simp[hv])]at hr
   subst hv
   simp(maxDischargeDepth:=6) only[qF,ae,ah,aa,aj,ab,an,splice,Nat.reduceAdd,Nat.reduceLT,Nat.reduceLeDiff,Nat.reduceEqDiff,fW,jH,h4,kW,hs,hl,hi,bt,bh,hw,cH.kept1,az,wO]
   refine⟨_,rfl,_,_,_,rfl,BL, ?_, ?_, ?_, ?_, ?_, ?_,hr⟩
   all_goals (simp(maxDischargeDepth:=6) only[aa,ab,Nat.reduceEqDiff,h4,kW,hs,hl,o1])
  ·right
   rw[if_pos hv]at hr
   simp(maxDischargeDepth:=6) only[qF,ae,ah,aa,aj,ab,an,splice,Nat.reduceAdd,Nat.reduceLT,Nat.reduceLeDiff,Nat.reduceEqDiff,fW,jH,h4,kW,hs,hl,hi,bt,bh,cH.kept1,az,wO,hv]
   refine⟨_,_,(by simp:Out.ret≠ .nrm),rfl,(leave _ hv hr).symm,fun _=> ?_, ?_,BL⟩ <;> simp(maxDischargeDepth:=6) only[aa,ab,Nat.reduceEqDiff,hr,o1]
 ·rintro _ ⟨fr,aX,v5,rfl,fi,h4,kW,hs,hl,hi,o1,hr⟩
  rw[List.drop_length,B7]at hr
  simp(maxDischargeDepth:=6) only[ae,ah,aa,ab,an,Nat.reduceLT,jH,hl,hi,Int.lt_irrefl]
  exact⟨_,_,(by simp:Out.ext 6≠ .nrm),rfl,by rw[ho,hr];rfl,fun h=>absurd hr h,o1,fi⟩
theorem adR(r:Int)(hr:r=HA c.cs c.cr)(o:Out)(ho:o=if r=0 then .ext 8 else .ret)(c1:aB)(fr:Fr)(lh:aQ aB)(sh:List aB)(fi:nj c.cs a7 sh)
  (h4:ak fr 4= .ptr .S 2 1 0) (kW:ak fr 12= .i .i64 (c.cs.length:Int)) (hs:ak fr 101=a10) (hl:ak fr 102= .i .i64 (c.cr.length:Int)) (hi:ak fr 103= .i .i64 0) (o1:aq lh 1=c1):
  DC pE 115 (.loop kq) ⟨fr,lh,sh⟩=some (o,⟨cz pE 115 kq fr lh sh,bK pE 115 kq fr lh sh,cw pE 115 kq fr lh sh⟩)∧
  ((r≠0→ak (cz pE 115 kq fr lh sh) 2= .i .i64 r)∧aq (bK pE 115 kq fr lh sh) 1=c1∧nj c.cs a7 (cw pE 115 kq fr lh sh)):=by
 obtain⟨⟨c7,i7,j7⟩,⟨c8,i8,j8⟩,⟨c9,i9,j9⟩,⟨kQ,i10,jz⟩,⟨j2,i11,ju⟩,⟨ki,i12,jy⟩⟩:=hT
 have hlen:=hS.s10.2
 refine aD (P:=fun cO bp br=>(r≠0→ak cO 2= .i .i64 r)∧aq bp 1=c1∧nj c.cs a7 br)
  (aI (fun k st=> ∃(fr:Fr) (aX:aQ aB) (v5:List aB),st=⟨fr,aX,v5⟩∧nj c.cs a7 v5∧ak fr 4= .ptr .S 2 1 0∧ak fr 12= .i .i64 (c.cs.length:Int)∧ak fr 101=a10∧ak fr 102= .i .i64 (c.cr.length:Int)∧ak fr 103= .i .i64 (k:Int)∧aq aX 1=c1∧r=HA c.cs (c.cr.drop k)) _ c.cr.length ?_ ?_ 0 _ (Nat.zero_le _) ⟨fr,lh,sh,rfl,fi,h4,kW,hs,hl,hi,o1,by rw[hr];rfl⟩)
 ·rintro k _ hk ⟨fr,aX,v5,rfl,Lf,h4,kW,hs,hl,hi,o1,hr⟩
  have bt:(k:Int)<c.cr.length:=by omega
  have hw:=aJ (k:=k) (by omega)
  rw[List.drop_eq_getElem_cons hk,HA]at hr
  have leave: ∀e:Int,e≠0→r=e→o= .ret:=fun e he h=>by rw[ho,h,if_neg he]
  obtain⟨b,cb,rr,bh,cH,nA,hb⟩:=dm i10 jz k hk
  have kR:=hS.s10.1 c.cr[k] (List.getElem_mem hk)
  generalize c.cr[k]=u at*
  obtain⟨sh2,az,BL⟩:=zd c.cs a7 c7 i7 j7 hS.s7.2 hS.s7.1 1 2 u _ hb kR v5 Lf
  generalize xK c.cs 1 u 2=e at*
  by_cases hv:e=0
  ·left
   rw[if_neg (by simp[hv])]at hr
   subst hv
   simp(maxDischargeDepth:=6) only[qF,ae,ah,aa,aj,ab,an,splice,Nat.reduceAdd,Nat.reduceLT,Nat.reduceLeDiff,Nat.reduceEqDiff,fW,kq,h4,kW,hs,hl,hi,bt,bh,hw,cH.kept1,az,wO]
   refine⟨_,rfl,_,_,_,rfl,BL, ?_, ?_, ?_, ?_, ?_, ?_,hr⟩
   all_goals (simp(maxDischargeDepth:=6) only[aa,ab,Nat.reduceEqDiff,h4,kW,hs,hl,o1])
  ·right
   rw[if_pos hv]at hr
   simp(maxDischargeDepth:=6) only[qF,ae,ah,aa,aj,ab,an,splice,Nat.reduceAdd,Nat.reduceLT,Nat.reduceLeDiff,Nat.reduceEqDiff,fW,kq,h4,kW,hs,hl,hi,bt,bh,cH.kept1,az,wO,hv]
   refine⟨_,_,(by simp:Out.ret≠ .nrm),rfl,(leave _ hv hr).symm,fun _=> ?_, ?_,BL⟩ <;> simp(maxDischargeDepth:=6) only[aa,ab,Nat.reduceEqDiff,hr,o1]
 ·rintro _ ⟨fr,aX,v5,rfl,fi,h4,kW,hs,hl,hi,o1,hr⟩
  rw[List.drop_length,HA]at hr
  simp(maxDischargeDepth:=6) only[ae,ah,aa,ab,an,Nat.reduceLT,kq,hl,hi,Int.lt_irrefl]
  exact⟨_,_,(by simp:Out.ext 8≠ .nrm),rfl,by rw[ho,hr];rfl,fun h=>absurd hr h,o1,fi⟩
theorem O9: ∃s,ai pE 62 [.agg (bG c a7 a8 a9 a10 bf ba)] []=some (.i .i64 (lb c),s):=by
 have vG:=Lc c a7 a8 a9 a10 bf ba hT hS
 have hA:=fun fr lh sh fi h4 O7 L3 O8 o1=>adO c a7 a8 a9 a10 bf ba hT hS _ rfl _ rfl ⟨1,.cells (bG c a7 a8 a9 a10 bf ba) 0 true⟩ fr lh sh fi h4 O7 L3 O8 o1
 have hB:=fun fr lh sh fi h4 kW hs hl hi o1=>adP c a7 a8 a9 a10 bf ba hT hS _ rfl _ rfl ⟨1,.cells (bG c a7 a8 a9 a10 bf ba) 0 true⟩ fr lh sh fi h4 kW hs hl hi o1
 have hC:=fun fr lh sh fi h4 kW hs hl hi o1=>adQ c a7 a8 a9 a10 bf ba hT hS _ rfl _ rfl ⟨1,.cells (bG c a7 a8 a9 a10 bf ba) 0 true⟩ fr lh sh fi h4 kW hs hl hi o1
 have hD:=fun fr lh sh fi h4 kW hs hl hi o1=>adR c a7 a8 a9 a10 bf ba hT hS _ rfl _ rfl ⟨1,.cells (bG c a7 a8 a9 a10 bf ba) 0 true⟩ fr lh sh fi h4 kW hs hl hi o1
 obtain⟨⟨c7,i7,j7⟩,⟨c8,i8,j8⟩,⟨c9,i9,j9⟩,⟨kQ,i10,jz⟩,⟨j2,i11,ju⟩,⟨ki,i12,jy⟩⟩:=hT
 have Dv:=Lg c.cs a7 c7 i7 j7 hS.s7.2
 have YQ:nj c.cs a7 (rC a7 (fq c.cs c.cs.length) []):=⟨[],rfl,fun i t h=>by cases h⟩
 unfold bG at hA hB hC hD vG ⊢
 rw[aG Sm (by simp[Hx])]
 unfold lb
 by_cases e0:iC c=0
 ·rw[e0]at vG
  rw[if_neg (by simp[e0])]
  by_cases e1:Hd c.cs 0 c.cs=0
  ·rw[e1]at hA
   rw[if_neg (by simp[e1])]
   simp only[if_true,ne_eq,not_true_eq_false,false_implies,true_and]at hA
   by_cases e2:He c.cs c.ru=0
   ·rw[e2]at hB
    rw[if_neg (by simp[e2])]
    simp only[if_true,ne_eq,not_true_eq_false,false_implies,true_and]at hB
    by_cases e3:B7 c.cs c.co=0
    ·rw[e3]at hC
     rw[if_neg (by simp[e3])]
     simp only[if_true,ne_eq,not_true_eq_false,false_implies,true_and]at hC
     by_cases e4:HA c.cs c.cr=0
     ·rw[e4]at hD
      simp only[if_true,ne_eq,not_true_eq_false,false_implies,true_and]at hD
      simp(maxDischargeDepth:=6) only[qF,ae,ah,aa,aj,ab,an,Nat.reduceShiftRight,Nat.reduceMod,Nat.reduceAdd,Nat.reduceLT,Nat.reduceEqDiff,Hx,zU,tZ,pZ,i7.lenI,i8.lenI,i9.lenI,i10.lenI,i7.froz1,i8.froz1,i9.froz1,i10.froz1,i11.froz1,i12.froz1,i7.kept,vG,uk,Dv,FQ,YQ,hA,hB,hC,hD,e4]
      exact⟨_,rfl⟩
     ·simp only[e4,if_false,ne_eq,not_false_eq_true,forall_const]at hD
      simp(maxDischargeDepth:=6) only[qF,ae,ah,aa,aj,ab,an,Nat.reduceShiftRight,Nat.reduceMod,Nat.reduceAdd,Nat.reduceLT,Nat.reduceEqDiff,Hx,zU,tZ,pZ,i7.lenI,i8.lenI,i9.lenI,i10.lenI,i7.froz1,i8.froz1,i9.froz1,i10.froz1,i11.froz1,i12.froz1,i7.kept,vG,uk,Dv,FQ,YQ,hA,hB,hC,hD]
      exact⟨_,rfl⟩
    ·rw[if_pos e3]
     simp only[e3,if_false,ne_eq,not_false_eq_true,forall_const]at hC
     simp(maxDischargeDepth:=6) only[qF,ae,ah,aa,aj,ab,an,Nat.reduceShiftRight,Nat.reduceMod,Nat.reduceAdd,Nat.reduceLT,Nat.reduceEqDiff,Hx,tZ,pZ,i7.lenI,i8.lenI,i9.lenI,i7.froz1,i8.froz1,i9.froz1,i10.froz1,i11.froz1,i12.froz1,i7.kept,vG,uk,Dv,FQ,YQ,hA,hB,hC]
     exact⟨_,rfl⟩
   ·rw[if_pos e2]
    simp only[e2,if_false,ne_eq,not_false_eq_true,forall_const]at hB
    simp(maxDischargeDepth:=6) only[qF,ae,ah,aa,aj,ab,an,Nat.reduceShiftRight,Nat.reduceMod,Nat.reduceAdd,Nat.reduceLT,Nat.reduceEqDiff,Hx,pZ,i7.lenI,i8.lenI,i7.froz1,i8.froz1,i9.froz1,i10.froz1,i11.froz1,i12.froz1,i7.kept,vG,uk,Dv,FQ,YQ,hA,hB]
    exact⟨_,rfl⟩
  ·rw[if_pos e1]
   simp only[e1,if_false,ne_eq,not_false_eq_true,forall_const]at hA
   simp(maxDischargeDepth:=6) only[qF,ae,ah,aa,aj,ab,an,Nat.reduceAdd,Nat.reduceLT,Nat.reduceEqDiff,Hx,i7.lenI,i7.froz1,i8.froz1,i9.froz1,i10.froz1,i11.froz1,i12.froz1,i7.kept,vG,uk,Dv,FQ,YQ,hA]
   exact⟨_,rfl⟩
 ·rw[if_pos e0]
  generalize iC c=e at*
  simp(maxDischargeDepth:=6) only[qF,ae,ah,aa,aj,ab,an,Nat.reduceAdd,Nat.reduceLT,Nat.reduceEqDiff,Hx,i7.froz1,i8.froz1,i9.froz1,i10.froz1,i11.froz1,i12.froz1,vG,uk,e0]
  exact⟨_,rfl⟩
end
end Go.Proofs.YtfenhjpkomldcaaGreat
namespace Go.Proofs.YtfenhjpkomldcaaGreat
open Go Go.Ev
theorem adS(s:List Nat)(o:Out)(ho:o=if wE s then .ret else .ext 0)(fr:Fr)(lh:aQ aB)(sh:List aB)(g0:ak fr 0= .s s)(g3:ak fr 3= .i .i64 1):
  DC pE 18 (.loop kr) ⟨fr,lh,sh⟩=some (o,⟨cz pE 18 kr fr lh sh,bK pE 18 kr fr lh sh,cw pE 18 kr fr lh sh⟩)∧((wE s→ak (cz pE 18 kr fr lh sh) 2= .b true)∧bK pE 18 kr fr lh sh=lh∧cw pE 18 kr fr lh sh=sh):=by
 refine aD (P:=fun cO bp br=>(wE s→ak cO 2= .b true)∧bp=lh∧br=sh) (aI (fun j st=> ∃fr:Fr,st=⟨fr,lh,sh⟩∧ak fr 0= .s s∧ak fr 3= .i .i64 ((j:Int)+1)∧YP s j) _ 3 ?_ ?_ 0 _ (Nat.zero_le _) ⟨fr,rfl,g0,g3,fun i h=>by omega⟩)
 ·rintro j _ hj ⟨fr,rfl,g0,g3,t⟩
  have ga:=qX ((j:Int)+1) s
  unfold lC at ga
  have hle:(j:Int)+1≤3:=by omega
  have hw:wr .i64 ((j:Int)+1+1)=((j+1:Nat):Int)+1:=by
   have:=aJ (k:=j+1) (cm (by omega))
   push_cast at this ⊢
   exact this
  by_cases hz:dI ((j:Int)+1) s=0
  ·left
   rw[if_pos hz,hz]at ga
   simp(maxDischargeDepth:=6) only[qF,ae,ah,aa,aj,ab,an,reduceCtorEq,Nat.reduceLT,Nat.reduceEqDiff,Int.reduceEq,kr,g0,g3,hle,hw,ga,uj]
   refine⟨_,rfl,_,rfl, ?_, ?_, ?_⟩
   ·simp(maxDischargeDepth:=6) only[aa,ab,reduceCtorEq,g0]
   ·simp(maxDischargeDepth:=6) only[aa]
   ·intro i h
    by_cases e:i=j
    ·subst e;exact hz
    ·exact t i (by omega)
  ·right
   rw[if_neg hz]at ga
   have hk:wE s:=by
    unfold wE
    have:j=0∨j=1∨j=2:=by omega
    rcases this with rfl|rfl|rfl
    ·exact .inl hz
    ·exact .inr (.inl hz)
    ·exact .inr (.inr hz)
   simp(maxDischargeDepth:=6) only[qF,ae,ah,aa,aj,ab,reduceCtorEq,Nat.reduceLT,Nat.reduceEqDiff,kr,g0,g3,hle,ga,uj]
   exact⟨_,_,(by simp:Out.ret≠ .nrm),rfl,by rw[ho,if_pos hk],fun _=>by simp(maxDischargeDepth:=6) only[aa],rfl,rfl⟩
 ·rintro _ ⟨fr,rfl,g0,g3,t⟩
  have hk: ¬wE s:=by
   unfold wE
   rintro(h|h|h)
   ·exact h (t 0 (by decide))
   ·exact h (t 1 (by decide))
   ·exact h (t 2 (by decide))
  rw[show((3:Nat):Int)+1=4 from rfl]at g3
  simp(maxDischargeDepth:=6) only[ae,ah,aa,ab,an,Nat.reduceLT,Int.reduceLE,kr,g3]
  exact⟨_,_,(by simp:Out.ext 0≠ .nrm),rfl,by rw[ho,if_neg hk],fun h=>absurd h hk,rfl,rfl⟩
theorem Hf(s:List Nat):ai pE 74 [.s s] []=some (.b (decide (wE s)),[]):=by
 have hL:=fun fr lh sh g0 g3=>adS s _ rfl fr lh sh g0 g3
 rw[aG VU (by simp[UU])]
 by_cases h:wE s
 ·simp only[h,if_true,forall_const]at hL
  simp(maxDischargeDepth:=6) only[qF,ae,ah,aa,aj,ab,reduceCtorEq,Nat.reduceLT,UU,hL,h]
 ·simp only[h,if_false,false_implies,true_and]at hL
  simp(maxDischargeDepth:=6) only[qF,ae,ah,aa,aj,ab,an,reduceCtorEq,Nat.reduceLT,UU,hL,h]
section
variable(c:Ct)(a7 a8 a9 a10 bf ba:T)(hT:zH c a7 a8 a9 a10 bf ba)(hS:tz c)
include hT hS
theorem ze(scope want:Int)(x:Ex)(cs:List T)(hx:bE x cs)(hn:B6 x):ai pE 75 [.agg (bG c a7 a8 a9 a10 bf ba),.i .i64 scope,.agg cs,.i .i64 want] []=some (.i .i64 (xK c.cs scope x want),[]):=by
 obtain⟨⟨c7,i7,j7⟩,⟨c8,i8,j8⟩,⟨c9,i9,j9⟩,⟨kQ,i10,jz⟩,⟨j2,i11,ju⟩,⟨ki,i12,jy⟩⟩:=hT
 have cN:=mz c.cs a7 c7 i7 j7 hS.s7.2 hS.s7.1 scope x cs hx hn.1 hn.2
 obtain⟨a,cc,rfl,ha,mH⟩:=hx.cells
 rw[aG Sq (by simp[R5])]
 unfold xK bG
 generalize cV c.cs scope x=q at*
 obtain⟨q1,q2⟩:=q
 simp only at cN ⊢
 by_cases h2:q2=0
 ·subst h2
  by_cases h1:q1=want
  ·subst h1
   simp(maxDischargeDepth:=6) only[qF,ae,ah,aa,aj,ab,an,Nat.reduceAdd,reduceCtorEq,Nat.reduceLT,Nat.reduceEqDiff,R5,cN,rF,ha.froz1,i7.froz]
  ·simp(maxDischargeDepth:=6) only[qF,ae,ah,aa,aj,ab,an,Nat.reduceAdd,reduceCtorEq,Nat.reduceLT,Nat.reduceEqDiff,R5,cN,rF,ha.froz1,i7.froz,h1]
 ·simp(maxDischargeDepth:=6) only[qF,ae,ah,aa,aj,ab,an,Nat.reduceAdd,reduceCtorEq,Nat.reduceLT,Nat.reduceEqDiff,R5,cN,rF,ha.froz1,i7.froz,h2]
theorem adT(r:Int)(hr:r=Hd c.cs 0 c.cs)(o:Out)(ho:o=if r=0 then .ext 0 else .ret)(fr:Fr)(lh:aQ aB)(sh:List aB)
  (h1:ak fr 1= .ptr .L 1 1 0) (hi:ak fr 4= .i .i64 0) (o1:aq lh 1=⟨1,.cells (bG c a7 a8 a9 a10 bf ba) 0 true⟩):
  DC pE 114 (.loop iK) ⟨fr,lh,sh⟩=some (o,⟨cz pE 114 iK fr lh sh,bK pE 114 iK fr lh sh,cw pE 114 iK fr lh sh⟩)∧
  ((r≠0→ak (cz pE 114 iK fr lh sh) 2= .i .i64 r)∧aq (bK pE 114 iK fr lh sh) 1=⟨1,.cells (bG c a7 a8 a9 a10 bf ba) 0 true⟩∧cw pE 114 iK fr lh sh=sh):=by
 have Dw:=hT
 obtain⟨⟨c7,i7,j7⟩,⟨c8,i8,j8⟩,⟨c9,i9,j9⟩,⟨kQ,i10,jz⟩,⟨j2,i11,ju⟩,⟨ki,i12,jy⟩⟩:=hT
 have hlen:=hS.s7.2
 have gb:=hS.s7.1
 refine aD (P:=fun cO bp br=>(r≠0→ak cO 2= .i .i64 r)∧aq bp 1=⟨1,.cells (bG c a7 a8 a9 a10 bf ba) 0 true⟩∧br=sh)
  (aI (fun k st=> ∃(fr:Fr) (aX:aQ aB),st=⟨fr,aX,sh⟩∧ak fr 1= .ptr .L 1 1 0∧ak fr 4= .i .i64 (k:Int)∧aq aX 1=⟨1,.cells (bG c a7 a8 a9 a10 bf ba) 0 true⟩∧r=Hd c.cs k (c.cs.drop k)) _ c.cs.length ?_ ?_ 0 _ (Nat.zero_le _) ⟨fr,lh,rfl,h1,hi,o1,by rw[hr];rfl⟩)
 ·rintro k _ hk ⟨fr,aX,rfl,h1,hi,o1,hr⟩
  have bt:(k:Int)<c.cs.length:=by omega
  have lU:k≤c.cs.length:=Nat.le_of_lt hk
  have hw:=aJ (k:=k) (by omega)
  rw[List.drop_eq_getElem_cons hk,Hd]at hr
  have leave: ∀e:Int,e≠0→r=e→o= .ret:=fun e he h=>by rw[ho,h,if_neg he]
  obtain⟨b,cb,rr,bh,cH,nA,hb⟩:=dL i7 j7 k hk
  obtain⟨xF,sd⟩:=gb c.cs[k] (List.getElem_mem hk)
  have tA:=Hf c.cs[k].1
  obtain⟨ex,rfl,wV,B1,y6⟩:=yZ c.cs a7 c7 hk i7 j7
  have eo:(c.cs.take k).length=k:=by rw[List.length_take,Nat.min_eq_left lU]
  have cN:=mz (c.cs.take k) (.sl (List.take (k*5) c7) k (ex&&decide (k=c.cs.length))) (c7.take (k*5)) (by rw[eo];exact wV) B1 (by rw[eo];omega) (vC c.cs gb k) 0 c.cs[k].2 _ hb xF sd
  rw[pR c.cs lU,←tN c.cs hk]at cN
  generalize nJ c.cs k=q at*
  obtain⟨q1,q2⟩:=q
  simp only at cN hr
  generalize c.cs[k]=u at*
  unfold bG at o1 ⊢
  by_cases hs:wE u.1
  ·right
   rw[if_pos hs]at hr
   rw[decide_eq_true hs]at tA
   simp(maxDischargeDepth:=6) only[qF,ae,ah,aa,aj,ab,an,Nat.reduceLT,Nat.reduceEqDiff,iK,h1,hi,o1,bt,bh,tA,So]
   refine⟨_,_,(by simp:Out.ret≠ .nrm),rfl,(leave _ (by decide) hr).symm,fun _=> ?_, ?_,rfl⟩ <;> simp(maxDischargeDepth:=6) only[aa,hr,o1]
  rw[if_neg hs]at hr
  rw[decide_eq_false hs]at tA
  by_cases hv:q2=0
  ·left
   rw[if_neg (by simp[hv])]at hr
   subst hv
   simp(maxDischargeDepth:=6) only[qF,ae,ah,aa,aj,ab,an,wv,uZ,bH,Nat.reduceLT,Nat.reduceLeDiff,Nat.reduceEqDiff,cq,aZ,iK,h1,hi,o1,bt,bh,cH.froz1,tA,So,hw,lU,y6,Nat.sub_zero,cN,rF,Il]
   refine⟨_,rfl,_,_,rfl, ?_, ?_, ?_,hr⟩
   all_goals (simp(maxDischargeDepth:=6) only[aa,ab,Nat.reduceEqDiff,h1,o1])
  ·right
   rw[if_pos hv]at hr
   simp(maxDischargeDepth:=6) only[qF,ae,ah,aa,aj,ab,an,wv,uZ,bH,Nat.reduceLT,Nat.reduceLeDiff,Nat.reduceEqDiff,cq,aZ,iK,h1,hi,o1,bt,bh,cH.froz1,tA,So,lU,y6,Nat.sub_zero,cN,rF,Il,hv]
   refine⟨_,_,(by simp:Out.ret≠ .nrm),rfl,(leave _ hv hr).symm,fun _=> ?_, ?_,rfl⟩ <;> simp(maxDischargeDepth:=6) only[aa,hr,o1]
 ·rintro _ ⟨fr,aX,rfl,h1,hi,o1,hr⟩
  rw[List.drop_length,Hd]at hr
  unfold bG at o1 ⊢
  simp(maxDischargeDepth:=6) only[ae,ah,aa,aj,ab,an,Nat.reduceLT,Nat.reduceEqDiff,iK,h1,hi,o1,i7.lenI,Int.lt_irrefl]
  exact⟨_,_,(by simp:Out.ext 0≠ .nrm),rfl,by rw[ho,hr];rfl,fun h=>absurd hr h,o1,rfl⟩
theorem adU(r:Int)(hr:r=He c.cs c.ru)(o:Out)(ho:o=if r=0 then .ext 2 else .ret)(fr:Fr)(lh:aQ aB)(sh:List aB)
  (h1:ak fr 1= .ptr .L 1 1 0) (hi:ak fr 7= .i .i64 0) (o1:aq lh 1=⟨1,.cells (bG c a7 a8 a9 a10 bf ba) 0 true⟩):
  DC pE 114 (.loop jF) ⟨fr,lh,sh⟩=some (o,⟨cz pE 114 jF fr lh sh,bK pE 114 jF fr lh sh,cw pE 114 jF fr lh sh⟩)∧
  ((r≠0→ak (cz pE 114 jF fr lh sh) 2= .i .i64 r)∧aq (bK pE 114 jF fr lh sh) 1=⟨1,.cells (bG c a7 a8 a9 a10 bf ba) 0 true⟩∧cw pE 114 jF fr lh sh=sh):=by
 have Dw:=hT
 obtain⟨⟨c7,i7,j7⟩,⟨c8,i8,j8⟩,⟨c9,i9,j9⟩,⟨kQ,i10,jz⟩,⟨j2,i11,ju⟩,⟨ki,i12,jy⟩⟩:=hT
 have hlen:=hS.s8.2
 have gb:=hS.s8.1
 refine aD (P:=fun cO bp br=>(r≠0→ak cO 2= .i .i64 r)∧aq bp 1=⟨1,.cells (bG c a7 a8 a9 a10 bf ba) 0 true⟩∧br=sh)
  (aI (fun k st=> ∃(fr:Fr) (aX:aQ aB),st=⟨fr,aX,sh⟩∧ak fr 1= .ptr .L 1 1 0∧ak fr 7= .i .i64 (k:Int)∧aq aX 1=⟨1,.cells (bG c a7 a8 a9 a10 bf ba) 0 true⟩∧r=He c.cs (c.ru.drop k)) _ c.ru.length ?_ ?_ 0 _ (Nat.zero_le _) ⟨fr,lh,rfl,h1,hi,o1,by rw[hr];rfl⟩)
 ·rintro k _ hk ⟨fr,aX,rfl,h1,hi,o1,hr⟩
  have bt:(k:Int)<c.ru.length:=by omega
  have lU:k≤c.ru.length:=Nat.le_of_lt hk
  have hw:=aJ (k:=k) (by omega)
  rw[List.drop_eq_getElem_cons hk,He]at hr
  have leave: ∀e:Int,e≠0→r=e→o= .ret:=fun e he h=>by rw[ho,h,if_neg he]
  obtain⟨b,cb,rr,bh,cH,hb⟩:=pD i8 j8 k hk
  have hex:=ze c a7 a8 a9 a10 bf ba Dw hS c.ru[k].sc 4 c.ru[k].x _ hb (gb c.ru[k] (List.getElem_mem hk))
  generalize c.ru[k]=u at*
  generalize xK c.cs u.sc u.x 4=q at*
  unfold bG at o1 hex ⊢
  by_cases hv:q=0
  ·left
   rw[if_neg (by simp[hv])]at hr
   subst hv
   simp(maxDischargeDepth:=6) only[qF,ae,ah,aa,aj,ab,an,Nat.reduceAdd,Nat.reduceLT,Nat.reduceLeDiff,Nat.reduceEqDiff,cq,aZ,jF,h1,hi,o1,i8.lenI,bt,bh,cH.froz1,i7.froz1,i8.froz1,i9.froz1,i10.froz1,i11.froz1,i12.froz1,hex,FM,FN,hw]
   refine⟨_,rfl,_,_,rfl, ?_, ?_, ?_,hr⟩
   all_goals (simp(maxDischargeDepth:=6) only[aa,ab,Nat.reduceEqDiff,h1,o1])
  ·right
   rw[if_pos hv]at hr
   simp(maxDischargeDepth:=6) only[qF,ae,ah,aa,aj,ab,an,Nat.reduceAdd,Nat.reduceLT,Nat.reduceLeDiff,Nat.reduceEqDiff,cq,aZ,jF,h1,hi,o1,i8.lenI,bt,bh,cH.froz1,i7.froz1,i8.froz1,i9.froz1,i10.froz1,i11.froz1,i12.froz1,hex,FM,FN,hv]
   refine⟨_,_,(by simp:Out.ret≠ .nrm),rfl,(leave _ hv hr).symm,fun _=> ?_, ?_,rfl⟩ <;> simp(maxDischargeDepth:=6) only[aa,hr,o1]
 ·rintro _ ⟨fr,aX,rfl,h1,hi,o1,hr⟩
  rw[List.drop_length,He]at hr
  unfold bG at o1 ⊢
  simp(maxDischargeDepth:=6) only[ae,ah,aa,aj,ab,an,Nat.reduceLT,Nat.reduceEqDiff,jF,h1,hi,o1,i8.lenI,Int.lt_irrefl]
  exact⟨_,_,(by simp:Out.ext 2≠ .nrm),rfl,by rw[ho,hr];rfl,fun h=>absurd hr h,o1,rfl⟩
theorem adV(r:Int)(hr:r=B7 c.cs c.co)(o:Out)(ho:o=if r=0 then .ext 4 else .ret)(fr:Fr)(lh:aQ aB)(sh:List aB)
  (h1:ak fr 1= .ptr .L 1 1 0) (hi:ak fr 9= .i .i64 0) (o1:aq lh 1=⟨1,.cells (bG c a7 a8 a9 a10 bf ba) 0 true⟩):
  DC pE 114 (.loop jE) ⟨fr,lh,sh⟩=some (o,⟨cz pE 114 jE fr lh sh,bK pE 114 jE fr lh sh,cw pE 114 jE fr lh sh⟩)∧
  ((r≠0→ak (cz pE 114 jE fr lh sh) 2= .i .i64 r)∧aq (bK pE 114 jE fr lh sh) 1=⟨1,.cells (bG c a7 a8 a9 a10 bf ba) 0 true⟩∧cw pE 114 jE fr lh sh=sh):=by
 have Dw:=hT
 obtain⟨⟨c7,i7,j7⟩,⟨c8,i8,j8⟩,⟨c9,i9,j9⟩,⟨kQ,i10,jz⟩,⟨j2,i11,ju⟩,⟨ki,i12,jy⟩⟩:=hT
 have hlen:=hS.s9.2
 have gb:=hS.s9.1
 refine aD (P:=fun cO bp br=>(r≠0→ak cO 2= .i .i64 r)∧aq bp 1=⟨1,.cells (bG c a7 a8 a9 a10 bf ba) 0 true⟩∧br=sh)
  (aI (fun k st=> ∃(fr:Fr) (aX:aQ aB),st=⟨fr,aX,sh⟩∧ak fr 1= .ptr .L 1 1 0∧ak fr 9= .i .i64 (k:Int)∧aq aX 1=⟨1,.cells (bG c a7 a8 a9 a10 bf ba) 0 true⟩∧r=B7 c.cs (c.co.drop k)) _ c.co.length ?_ ?_ 0 _ (Nat.zero_le _) ⟨fr,lh,rfl,h1,hi,o1,by rw[hr];rfl⟩)
 ·rintro k _ hk ⟨fr,aX,rfl,h1,hi,o1,hr⟩
  have bt:(k:Int)<c.co.length:=by omega
  have lU:k≤c.co.length:=Nat.le_of_lt hk
  have hw:=aJ (k:=k) (by omega)
  rw[List.drop_eq_getElem_cons hk,B7]at hr
  have leave: ∀e:Int,e≠0→r=e→o= .ret:=fun e he h=>by rw[ho,h,if_neg he]
  obtain⟨b,cb,rr,bh,cH,hb⟩:=ri i9 j9 k hk
  have hex:=ze c a7 a8 a9 a10 bf ba Dw hS c.co[k].sc 1 c.co[k].x _ hb (gb c.co[k] (List.getElem_mem hk))
  generalize c.co[k]=u at*
  generalize xK c.cs u.sc u.x 1=q at*
  unfold bG at o1 hex ⊢
  by_cases hv:q=0
  ·left
   rw[if_neg (by simp[hv])]at hr
   subst hv
   simp(maxDischargeDepth:=6) only[qF,ae,ah,aa,aj,ab,an,Nat.reduceAdd,Nat.reduceLT,Nat.reduceLeDiff,Nat.reduceEqDiff,cq,aZ,jE,h1,hi,o1,i9.lenI,bt,bh,cH.froz1,i7.froz1,i8.froz1,i9.froz1,i10.froz1,i11.froz1,i12.froz1,hex,FM,FN,hw]
   refine⟨_,rfl,_,_,rfl, ?_, ?_, ?_,hr⟩
   all_goals (simp(maxDischargeDepth:=6) only[aa,ab,Nat.reduceEqDiff,h1,o1])
  ·right
   rw[if_pos hv]at hr
   simp(maxDischargeDepth:=6) only[qF,ae,ah,aa,aj,ab,an,Nat.reduceAdd,Nat.reduceLT,Nat.reduceLeDiff,Nat.reduceEqDiff,cq,aZ,jE,h1,hi,o1,i9.lenI,bt,bh,cH.froz1,i7.froz1,i8.froz1,i9.froz1,i10.froz1,i11.froz1,i12.froz1,hex,FM,FN,hv]
   refine⟨_,_,(by simp:Out.ret≠ .nrm),rfl,(leave _ hv hr).symm,fun _=> ?_, ?_,rfl⟩ <;> simp(maxDischargeDepth:=6) only[aa,hr,o1]
 ·rintro _ ⟨fr,aX,rfl,h1,hi,o1,hr⟩
  rw[List.drop_length,B7]at hr
  unfold bG at o1 ⊢
  simp(maxDischargeDepth:=6) only[ae,ah,aa,aj,ab,an,Nat.reduceLT,Nat.reduceEqDiff,jE,h1,hi,o1,i9.lenI,Int.lt_irrefl]
  exact⟨_,_,(by simp:Out.ext 4≠ .nrm),rfl,by rw[ho,hr];rfl,fun h=>absurd hr h,o1,rfl⟩
theorem adW(r:Int)(hr:r=HA c.cs c.cr)(o:Out)(ho:o=if r=0 then .ext 6 else .ret)(fr:Fr)(lh:aQ aB)(sh:List aB)
  (h1:ak fr 1= .ptr .L 1 1 0) (hi:ak fr 11= .i .i64 0) (o1:aq lh 1=⟨1,.cells (bG c a7 a8 a9 a10 bf ba) 0 true⟩):
  DC pE 114 (.loop kj) ⟨fr,lh,sh⟩=some (o,⟨cz pE 114 kj fr lh sh,bK pE 114 kj fr lh sh,cw pE 114 kj fr lh sh⟩)∧
  ((r≠0→ak (cz pE 114 kj fr lh sh) 2= .i .i64 r)∧aq (bK pE 114 kj fr lh sh) 1=⟨1,.cells (bG c a7 a8 a9 a10 bf ba) 0 true⟩∧cw pE 114 kj fr lh sh=sh):=by
 have Dw:=hT
 obtain⟨⟨c7,i7,j7⟩,⟨c8,i8,j8⟩,⟨c9,i9,j9⟩,⟨kQ,i10,jz⟩,⟨j2,i11,ju⟩,⟨ki,i12,jy⟩⟩:=hT
 have hlen:=hS.s10.2
 have gb:=hS.s10.1
 refine aD (P:=fun cO bp br=>(r≠0→ak cO 2= .i .i64 r)∧aq bp 1=⟨1,.cells (bG c a7 a8 a9 a10 bf ba) 0 true⟩∧br=sh)
  (aI (fun k st=> ∃(fr:Fr) (aX:aQ aB),st=⟨fr,aX,sh⟩∧ak fr 1= .ptr .L 1 1 0∧ak fr 11= .i .i64 (k:Int)∧aq aX 1=⟨1,.cells (bG c a7 a8 a9 a10 bf ba) 0 true⟩∧r=HA c.cs (c.cr.drop k)) _ c.cr.length ?_ ?_ 0 _ (Nat.zero_le _) ⟨fr,lh,rfl,h1,hi,o1,by rw[hr];rfl⟩)
 ·rintro k _ hk ⟨fr,aX,rfl,h1,hi,o1,hr⟩
  have bt:(k:Int)<c.cr.length:=by omega
  have lU:k≤c.cr.length:=Nat.le_of_lt hk
  have hw:=aJ (k:=k) (by omega)
  rw[List.drop_eq_getElem_cons hk,HA]at hr
  have leave: ∀e:Int,e≠0→r=e→o= .ret:=fun e he h=>by rw[ho,h,if_neg he]
  obtain⟨b,cb,rr,bh,cH,nA,hb⟩:=dm i10 jz k hk
  have hex:=ze c a7 a8 a9 a10 bf ba Dw hS 1 2 c.cr[k] _ hb (gb c.cr[k] (List.getElem_mem hk))
  generalize c.cr[k]=u at*
  generalize xK c.cs 1 u 2=q at*
  unfold bG at o1 hex ⊢
  by_cases hv:q=0
  ·left
   rw[if_neg (by simp[hv])]at hr
   subst hv
   simp(maxDischargeDepth:=6) only[qF,ae,ah,aa,aj,ab,an,Nat.reduceAdd,Nat.reduceLT,Nat.reduceLeDiff,Nat.reduceEqDiff,cq,aZ,kj,h1,hi,o1,i10.lenI,bt,bh,cH.froz1,i7.froz1,i8.froz1,i9.froz1,i10.froz1,i11.froz1,i12.froz1,hex,FM,FN,hw]
   refine⟨_,rfl,_,_,rfl, ?_, ?_, ?_,hr⟩
   all_goals (simp(maxDischargeDepth:=6) only[aa,ab,Nat.reduceEqDiff,h1,o1])
  ·right
   rw[if_pos hv]at hr
   simp(maxDischargeDepth:=6) only[qF,ae,ah,aa,aj,ab,an,Nat.reduceAdd,Nat.reduceLT,Nat.reduceLeDiff,Nat.reduceEqDiff,cq,aZ,kj,h1,hi,o1,i10.lenI,bt,bh,cH.froz1,i7.froz1,i8.froz1,i9.froz1,i10.froz1,i11.froz1,i12.froz1,hex,FM,FN,hv]
   refine⟨_,_,(by simp:Out.ret≠ .nrm),rfl,(leave _ hv hr).symm,fun _=> ?_, ?_,rfl⟩ <;> simp(maxDischargeDepth:=6) only[aa,hr,o1]
 ·rintro _ ⟨fr,aX,rfl,h1,hi,o1,hr⟩
  rw[List.drop_length,HA]at hr
  unfold bG at o1 ⊢
  simp(maxDischargeDepth:=6) only[ae,ah,aa,aj,ab,an,Nat.reduceLT,Nat.reduceEqDiff,kj,h1,hi,o1,i10.lenI,Int.lt_irrefl]
  exact⟨_,_,(by simp:Out.ext 6≠ .nrm),rfl,by rw[ho,hr];rfl,fun h=>absurd hr h,o1,rfl⟩
theorem Hg:ai pE 40 [.agg (bG c a7 a8 a9 a10 bf ba)] []=some (.i .i64 (lb c),[]):=by
 have vG:=Le c a7 a8 a9 a10 bf ba hT hS
 have hA:=fun fr lh sh h1 hi o1=>adT c a7 a8 a9 a10 bf ba hT hS _ rfl _ rfl fr lh sh h1 hi o1
 have hB:=fun fr lh sh h1 hi o1=>adU c a7 a8 a9 a10 bf ba hT hS _ rfl _ rfl fr lh sh h1 hi o1
 have hC:=fun fr lh sh h1 hi o1=>adV c a7 a8 a9 a10 bf ba hT hS _ rfl _ rfl fr lh sh h1 hi o1
 have hD:=fun fr lh sh h1 hi o1=>adW c a7 a8 a9 a10 bf ba hT hS _ rfl _ rfl fr lh sh h1 hi o1
 obtain⟨⟨c7,i7,j7⟩,⟨c8,i8,j8⟩,⟨c9,i9,j9⟩,⟨kQ,i10,jz⟩,⟨j2,i11,ju⟩,⟨ki,i12,jy⟩⟩:=hT
 unfold bG at hA hB hC hD vG ⊢
 rw[aG Sf (by simp[Hw])]
 unfold lb
 by_cases e0:iC c=0
 ·rw[e0]at vG
  rw[if_neg (by simp[e0])]
  by_cases e1:Hd c.cs 0 c.cs=0
  ·rw[e1]at hA
   rw[if_neg (by simp[e1])]
   simp only[if_true,ne_eq,not_true_eq_false,false_implies,true_and]at hA
   by_cases e2:He c.cs c.ru=0
   ·rw[e2]at hB
    rw[if_neg (by simp[e2])]
    simp only[if_true,ne_eq,not_true_eq_false,false_implies,true_and]at hB
    by_cases e3:B7 c.cs c.co=0
    ·rw[e3]at hC
     rw[if_neg (by simp[e3])]
     simp only[if_true,ne_eq,not_true_eq_false,false_implies,true_and]at hC
     by_cases e4:HA c.cs c.cr=0
     ·rw[e4]at hD
      simp only[if_true,ne_eq,not_true_eq_false,false_implies,true_and]at hD
      simp(maxDischargeDepth:=6) only[qF,ae,ah,aa,aj,ab,an,Nat.reduceShiftRight,Nat.reduceMod,Nat.reduceAdd,Nat.reduceLT,Nat.reduceEqDiff,Hw,zS,tX,pY,i7.froz1,i8.froz1,i9.froz1,i10.froz1,i11.froz1,i12.froz1,vG,Cj,hA,hB,hC,hD,e4]
     ·simp only[e4,if_false,ne_eq,not_false_eq_true,forall_const]at hD
      simp(maxDischargeDepth:=6) only[qF,ae,ah,aa,aj,ab,an,Nat.reduceShiftRight,Nat.reduceMod,Nat.reduceAdd,Nat.reduceLT,Nat.reduceEqDiff,Hw,zS,tX,pY,i7.froz1,i8.froz1,i9.froz1,i10.froz1,i11.froz1,i12.froz1,vG,Cj,hA,hB,hC,hD]
    ·rw[if_pos e3]
     simp only[e3,if_false,ne_eq,not_false_eq_true,forall_const]at hC
     simp(maxDischargeDepth:=6) only[qF,ae,ah,aa,aj,ab,an,Nat.reduceShiftRight,Nat.reduceMod,Nat.reduceAdd,Nat.reduceLT,Nat.reduceEqDiff,Hw,tX,pY,i7.froz1,i8.froz1,i9.froz1,i10.froz1,i11.froz1,i12.froz1,vG,Cj,hA,hB,hC]
   ·rw[if_pos e2]
    simp only[e2,if_false,ne_eq,not_false_eq_true,forall_const]at hB
    simp(maxDischargeDepth:=6) only[qF,ae,ah,aa,aj,ab,an,Nat.reduceShiftRight,Nat.reduceMod,Nat.reduceAdd,Nat.reduceLT,Nat.reduceEqDiff,Hw,pY,i7.froz1,i8.froz1,i9.froz1,i10.froz1,i11.froz1,i12.froz1,vG,Cj,hA,hB]
  ·rw[if_pos e1]
   simp only[e1,if_false,ne_eq,not_false_eq_true,forall_const]at hA
   simp(maxDischargeDepth:=6) only[qF,ae,ah,aa,aj,ab,an,Nat.reduceAdd,Nat.reduceLT,Nat.reduceEqDiff,Hw,i7.froz1,i8.froz1,i9.froz1,i10.froz1,i11.froz1,i12.froz1,vG,Cj,hA]
 ·rw[if_pos e0]
  generalize iC c=e at*
  simp(maxDischargeDepth:=6) only[qF,ae,ah,aa,aj,ab,an,Nat.reduceAdd,Nat.reduceLT,Nat.reduceEqDiff,Hw,i7.froz1,i8.froz1,i9.froz1,i10.froz1,i11.froz1,i12.froz1,vG,Cj,e0]
end
end Go.Proofs.YtfenhjpkomldcaaGreat
namespace Go.Proofs.YtfenhjpkomldcaaGreat
open Go Go.Ev
def sg(l:Cs):List Ru→Int×List Ru
 | []=>(0,[])
 |u::us=>if(eH l u.sc u.x).2≠0 then((eH l u.sc u.x).2,[])else((sg l us).1,if(eH l u.sc u.x).1.op=4 then(sg l us).2 else⟨u.sc,u.nm,(eH l u.sc u.x).1⟩::(sg l us).2)
def si(l:Cs):List Co→Int×List Co
 | []=>(0,[])
 |u::us=>if(eH l u.sc u.x).2≠0 then((eH l u.sc u.x).2,[])else((si l us).1,if gn (eH l u.sc u.x).1 then(si l us).2 else⟨u.sc,(eH l u.sc u.x).1⟩::(si l us).2)
def ta(l:Cs):List Ex→Int×List Ex
 | []=>(0,[])
 |x::us=>if(eH l 1 x).2≠0 then((eH l 1 x).2,[])else((ta l us).1,(eH l 1 x).1::(ta l us).2)
def RG:Ct:=⟨0,0,0,0,0,0,0,[],[],[],[],[],[],0⟩
def lf(c:Ct):Ct×Int:=if lb c≠0 then(RG,lb c)else if(sg c.cs c.ru).1≠0 then(RG,(sg c.cs c.ru).1)else if(si c.cs c.co).1≠0 then(RG,(si c.cs c.co).1)else if(ta c.cs c.cr).1≠0 then(RG,(ta c.cs c.cr).1)
 else(⟨c.rp,c.rl,c.cn,c.st,c.ly,c.nf,c.nt,[],(sg c.cs c.ru).2,(si c.cs c.co).2,(ta c.cs c.cr).2,c.li,c.fs,c.gu⟩,0)
theorem kS{lh:aQ aB}{sh:List aB}{v:T}{k sz n bytes:Nat}{cs:List T}(h:be lh v k sz n cs)(hn:(n+1)*bytes≤roomy){ps:List T}(hp:ps.length=sz)(ex:Bool):
  appW lh sh k sz bytes v (.sl ps 1 ex)=some (vS lh sh k sz bytes v (.sl ps 1 ex),pA lh sh k sz bytes v (.sl ps 1 ex))∧be (pA lh sh k sz bytes v (.sl ps 1 ex)) (vS lh sh k sz bytes v (.sl ps 1 ex)) k sz (n+1) (cs++ps)∧ ∀j,j≠k→aq (pA lh sh k sz bytes v (.sl ps 1 ex)) j=aq lh j:=
 be.appW h (m:=0) (by rw[yC,if_pos (by omega)]) (by omega) hn
theorem vH{n b:Nat}(h:n≤eG)(hb:b≤100):(n+1)*b≤roomy:=by
 unfold eG at h
 unfold roomy
 have:(n+1)*b≤1000001*100:=Nat.mul_le_mul (by omega) hb
 omega
theorem Lh{u:Ru}{a:T}{cc:List T}(h1:aR a u.x.args.length cc)(h2:aK u.x.args cc):za u [.i .i64 u.sc,.s u.nm,.i .i64 u.x.op,.i .i64 u.x.num,.s u.x.name,a]:=⟨a,cc,rfl,h1,h2⟩
theorem Dx{u:Co}{a:T}{cc:List T}(h1:aR a u.x.args.length cc)(h2:aK u.x.args cc):BB u [.i .i64 u.sc,.i .i64 u.x.op,.i .i64 u.x.num,.s u.x.name,a]:=⟨a,cc,rfl,h1,h2⟩
theorem iD{lh:aQ aB}{k g wm q n sz i:Nat}{bx:Bool}{F:T→List T}(hF: ∀v,(F v).getD i bA=v){P:List T→Prop}(h: ∃v,aq lh k=⟨g,.cells (F v) wm bx⟩∧ ∃ce,be lh v q sz n ce∧P ce):
  aq lh k=⟨g,.cells (F (dr lh k i)) wm bx⟩∧be lh (dr lh k i) q sz n (lV lh (dr lh k i))∧P (lV lh (dr lh k i)):=by
 obtain⟨v,h1,ce,h2,h3⟩:=h
 have e:dr lh k i=v:=by rw[lB h1,hF]
 have e2:lV lh v=ce:=by
  rcases h2 with⟨_,rfl,rfl⟩|⟨g',Ec,rfl,h5,_,_⟩
  ·rfl
  ·unfold lV;exact yJ h5
 rw[e,e2]
 exact⟨h1,h2,h3⟩
theorem Pa(n:Nat)(a:T)(cc:List T)(ha:aR a n cc)(eA:cc.length=n*4)(hlen:n≤eG): ∃a',ai pE 63 [a] []=some (a',[])∧aR a' n cc:=by
 rw[aG VR (by simp[R2])]
 rcases ha with⟨rfl,h0,rfl⟩|⟨ex,rfl⟩
 ·simp(maxDischargeDepth:=6) only[qF,ae,ah,aa,aj,ab,appW,dq,dw,aH,repl,Nat.reduceAdd,reduceCtorEq,Nat.reduceLT,Nat.reduceEqDiff,R2,Bo]
  exact⟨_,rfl,Or.inl ⟨rfl,h0,rfl⟩⟩
 ·cases n with
  |zero=>
   obtain rfl:cc= []:=List.length_eq_zero_iff.1 (by omega)
   have hz: ∀lh d sz b s,uY lh d sz b (.sl s 0 true) (0,[])=some (.sl s 0 true,lh):=fun _ _ _ _ _=>rfl
   simp(maxDischargeDepth:=6) only[qF,ae,ah,aa,aj,ab,an,appW,dq,dw,aH,repl,Nat.reduceAdd,reduceCtorEq,Nat.reduceLT,Nat.reduceEqDiff,R2,qZ,bne_self_eq_false,hz]
   exact⟨_,rfl,Or.inr ⟨_,rfl⟩⟩
  |succ n=>
   have hr:(n+1)*48≤roomy:=by unfold eG at hlen;unfold roomy;omega
   have ht:List.take ((n+1)*4) cc=cc:=List.take_of_length_le (by omega)
   simp(maxDischargeDepth:=6) only[qF,ae,ah,aa,aj,ab,an,appW,dq,dw,aH,repl,Nat.reduceAdd,reduceCtorEq,Nat.reduceLT,Nat.reduceEqDiff,R2,qZ,bne_self_eq_false,hr,eA,ht]
   exact⟨_,rfl,Or.inr ⟨_,rfl⟩⟩
theorem Pb(n:Nat)(a:T)(cc:List T)(ha:aR a n cc)(eA:cc.length=n*3)(hlen:n≤eG): ∃a',ai pE 64 [a] []=some (a',[])∧aR a' n cc:=by
 rw[aG VS (by simp[R3])]
 rcases ha with⟨rfl,h0,rfl⟩|⟨ex,rfl⟩
 ·simp(maxDischargeDepth:=6) only[qF,ae,ah,aa,aj,ab,appW,dq,dw,aH,repl,Nat.reduceAdd,reduceCtorEq,Nat.reduceLT,Nat.reduceEqDiff,R3,Bo]
  exact⟨_,rfl,Or.inl ⟨rfl,h0,rfl⟩⟩
 ·cases n with
  |zero=>
   obtain rfl:cc= []:=List.length_eq_zero_iff.1 (by omega)
   have hz: ∀lh d sz b s,uY lh d sz b (.sl s 0 true) (0,[])=some (.sl s 0 true,lh):=fun _ _ _ _ _=>rfl
   simp(maxDischargeDepth:=6) only[qF,ae,ah,aa,aj,ab,an,appW,dq,dw,aH,repl,Nat.reduceAdd,reduceCtorEq,Nat.reduceLT,Nat.reduceEqDiff,R3,qZ,bne_self_eq_false,hz]
   exact⟨_,rfl,Or.inr ⟨_,rfl⟩⟩
  |succ n=>
   have hr:(n+1)*32≤roomy:=by unfold eG at hlen;unfold roomy;omega
   have ht:List.take ((n+1)*3) cc=cc:=List.take_of_length_le (by omega)
   simp(maxDischargeDepth:=6) only[qF,ae,ah,aa,aj,ab,an,appW,dq,dw,aH,repl,Nat.reduceAdd,reduceCtorEq,Nat.reduceLT,Nat.reduceEqDiff,R3,qZ,bne_self_eq_false,hr,eA,ht]
   exact⟨_,rfl,Or.inr ⟨_,rfl⟩⟩
end Go.Proofs.YtfenhjpkomldcaaGreat
