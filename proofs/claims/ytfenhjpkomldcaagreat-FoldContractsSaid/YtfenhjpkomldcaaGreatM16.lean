/- The reference's check of a contract's form: its loops. The reference's check of a contract's form, as a whole. The program's check of a contract's types. Conditions: the theorems' own. -/
import Derived.Test.YtfenhjpkomldcaaGreatM15
import Derived.KernelRfl
set_option maxRecDepth 100000
set_option linter.unusedSimpArgs false
set_option linter.unusedVariables false
set_option maxHeartbeats 16000000
namespace Go.Proofs.YtfenhjpkomldcaaGreat
open Go Go.Ev
theorem adH(l:Cs)(a:T)(cc:List T)(ha:aR a l.length cc)(hc:dK l cc)(hlen:l.length≤eG)(n:Nat)(hn:n≤l.length)(s:List Nat)(o:Out)(ho:o=if s∈(l.map Prod.fst).take n then .ret else .ext 2)(hnn:n<l.length)(sd:l[n].1=s)(c:Ct)(a8 a9 a10 bf ba:T)(fr:Fr)(lh:aQ aB)(sh:List aB)(g1:ak fr 1= .ptr .L 1 1 0)(g3:ak fr 3= .i .i64 (n:Int))(gi:ak fr 4= .i .i64 0)(o1:aq lh 1=⟨1,.cells (bG c a a8 a9 a10 bf ba) 0 true⟩):
  DC pE 235 (.loop jL) ⟨fr,lh,sh⟩=some (o,⟨cz pE 235 jL fr lh sh,bK pE 235 jL fr lh sh,cw pE 235 jL fr lh sh⟩)∧((s∈(l.map Prod.fst).take n→ak (cz pE 235 jL fr lh sh) 2= .i .i64 7)∧bK pE 235 jL fr lh sh=lh∧cw pE 235 jL fr lh sh=sh):=by
 obtain⟨b',RB,Vb,Ui,_⟩:=dL ha hc n hnn
 rw[sd]at Ui
 refine aD (P:=fun cO bp br=>(s∈(l.map Prod.fst).take n→ak cO 2= .i .i64 7)∧bp=lh∧br=sh) (aI (fun j st=> ∃fr:Fr,st=⟨fr,lh,sh⟩∧ak fr 1= .ptr .L 1 1 0∧ak fr 3= .i .i64 (n:Int)∧ak fr 4= .i .i64 (j:Int)∧s∉(l.map Prod.fst).take j) _ n ?_ ?_ 0 _ (Nat.zero_le _) ⟨fr,rfl,g1,g3,gi,by simp⟩)
 ·rintro j _ hj ⟨fr,rfl,g1,g3,gi,fh⟩
  have mi:j<l.length:=by omega
  have E4:j<(l.map Prod.fst).length:=by rw[List.length_map];exact mi
  have Ds:(j:Int)<n:=by omega
  have hw:=aJ (k:=j) (by omega)
  obtain⟨b,cb,rr,bh,cH,nA,hb⟩:=dL ha hc j mi
  by_cases fg:Prod.fst l[j]=s
  ·right
   have j1:s∈(l.map Prod.fst).take n:=jv hj E4 (by rw[List.getElem_map];exact fg)
   change l[j].1=s at fg
   simp(maxDischargeDepth:=6) only[ae,ah,aa,aj,ab,an,bn,aP,Nat.reduceAdd,Nat.reduceLT,Nat.reduceEqDiff,jL,g1,g3,gi,Ds,bh,fg,o1,bG,Ui]
   exact⟨_,_,(by simp:Out.ret≠ .nrm),rfl,by rw[ho,if_pos j1],fun _=>by simp(maxDischargeDepth:=6) only[aa],rfl,rfl⟩
  ·left
   have wD:=gp E4 fh (by rw[List.getElem_map];exact fg)
   change ¬l[j].1=s at fg
   simp(maxDischargeDepth:=6) only[ae,ah,aa,aj,ab,an,bn,aP,Nat.reduceAdd,Nat.reduceLT,Nat.reduceEqDiff,jL,g1,g3,gi,Ds,bh,hw,fg,o1,bG,Ui]
   refine⟨_,rfl,_,rfl, ?_, ?_, ?_,wD⟩
   all_goals (simp(maxDischargeDepth:=6) only[aa,ab,Nat.reduceEqDiff,g1,g3])
 ·rintro _ ⟨fr,rfl,g1,g3,gi,fh⟩
  simp(maxDischargeDepth:=6) only[ae,ah,aa,ab,an,Nat.reduceLT,Nat.reduceEqDiff,jL,g3,gi,Int.lt_irrefl]
  exact⟨_,_,(by simp:Out.ext 2≠ .nrm),rfl,by rw[ho,if_neg fh],fun h=>absurd h fh,rfl,rfl⟩
theorem adI(l:List Ru)(a:T)(cc:List T)(ha:aR a l.length cc)(hc:aS za l cc)(hlen:l.length≤eG)(n:Nat)(hn:n≤l.length)(sc:Int)(nm:List Nat)(o:Out)(ho:o=if(sc,nm)∈(l.map rB).take n then .ret else .ext 6)(c:Ct)(a7 a9 a10 bf ba:T)(r7:List T)(G7:Nat)(fr:Fr)(lh:aQ aB)(sh:List aB)(g1:ak fr 1= .ptr .L 1 1 0)(g6:ak fr 6= .i .i64 (n:Int))(g7:ak fr 7= .ptr .L 7 G7 0)(gi:ak fr 8= .i .i64 0)(o1:aq lh 1=⟨1,.cells (bG c a7 a a9 a10 bf ba) 0 true⟩)(o7:aq lh 7=⟨G7,.cells (.i .i64 sc:: .s nm::r7) 0 true⟩):
  DC pE 235 (.loop iN) ⟨fr,lh,sh⟩=some (o,⟨cz pE 235 iN fr lh sh,bK pE 235 iN fr lh sh,cw pE 235 iN fr lh sh⟩)∧(((sc,nm)∈(l.map rB).take n→ak (cz pE 235 iN fr lh sh) 2= .i .i64 7)∧bK pE 235 iN fr lh sh=lh∧cw pE 235 iN fr lh sh=sh):=by
 refine aD (P:=fun cO bp br=>((sc,nm)∈(l.map rB).take n→ak cO 2= .i .i64 7)∧bp=lh∧br=sh) (aI (fun j st=> ∃fr:Fr,st=⟨fr,lh,sh⟩∧ak fr 1= .ptr .L 1 1 0∧ak fr 6= .i .i64 (n:Int)∧ak fr 7= .ptr .L 7 G7 0∧ak fr 8= .i .i64 (j:Int)∧(sc,nm)∉(l.map rB).take j) _ n ?_ ?_ 0 _ (Nat.zero_le _) ⟨fr,rfl,g1,g6,g7,gi,by simp⟩)
 ·rintro j _ hj ⟨fr,rfl,g1,g6,g7,gi,fh⟩
  have mi:j<l.length:=by omega
  have E4:j<(l.map rB).length:=by rw[List.length_map];exact mi
  have Ds:(j:Int)<n:=by omega
  have hw:=aJ (k:=j) (by omega)
  obtain⟨b,cb,rr,bh,cH,hb⟩:=pD ha hc j mi
  by_cases fg:rB l[j]=(sc,nm)
  ·right
   have j1:(sc,nm)∈(l.map rB).take n:=jv hj E4 (by rw[List.getElem_map];exact fg)
   have e1:l[j].sc=sc:=congrArg Prod.fst fg
   have e2:l[j].nm=nm:=congrArg Prod.snd fg
   simp(maxDischargeDepth:=6) only[ae,ah,aa,aj,ab,an,bn,aP,Nat.reduceAdd,Nat.reduceLT,Nat.reduceLeDiff,Nat.reduceEqDiff,iN,g1,g6,g7,gi,Ds,bh,e1,e2,o1,o7,bG]
   exact⟨_,_,(by simp:Out.ret≠ .nrm),rfl,by rw[ho,if_pos j1],fun _=>by simp(maxDischargeDepth:=6) only[aa],rfl,rfl⟩
  ·left
   have wD:=gp E4 fh (by rw[List.getElem_map];exact fg)
   by_cases e1:l[j].sc=sc
   ·have e2: ¬l[j].nm=nm:=fun h=>fg (by unfold rB;rw[e1,h])
    simp(maxDischargeDepth:=6) only[ae,ah,aa,aj,ab,an,bn,aP,Nat.reduceAdd,Nat.reduceLT,Nat.reduceLeDiff,Nat.reduceEqDiff,iN,g1,g6,g7,gi,Ds,bh,hw,e1,e2,o1,o7,bG]
    refine⟨_,rfl,_,rfl, ?_, ?_, ?_, ?_,wD⟩
    all_goals (simp(maxDischargeDepth:=6) only[aa,ab,Nat.reduceEqDiff,g1,g6,g7])
   ·simp(maxDischargeDepth:=6) only[ae,ah,aa,aj,ab,an,bn,aP,Nat.reduceAdd,Nat.reduceLT,Nat.reduceEqDiff,iN,g1,g6,g7,gi,Ds,bh,hw,e1,o1,o7,bG]
    refine⟨_,rfl,_,rfl, ?_, ?_, ?_, ?_,wD⟩
    all_goals (simp(maxDischargeDepth:=6) only[aa,ab,Nat.reduceEqDiff,g1,g6,g7])
 ·rintro _ ⟨fr,rfl,g1,g6,g7,gi,fh⟩
  simp(maxDischargeDepth:=6) only[ae,ah,aa,ab,an,Nat.reduceLT,Nat.reduceEqDiff,iN,g6,gi,Int.lt_irrefl]
  exact⟨_,_,(by simp:Out.ext 6≠ .nrm),rfl,by rw[ho,if_neg fh],fun h=>absurd h fh,rfl,rfl⟩
section
variable(c:Ct)(a7 a8 a9 a10 bf ba:T)(hT:zH c a7 a8 a9 a10 bf ba)(hS:tz c)
include hT hS
theorem adJ(r:Int)(hr:r=B5 [] c.cs)(o:Out)(ho:o=if r=0 then .ext 0 else .ret)(fr:Fr)(lh:aQ aB)(sh:List aB)
  (h1:ak fr 1= .ptr .L 1 1 0) (hi:ak fr 3= .i .i64 0) (o1:aq lh 1=⟨1,.cells (bG c a7 a8 a9 a10 bf ba) 0 true⟩):
  DC pE 235 (.loop gV) ⟨fr,lh,sh⟩=some (o,⟨cz pE 235 gV fr lh sh,bK pE 235 gV fr lh sh,cw pE 235 gV fr lh sh⟩)∧
  ((r≠0→ak (cz pE 235 gV fr lh sh) 2= .i .i64 r)∧aq (bK pE 235 gV fr lh sh) 1=⟨1,.cells (bG c a7 a8 a9 a10 bf ba) 0 true⟩∧cw pE 235 gV fr lh sh=sh):=by
 obtain⟨⟨c7,i7,j7⟩,⟨c8,i8,j8⟩,⟨c9,i9,j9⟩,⟨kQ,i10,jz⟩,⟨j2,i11,ju⟩,⟨ki,i12,jy⟩⟩:=hT
 have hlen:=hS.s7.2
 have gb:=hS.s7.1
 refine aD (P:=fun cO bp br=>(r≠0→ak cO 2= .i .i64 r)∧aq bp 1=⟨1,.cells (bG c a7 a8 a9 a10 bf ba) 0 true⟩∧br=sh)
  (aI (fun k st=> ∃(fr:Fr) (aX:aQ aB),st=⟨fr,aX,sh⟩∧ak fr 1= .ptr .L 1 1 0∧ak fr 3= .i .i64 (k:Int)∧aq aX 1=⟨1,.cells (bG c a7 a8 a9 a10 bf ba) 0 true⟩∧r=B5 ((c.cs.map Prod.fst).take k) (c.cs.drop k)) _ c.cs.length ?_ ?_ 0 _ (Nat.zero_le _) ⟨fr,lh,rfl,h1,hi,o1,by rw[hr];rfl⟩)
 ·rintro k _ hk ⟨fr,aX,rfl,h1,hi,o1,hr⟩
  have bt:(k:Int)<c.cs.length:=by omega
  have lU:k≤c.cs.length:=Nat.le_of_lt hk
  have hw:=aJ (k:=k) (by omega)
  rw[List.drop_eq_getElem_cons hk,B5]at hr
  have leave: ∀e:Int,e≠0→r=e→o= .ret:=fun e he h=>by rw[ho,h,if_neg he]
  obtain⟨b,cb,rr,bh,cH,nA,hb⟩:=dL i7 j7 k hk
  obtain⟨xF,sd⟩:=gb c.cs[k] (List.getElem_mem hk)
  have gL:=mq c.cs[k].1
  have mA:=iW c.cs[k].2 _ hb sd
  have rv:(c.cs.map Prod.fst).take (k+1)=(c.cs.map Prod.fst).take k++ [c.cs[k].1]:=by rw[List.take_succ_eq_append_getElem (by rw[List.length_map];exact hk),List.getElem_map]
  rw[rv]
  obtain⟨s,hs0⟩: ∃s,c.cs[k].1=s:=⟨_,rfl⟩
  have hD:=fun fr lh sh g1 g3 gi o1=>adH c.cs a7 c7 i7 j7 hlen k lU s _ rfl hk hs0 c a8 a9 a10 bf ba fr lh sh g1 g3 gi o1
  rw[hs0]at hr gL bh ⊢
  generalize c.cs[k].2=x at*
  generalize (c.cs.map Prod.fst).take k=seen at*
  unfold bG at o1 hD ⊢
  cases hd:eF s with
  |false=>
   right
   rw[if_pos hd]at hr
   rw[hd]at gL
   simp(maxDischargeDepth:=6) only[qF,ae,ah,aa,aj,ab,an,Nat.reduceLT,Nat.reduceEqDiff,gV,h1,hi,o1,i7.lenI,bt,bh,gL,gf]
   refine⟨_,_,(by simp:Out.ret≠ .nrm),rfl,(leave _ (by decide) hr).symm,fun _=> ?_, ?_,rfl⟩ <;> simp(maxDischargeDepth:=6) only[aa,hr,o1]
  |true=>
  rw[if_neg (by simp[hd])]at hr
  rw[hd]at gL
  by_cases hs:s∈seen
  ·right
   rw[if_pos hs]at hr
   simp only[hs,if_true,forall_const]at hD
   simp(maxDischargeDepth:=6) only[qF,ae,ah,aa,aj,ab,an,Nat.reduceLT,Nat.reduceEqDiff,gV,h1,hi,o1,i7.lenI,bt,bh,gL,gf,hD]
   refine⟨_,_,(by simp:Out.ret≠ .nrm),rfl,(leave _ (by decide) hr).symm,fun _=> ?_, ?_,rfl⟩ <;> simp(maxDischargeDepth:=6) only[aa,ab,Nat.reduceEqDiff,hr,o1,hi,h1,hD]
  rw[if_neg hs]at hr
  simp only[hs,if_false,false_implies,true_and]at hD
  by_cases hv:aW x=0
  ·left
   rw[if_neg (by simp[hv])]at hr
   rw[hv]at mA
   simp(maxDischargeDepth:=6) only[qF,ae,ah,aa,aj,ab,an,Nat.reduceShiftRight,Nat.reduceMod,Nat.reduceLT,Nat.reduceLeDiff,Nat.reduceEqDiff,gV,h1,hi,o1,i7.lenI,bt,bh,cH.froz1,gL,gf,hw,hD,ue,mA,qe]
   refine⟨_,rfl,_,_,rfl, ?_, ?_, ?_,hr⟩
   all_goals (simp(maxDischargeDepth:=6) only[ae,aa,ab,Nat.reduceShiftRight,Nat.reduceMod,Nat.reduceEqDiff,h1,o1,ue])
  ·right
   rw[if_pos hv]at hr
   generalize aW x=e at*
   simp(maxDischargeDepth:=6) only[qF,ae,ah,aa,aj,ab,an,Nat.reduceShiftRight,Nat.reduceMod,Nat.reduceLT,Nat.reduceLeDiff,Nat.reduceEqDiff,gV,h1,hi,o1,i7.lenI,bt,bh,cH.froz1,gL,gf,hD,ue,mA,qe,hv]
   refine⟨_,_,(by simp:Out.ret≠ .nrm),rfl,(leave _ hv hr).symm,fun _=> ?_, ?_,rfl⟩ <;> simp(maxDischargeDepth:=6) only[aa,hr,o1]
 ·rintro _ ⟨fr,aX,rfl,h1,hi,o1,hr⟩
  rw[List.drop_length,B5]at hr
  unfold bG at o1 ⊢
  simp(maxDischargeDepth:=6) only[ae,ah,aa,aj,ab,an,Nat.reduceLT,Nat.reduceEqDiff,gV,h1,hi,o1,i7.lenI,Int.lt_irrefl]
  exact⟨_,_,(by simp:Out.ext 0≠ .nrm),rfl,by rw[ho,hr];rfl,fun h=>absurd hr h,o1,rfl⟩
theorem adK(r:Int)(hr:r=BD [] c.ru)(o:Out)(ho:o=if r=0 then .ext 4 else .ret)(fr:Fr)(lh:aQ aB)(sh:List aB)
  (h1:ak fr 1= .ptr .L 1 1 0) (hi:ak fr 6= .i .i64 0) (o1:aq lh 1=⟨1,.cells (bG c a7 a8 a9 a10 bf ba) 0 true⟩):
  DC pE 235 (.loop gH) ⟨fr,lh,sh⟩=some (o,⟨cz pE 235 gH fr lh sh,bK pE 235 gH fr lh sh,cw pE 235 gH fr lh sh⟩)∧
  ((r≠0→ak (cz pE 235 gH fr lh sh) 2= .i .i64 r)∧aq (bK pE 235 gH fr lh sh) 1=⟨1,.cells (bG c a7 a8 a9 a10 bf ba) 0 true⟩∧cw pE 235 gH fr lh sh=sh):=by
 obtain⟨⟨c7,i7,j7⟩,⟨c8,i8,j8⟩,⟨c9,i9,j9⟩,⟨kQ,i10,jz⟩,⟨j2,i11,ju⟩,⟨ki,i12,jy⟩⟩:=hT
 have hlen:=hS.s8.2
 have gb:=hS.s8.1
 refine aD (P:=fun cO bp br=>(r≠0→ak cO 2= .i .i64 r)∧aq bp 1=⟨1,.cells (bG c a7 a8 a9 a10 bf ba) 0 true⟩∧br=sh)
  (aI (fun k st=> ∃(fr:Fr) (aX:aQ aB),st=⟨fr,aX,sh⟩∧ak fr 1= .ptr .L 1 1 0∧ak fr 6= .i .i64 (k:Int)∧aq aX 1=⟨1,.cells (bG c a7 a8 a9 a10 bf ba) 0 true⟩∧r=BD ((c.ru.map rB).take k) (c.ru.drop k)) _ c.ru.length ?_ ?_ 0 _ (Nat.zero_le _) ⟨fr,lh,rfl,h1,hi,o1,by rw[hr];rfl⟩)
 ·rintro k _ hk ⟨fr,aX,rfl,h1,hi,o1,hr⟩
  have bt:(k:Int)<c.ru.length:=by omega
  have lU:k≤c.ru.length:=Nat.le_of_lt hk
  have hw:=aJ (k:=k) (by omega)
  rw[List.drop_eq_getElem_cons hk,BD]at hr
  have leave: ∀e:Int,e≠0→r=e→o= .ret:=fun e he h=>by rw[ho,h,if_neg he]
  obtain⟨b,cb,rr,bh,cH,hb⟩:=pD i8 j8 k hk
  obtain⟨xF,sd⟩:=gb c.ru[k] (List.getElem_mem hk)
  have gL:=mq c.ru[k].nm
  have jx:=cZ c.ru[k].sc 1 3
  have mA:=iW c.ru[k].x _ hb sd
  have rv:(c.ru.map rB).take (k+1)=(c.ru.map rB).take k++ [(c.ru[k].sc,c.ru[k].nm)]:=by rw[List.take_succ_eq_append_getElem (by rw[List.length_map];exact hk),List.getElem_map];rfl
  rw[rv]
  generalize c.ru[k]=u at*
  generalize hG:(aq aX 7).g+1=G
  have hD:=fun fr lh sh g1 g6 g7 gi o1 o7=>adI c.ru a8 c8 i8 j8 hlen k lU u.sc u.nm _ rfl c a7 a9 a10 bf ba [.i .i64 u.x.op,.i .i64 u.x.num,.s u.x.name,b] G fr lh sh g1 g6 g7 gi o1 o7
  generalize (c.ru.map rB).take k=seen at*
  unfold bG at o1 hD ⊢
  cases hq:gF u.sc 1 3 with
  |false=>
   right
   rw[if_pos (.inl hq)]at hr
   rw[hq]at jx
   simp(maxDischargeDepth:=6) only[qF,ae,ah,aa,aj,ab,an,splice,Nat.reduceAdd,Nat.reduceLT,Nat.reduceLeDiff,Nat.reduceEqDiff,gH,h1,hi,o1,i8.lenI,bt,bh,hG,jx,cA]
   refine⟨_,_,(by simp:Out.ret≠ .nrm),rfl,(leave _ (by decide) hr).symm,fun _=> ?_, ?_,rfl⟩ <;> simp(maxDischargeDepth:=6) only[aa,ab,Nat.reduceEqDiff,hr,o1]
  |true=>
  rw[hq]at jx
  cases hd:eF u.nm with
  |false=>
   right
   rw[if_pos (.inr hd)]at hr
   rw[hd]at gL
   simp(maxDischargeDepth:=6) only[qF,ae,ah,aa,aj,ab,an,splice,Nat.reduceAdd,Nat.reduceLT,Nat.reduceLeDiff,Nat.reduceEqDiff,gH,h1,hi,o1,i8.lenI,bt,bh,hG,jx,cA,gL,gf]
   refine⟨_,_,(by simp:Out.ret≠ .nrm),rfl,(leave _ (by decide) hr).symm,fun _=> ?_, ?_,rfl⟩ <;> simp(maxDischargeDepth:=6) only[aa,ab,Nat.reduceEqDiff,hr,o1]
  |true=>
  rw[if_neg (by simp[hd,hq])]at hr
  rw[hd]at gL
  by_cases hs:(u.sc,u.nm)∈seen
  ·right
   rw[if_pos hs]at hr
   simp only[hs,if_true,forall_const]at hD
   simp(maxDischargeDepth:=6) only[qF,ae,ah,aa,aj,ab,an,splice,Nat.reduceAdd,Nat.reduceLT,Nat.reduceLeDiff,Nat.reduceEqDiff,gH,h1,hi,o1,i8.lenI,bt,bh,hG,jx,cA,gL,gf,hD]
   refine⟨_,_,(by simp:Out.ret≠ .nrm),rfl,(leave _ (by decide) hr).symm,fun _=> ?_, ?_,rfl⟩ <;> simp(maxDischargeDepth:=6) only[aa,ab,Nat.reduceEqDiff,hr,o1,hi,h1,hD]
  rw[if_neg hs]at hr
  simp only[hs,if_false,false_implies,true_and]at hD
  by_cases hv:aW u.x=0
  ·left
   rw[if_neg (by simp[hv])]at hr
   rw[hv]at mA
   simp(maxDischargeDepth:=6) only[qF,ae,ah,aa,aj,ab,an,Nat.reduceShiftRight,Nat.reduceMod,splice,Nat.reduceAdd,Nat.reduceLT,Nat.reduceLeDiff,Nat.reduceEqDiff,gH,h1,hi,o1,i8.lenI,bt,bh,hG,cH.froz1,jx,cA,hw,gL,gf,hD,ub,mA,qe]
   refine⟨_,rfl,_,_,rfl, ?_, ?_, ?_,hr⟩
   all_goals (simp(maxDischargeDepth:=6) only[ae,aa,ab,Nat.reduceShiftRight,Nat.reduceMod,Nat.reduceEqDiff,h1,o1,ub])
  ·right
   rw[if_pos hv]at hr
   generalize aW u.x=e at*
   simp(maxDischargeDepth:=6) only[qF,ae,ah,aa,aj,ab,an,Nat.reduceShiftRight,Nat.reduceMod,splice,Nat.reduceAdd,Nat.reduceLT,Nat.reduceLeDiff,Nat.reduceEqDiff,gH,h1,hi,o1,i8.lenI,bt,bh,hG,cH.froz1,jx,cA,gL,gf,hD,ub,mA,qe,hv]
   refine⟨_,_,(by simp:Out.ret≠ .nrm),rfl,(leave _ hv hr).symm,fun _=> ?_, ?_,rfl⟩ <;> simp(maxDischargeDepth:=6) only[aa,ab,Nat.reduceEqDiff,hr,o1]
 ·rintro _ ⟨fr,aX,rfl,h1,hi,o1,hr⟩
  rw[List.drop_length,BD]at hr
  unfold bG at o1 ⊢
  simp(maxDischargeDepth:=6) only[ae,ah,aa,aj,ab,an,Nat.reduceLT,Nat.reduceEqDiff,gH,h1,hi,o1,i8.lenI,Int.lt_irrefl]
  exact⟨_,_,(by simp:Out.ext 4≠ .nrm),rfl,by rw[ho,hr];rfl,fun h=>absurd hr h,o1,rfl⟩
theorem adL(r:Int)(hr:r=G9 c.co)(o:Out)(ho:o=if r=0 then .ext 8 else .ret)(fr:Fr)(lh:aQ aB)(sh:List aB)
  (h1:ak fr 1= .ptr .L 1 1 0) (hi:ak fr 10= .i .i64 0) (o1:aq lh 1=⟨1,.cells (bG c a7 a8 a9 a10 bf ba) 0 true⟩):
  DC pE 235 (.loop iM) ⟨fr,lh,sh⟩=some (o,⟨cz pE 235 iM fr lh sh,bK pE 235 iM fr lh sh,cw pE 235 iM fr lh sh⟩)∧
  ((r≠0→ak (cz pE 235 iM fr lh sh) 2= .i .i64 r)∧aq (bK pE 235 iM fr lh sh) 1=⟨1,.cells (bG c a7 a8 a9 a10 bf ba) 0 true⟩∧cw pE 235 iM fr lh sh=sh):=by
 obtain⟨⟨c7,i7,j7⟩,⟨c8,i8,j8⟩,⟨c9,i9,j9⟩,⟨kQ,i10,jz⟩,⟨j2,i11,ju⟩,⟨ki,i12,jy⟩⟩:=hT
 have hlen:=hS.s9.2
 have gb:=hS.s9.1
 refine aD (P:=fun cO bp br=>(r≠0→ak cO 2= .i .i64 r)∧aq bp 1=⟨1,.cells (bG c a7 a8 a9 a10 bf ba) 0 true⟩∧br=sh)
  (aI (fun k st=> ∃(fr:Fr) (aX:aQ aB),st=⟨fr,aX,sh⟩∧ak fr 1= .ptr .L 1 1 0∧ak fr 10= .i .i64 (k:Int)∧aq aX 1=⟨1,.cells (bG c a7 a8 a9 a10 bf ba) 0 true⟩∧r=G9 (c.co.drop k)) _ c.co.length ?_ ?_ 0 _ (Nat.zero_le _) ⟨fr,lh,rfl,h1,hi,o1,by rw[hr];rfl⟩)
 ·rintro k _ hk ⟨fr,aX,rfl,h1,hi,o1,hr⟩
  have bt:(k:Int)<c.co.length:=by omega
  have lU:k≤c.co.length:=Nat.le_of_lt hk
  have hw:=aJ (k:=k) (by omega)
  rw[List.drop_eq_getElem_cons hk,G9]at hr
  have leave: ∀e:Int,e≠0→r=e→o= .ret:=fun e he h=>by rw[ho,h,if_neg he]
  obtain⟨b,cb,rr,bh,cH,hb⟩:=ri i9 j9 k hk
  obtain⟨xF,sd⟩:=gb c.co[k] (List.getElem_mem hk)
  have jx:=cZ c.co[k].sc 1 3
  have mA:=iW c.co[k].x _ hb sd
  generalize c.co[k]=u at*
  unfold bG at o1 ⊢
  cases hq:gF u.sc 1 3 with
  |false=>
   right
   rw[if_pos hq]at hr
   rw[hq]at jx
   simp(maxDischargeDepth:=6) only[qF,ae,ah,aa,aj,ab,an,Nat.reduceLT,Nat.reduceEqDiff,iM,h1,hi,o1,i9.lenI,bt,bh,jx,cA]
   refine⟨_,_,(by simp:Out.ret≠ .nrm),rfl,(leave _ (by decide) hr).symm,fun _=> ?_, ?_,rfl⟩ <;> simp(maxDischargeDepth:=6) only[aa,hr,o1]
  |true=>
  rw[if_neg (by simp[hq])]at hr
  rw[hq]at jx
  by_cases hv:aW u.x=0
  ·left
   rw[if_neg (by simp[hv])]at hr
   rw[hv]at mA
   simp(maxDischargeDepth:=6) only[qF,ae,ah,aa,aj,ab,an,Nat.reduceLT,Nat.reduceLeDiff,Nat.reduceEqDiff,iM,h1,hi,o1,i9.lenI,bt,bh,cH.froz1,jx,cA,hw,mA,qe]
   refine⟨_,rfl,_,_,rfl, ?_, ?_, ?_,hr⟩
   all_goals (simp(maxDischargeDepth:=6) only[aa,ab,Nat.reduceEqDiff,h1,o1])
  ·right
   rw[if_pos hv]at hr
   generalize aW u.x=e at*
   simp(maxDischargeDepth:=6) only[qF,ae,ah,aa,aj,ab,an,Nat.reduceLT,Nat.reduceLeDiff,Nat.reduceEqDiff,iM,h1,hi,o1,i9.lenI,bt,bh,cH.froz1,jx,cA,mA,qe,hv]
   refine⟨_,_,(by simp:Out.ret≠ .nrm),rfl,(leave _ hv hr).symm,fun _=> ?_, ?_,rfl⟩ <;> simp(maxDischargeDepth:=6) only[aa,hr,o1]
 ·rintro _ ⟨fr,aX,rfl,h1,hi,o1,hr⟩
  rw[List.drop_length,G9]at hr
  unfold bG at o1 ⊢
  simp(maxDischargeDepth:=6) only[ae,ah,aa,aj,ab,an,Nat.reduceLT,Nat.reduceEqDiff,iM,h1,hi,o1,i9.lenI,Int.lt_irrefl]
  exact⟨_,_,(by simp:Out.ext 8≠ .nrm),rfl,by rw[ho,hr];rfl,fun h=>absurd hr h,o1,rfl⟩
theorem adM(r:Int)(hr:r=Ha c.cr)(o:Out)(ho:o=if r=0 then .ext 10 else .ret)(fr:Fr)(lh:aQ aB)(sh:List aB)
  (h1:ak fr 1= .ptr .L 1 1 0) (hi:ak fr 12= .i .i64 0) (o1:aq lh 1=⟨1,.cells (bG c a7 a8 a9 a10 bf ba) 0 true⟩):
  DC pE 235 (.loop jK) ⟨fr,lh,sh⟩=some (o,⟨cz pE 235 jK fr lh sh,bK pE 235 jK fr lh sh,cw pE 235 jK fr lh sh⟩)∧
  ((r≠0→ak (cz pE 235 jK fr lh sh) 2= .i .i64 r)∧aq (bK pE 235 jK fr lh sh) 1=⟨1,.cells (bG c a7 a8 a9 a10 bf ba) 0 true⟩∧cw pE 235 jK fr lh sh=sh):=by
 obtain⟨⟨c7,i7,j7⟩,⟨c8,i8,j8⟩,⟨c9,i9,j9⟩,⟨kQ,i10,jz⟩,⟨j2,i11,ju⟩,⟨ki,i12,jy⟩⟩:=hT
 have hlen:=hS.s10.2
 have gb:=hS.s10.1
 refine aD (P:=fun cO bp br=>(r≠0→ak cO 2= .i .i64 r)∧aq bp 1=⟨1,.cells (bG c a7 a8 a9 a10 bf ba) 0 true⟩∧br=sh)
  (aI (fun k st=> ∃(fr:Fr) (aX:aQ aB),st=⟨fr,aX,sh⟩∧ak fr 1= .ptr .L 1 1 0∧ak fr 12= .i .i64 (k:Int)∧aq aX 1=⟨1,.cells (bG c a7 a8 a9 a10 bf ba) 0 true⟩∧r=Ha (c.cr.drop k)) _ c.cr.length ?_ ?_ 0 _ (Nat.zero_le _) ⟨fr,lh,rfl,h1,hi,o1,by rw[hr];rfl⟩)
 ·rintro k _ hk ⟨fr,aX,rfl,h1,hi,o1,hr⟩
  have bt:(k:Int)<c.cr.length:=by omega
  have lU:k≤c.cr.length:=Nat.le_of_lt hk
  have hw:=aJ (k:=k) (by omega)
  rw[List.drop_eq_getElem_cons hk,Ha]at hr
  have leave: ∀e:Int,e≠0→r=e→o= .ret:=fun e he h=>by rw[ho,h,if_neg he]
  obtain⟨b,cb,rr,bh,cH,nA,hb⟩:=dm i10 jz k hk
  obtain⟨xF,sd⟩:=gb c.cr[k] (List.getElem_mem hk)
  have mA:=iW c.cr[k] _ hb sd
  generalize c.cr[k]=u at*
  unfold bG at o1 ⊢
  by_cases hv:aW u=0
  ·left
   rw[if_neg (by simp[hv])]at hr
   rw[hv]at mA
   simp(maxDischargeDepth:=6) only[qF,ae,ah,aa,aj,ab,Nat.reduceLT,Nat.reduceLeDiff,Nat.reduceEqDiff,jK,h1,hi,o1,i10.lenI,bt,bh,cH.froz1,hw,mA,qe]
   refine⟨_,rfl,_,_,rfl, ?_, ?_, ?_,hr⟩
   all_goals (simp(maxDischargeDepth:=6) only[aa,ab,Nat.reduceEqDiff,h1,o1])
  ·right
   rw[if_pos hv]at hr
   generalize aW u=e at*
   simp(maxDischargeDepth:=6) only[qF,ae,ah,aa,aj,ab,an,Nat.reduceLT,Nat.reduceLeDiff,Nat.reduceEqDiff,jK,h1,hi,o1,i10.lenI,bt,bh,cH.froz1,mA,qe,hv]
   refine⟨_,_,(by simp:Out.ret≠ .nrm),rfl,(leave _ hv hr).symm,fun _=> ?_, ?_,rfl⟩ <;> simp(maxDischargeDepth:=6) only[aa,hr,o1]
 ·rintro _ ⟨fr,aX,rfl,h1,hi,o1,hr⟩
  rw[List.drop_length,Ha]at hr
  unfold bG at o1 ⊢
  simp(maxDischargeDepth:=6) only[ae,ah,aa,aj,ab,an,Nat.reduceLT,Nat.reduceEqDiff,jK,h1,hi,o1,i10.lenI,Int.lt_irrefl]
  exact⟨_,_,(by simp:Out.ext 10≠ .nrm),rfl,by rw[ho,hr];rfl,fun h=>absurd hr h,o1,rfl⟩
end
end Go.Proofs.YtfenhjpkomldcaaGreat
namespace Go.Proofs.YtfenhjpkomldcaaGreat
open Go Go.Ev
section
variable(c:Ct)(a7 a8 a9 a10 bf ba:T)(hT:zH c a7 a8 a9 a10 bf ba)(hS:tz c)
include hT hS
theorem Le:ai pE 73 [.agg (bG c a7 a8 a9 a10 bf ba)] []=some (.i .i64 (iC c),[]):=by
 have YM:=O6 c a7 a8 a9 a10 bf ba hT hS
 have hA:=fun fr lh sh h1 hi o1=>adJ c a7 a8 a9 a10 bf ba hT hS _ rfl _ rfl fr lh sh h1 hi o1
 have hB:=fun fr lh sh h1 hi o1=>adK c a7 a8 a9 a10 bf ba hT hS _ rfl _ rfl fr lh sh h1 hi o1
 have hL:=fun fr lh sh h1 hi o1=>adL c a7 a8 a9 a10 bf ba hT hS _ rfl _ rfl fr lh sh h1 hi o1
 have hM:=fun fr lh sh h1 hi o1=>adM c a7 a8 a9 a10 bf ba hT hS _ rfl _ rfl fr lh sh h1 hi o1
 obtain⟨⟨c7,i7,j7⟩,⟨c8,i8,j8⟩,⟨c9,i9,j9⟩,⟨kQ,i10,jz⟩,⟨j2,i11,ju⟩,⟨ki,i12,jy⟩⟩:=hT
 unfold bG at hA hB hL hM YM ⊢
 rw[aG Sn (by simp[nn])]
 unfold iC oq nB
 have w0:=cZ c.rp 0 1440
 have w1:=cZ c.rl 0 1440
 have w2:=cZ c.cn 0 1440
 have w3:=cZ c.st c.cn 1440
 have w4:=cZ c.ly 0 10080
 have w5:=cZ c.nf 0 1439
 have w6:=cZ c.nt 0 1439
 have w7:=cZ c.gu 0 599999
 cases q0:gF c.rp 0 1440 with
 |false=>
  rw[q0]at w0
  simp(maxDischargeDepth:=6) only[qF,ae,ah,aa,aj,ab,an,Nat.reduceLT,Nat.reduceEqDiff,nn,w0,cA]
 |true=>
 rw[q0]at w0
 cases q1:gF c.rl 0 1440 with
 |false=>
  rw[q1]at w1
  simp(maxDischargeDepth:=6) only[qF,ae,ah,aa,aj,ab,an,Nat.reduceLT,Nat.reduceEqDiff,nn,w0,w1,cA]
 |true=>
 rw[q1]at w1
 cases q2:gF c.cn 0 1440 with
 |false=>
  rw[q2]at w2
  simp(maxDischargeDepth:=6) only[qF,ae,ah,aa,aj,ab,an,Nat.reduceLT,Nat.reduceEqDiff,nn,w0,w1,w2,cA]
 |true=>
 rw[q2]at w2
 cases q3:gF c.st c.cn 1440 with
 |false=>
  rw[q3]at w3
  simp(maxDischargeDepth:=6) only[qF,ae,ah,aa,aj,ab,an,Nat.reduceLT,Nat.reduceEqDiff,nn,w0,w1,w2,w3,cA]
 |true=>
 rw[q3]at w3
 cases q4:gF c.ly 0 10080 with
 |false=>
  rw[q4]at w4
  simp(maxDischargeDepth:=6) only[qF,ae,ah,aa,aj,ab,an,Nat.reduceLT,Nat.reduceEqDiff,nn,w0,w1,w2,w3,w4,cA]
 |true=>
 rw[q4]at w4
 cases q5:gF c.nf 0 1439 with
 |false=>
  rw[q5]at w5
  simp(maxDischargeDepth:=6) only[qF,ae,ah,aa,aj,ab,an,Nat.reduceLT,Nat.reduceEqDiff,nn,w0,w1,w2,w3,w4,w5,cA]
 |true=>
 rw[q5]at w5
 cases q6:gF c.nt 0 1439 with
 |false=>
  rw[q6]at w6
  simp(maxDischargeDepth:=6) only[qF,ae,ah,aa,aj,ab,an,Nat.reduceLT,Nat.reduceEqDiff,nn,w0,w1,w2,w3,w4,w5,w6,cA]
 |true=>
 rw[q6]at w6
 cases q7:gF c.gu 0 599999 with
 |false=>
  rw[q7]at w7
  simp(maxDischargeDepth:=6) only[qF,ae,ah,aa,aj,ab,an,Nat.reduceLT,Nat.reduceEqDiff,nn,w0,w1,w2,w3,w4,w5,w6,w7,cA]
 |true=>
 rw[q7]at w7
 by_cases n0:(32:Int)<(c.cs.length:Int)
 ·have d0:decide (c.cs.length≤32)=false:=decide_eq_false (by omega)
  simp(maxDischargeDepth:=6) only[qF,ae,ah,aa,aj,ab,an,reduceCtorEq,Nat.reduceLT,Nat.reduceEqDiff,nn,i7.lenI,w0,w1,w2,w3,w4,w5,w6,w7,cA,n0,d0]
 have d0:decide (c.cs.length≤32)=true:=decide_eq_true (by omega)
 by_cases n1:(40:Int)<(c.ru.length:Int)
 ·have d1:decide (c.ru.length≤40)=false:=decide_eq_false (by omega)
  simp(maxDischargeDepth:=6) only[qF,ae,ah,aa,aj,ab,an,reduceCtorEq,Nat.reduceLT,Nat.reduceEqDiff,nn,i7.lenI,i8.lenI,w0,w1,w2,w3,w4,w5,w6,w7,cA,n0,n1,d0,d1]
 have d1:decide (c.ru.length≤40)=true:=decide_eq_true (by omega)
 by_cases n2:(16:Int)<(c.co.length:Int)
 ·have d2:decide (c.co.length≤16)=false:=decide_eq_false (by omega)
  simp(maxDischargeDepth:=6) only[qF,ae,ah,aa,aj,ab,an,reduceCtorEq,Nat.reduceLT,Nat.reduceEqDiff,nn,i7.lenI,i8.lenI,i9.lenI,w0,w1,w2,w3,w4,w5,w6,w7,cA,n0,n1,n2,d0,d1,d2]
 have d2:decide (c.co.length≤16)=true:=decide_eq_true (by omega)
 by_cases n3:(1:Int)<(c.cr.length:Int)
 ·have d3:decide (c.cr.length≤1)=false:=decide_eq_false (by omega)
  simp(maxDischargeDepth:=6) only[qF,ae,ah,aa,aj,ab,an,reduceCtorEq,Nat.reduceLT,Nat.reduceEqDiff,nn,i7.lenI,i8.lenI,i9.lenI,i10.lenI,w0,w1,w2,w3,w4,w5,w6,w7,cA,n0,n1,n2,n3,d0,d1,d2,d3]
 have d3:decide (c.cr.length≤1)=true:=decide_eq_true (by omega)
 by_cases n4:(16:Int)<(c.li.length:Int)
 ·have d4:decide (c.li.length≤16)=false:=decide_eq_false (by omega)
  simp(maxDischargeDepth:=6) only[qF,ae,ah,aa,aj,ab,an,reduceCtorEq,Nat.reduceLT,Nat.reduceEqDiff,nn,i7.lenI,i8.lenI,i9.lenI,i10.lenI,i11.lenI,w0,w1,w2,w3,w4,w5,w6,w7,cA,n0,n1,n2,n3,n4,d0,d1,d2,d3,d4]
 have d4:decide (c.li.length≤16)=true:=decide_eq_true (by omega)
 by_cases n5:(16:Int)<(c.fs.length:Int)
 ·have d5:decide (c.fs.length≤16)=false:=decide_eq_false (by omega)
  simp(maxDischargeDepth:=6) only[qF,ae,ah,aa,aj,ab,an,reduceCtorEq,Nat.reduceLT,Nat.reduceEqDiff,nn,i7.lenI,i8.lenI,i9.lenI,i10.lenI,i11.lenI,i12.lenI,w0,w1,w2,w3,w4,w5,w6,w7,cA,n0,n1,n2,n3,n4,n5,d0,d1,d2,d3,d4,d5]
 have d5:decide (c.fs.length≤16)=true:=decide_eq_true (by omega)
 rw[d0,d1,d2,d3,d4,d5]
 simp only[Bool.and_self,Bool.true_eq_false,if_false]
 by_cases e1:B5 [] c.cs=0
 ·rw[e1]at hA
  rw[if_neg (by simp[e1])]
  simp only[if_true,ne_eq,not_true_eq_false,false_implies,true_and]at hA
  by_cases e2:BD [] c.ru=0
  ·rw[e2]at hB
   rw[if_neg (by simp[e2])]
   simp only[if_true,ne_eq,not_true_eq_false,false_implies,true_and]at hB
   by_cases e3:G9 c.co=0
   ·rw[e3]at hL
    rw[if_neg (by simp[e3])]
    simp only[if_true,ne_eq,not_true_eq_false,false_implies,true_and]at hL
    by_cases e4:Ha c.cr=0
    ·rw[e4]at hM
     rw[if_neg (by simp[e4])]
     simp only[if_true,ne_eq,not_true_eq_false,false_implies,true_and]at hM
     simp(maxDischargeDepth:=6) only[qF,ae,ah,aa,aj,ab,an,Nat.reduceShiftRight,Nat.reduceMod,Nat.reduceAdd,Nat.reduceLT,Nat.reduceEqDiff,nn,HK,zV,uc,qa,i7.lenI,i8.lenI,i9.lenI,i10.lenI,i11.lenI,i12.lenI,i7.froz1,i8.froz1,i9.froz1,i10.froz1,i11.froz1,i12.froz1,w0,w1,w2,w3,w4,w5,w6,w7,cA,n0,n1,n2,n3,n4,n5,hA,hB,hL,hM,YM,We]
    ·rw[if_pos e4]
     simp only[e4,if_false,ne_eq,not_false_eq_true,forall_const]at hM
     simp(maxDischargeDepth:=6) only[qF,ae,ah,aa,aj,ab,an,Nat.reduceShiftRight,Nat.reduceMod,Nat.reduceLT,Nat.reduceEqDiff,nn,zV,uc,qa,i7.lenI,i8.lenI,i9.lenI,i10.lenI,i11.lenI,i12.lenI,w0,w1,w2,w3,w4,w5,w6,w7,cA,n0,n1,n2,n3,n4,n5,hA,hB,hL,hM]
   ·rw[if_pos e3]
    simp only[e3,if_false,ne_eq,not_false_eq_true,forall_const]at hL
    simp(maxDischargeDepth:=6) only[qF,ae,ah,aa,aj,ab,an,Nat.reduceShiftRight,Nat.reduceMod,Nat.reduceLT,Nat.reduceEqDiff,nn,uc,qa,i7.lenI,i8.lenI,i9.lenI,i10.lenI,i11.lenI,i12.lenI,w0,w1,w2,w3,w4,w5,w6,w7,cA,n0,n1,n2,n3,n4,n5,hA,hB,hL]
  ·rw[if_pos e2]
   simp only[e2,if_false,ne_eq,not_false_eq_true,forall_const]at hB
   simp(maxDischargeDepth:=6) only[qF,ae,ah,aa,aj,ab,an,Nat.reduceShiftRight,Nat.reduceMod,Nat.reduceLT,Nat.reduceEqDiff,nn,qa,i7.lenI,i8.lenI,i9.lenI,i10.lenI,i11.lenI,i12.lenI,w0,w1,w2,w3,w4,w5,w6,w7,cA,n0,n1,n2,n3,n4,n5,hA,hB]
 ·rw[if_pos e1]
  simp only[e1,if_false,ne_eq,not_false_eq_true,forall_const]at hA
  simp(maxDischargeDepth:=6) only[qF,ae,ah,aa,aj,ab,an,Nat.reduceLT,Nat.reduceEqDiff,nn,i7.lenI,i8.lenI,i9.lenI,i10.lenI,i11.lenI,i12.lenI,w0,w1,w2,w3,w4,w5,w6,w7,cA,n0,n1,n2,n3,n4,n5,hA]
end
end Go.Proofs.YtfenhjpkomldcaaGreat
namespace Go.Proofs.YtfenhjpkomldcaaGreat
open Go Go.Ev
def wE(s:List Nat):Prop:=dI 1 s≠0∨dI 2 s≠0∨dI 3 s≠0
instance (s:List Nat):Decidable (wE s):=by unfold wE;infer_instance
def Hd(l:Cs):Nat→Cs→Int
 |_,[]=>0
 |k,c::r=>if wE c.1 then 7 else if(nJ l k).2≠0 then(nJ l k).2 else Hd l (k+1) r
def xK(l:Cs)(scope:Int)(x:Ex)(want:Int):Int:=if(cV l scope x).2=0∧(cV l scope x).1≠want then 9 else(cV l scope x).2
def He(l:Cs):List Ru→Int
 | []=>0
 |u::r=>if xK l u.sc u.x 4≠0 then xK l u.sc u.x 4 else He l r
def B7(l:Cs):List Co→Int
 | []=>0
 |u::r=>if xK l u.sc u.x 1≠0 then xK l u.sc u.x 1 else B7 l r
def HA(l:Cs):List Ex→Int
 | []=>0
 |x::r=>if xK l 1 x 2≠0 then xK l 1 x 2 else HA l r
def lb(c:Ct):Int:=if iC c≠0 then iC c else if Hd c.cs 0 c.cs≠0 then Hd c.cs 0 c.cs else if He c.cs c.ru≠0 then He c.cs c.ru else if B7 c.cs c.co≠0 then B7 c.cs c.co else HA c.cs c.cr
def nj(l:Cs)(lT:T)(sh:List aB):Prop:= ∃kn,sh=rC lT (fq l l.length) kn∧rj l kn
def YP(s:List Nat)(j:Nat):Prop:= ∀i:Nat,i<j→dI ((i:Int)+1) s=0
theorem adN(s:List Nat)(r6:List T)(G:Nat)(o:Out)(ho:o=if wE s then .ret else .ext 2)(fr:Fr)(lh:aQ aB)(sh:List aB)(g6:ak fr 6= .ptr .L 6 G 0)(g7:ak fr 7= .i .i64 1)(o6:aq lh 6=⟨G,.cells (.s s::r6) 0 true⟩):
  DC pE 115 (.loop jJ) ⟨fr,lh,sh⟩=some (o,⟨cz pE 115 jJ fr lh sh,bK pE 115 jJ fr lh sh,cw pE 115 jJ fr lh sh⟩)∧((wE s→ak (cz pE 115 jJ fr lh sh) 2= .i .i64 7)∧bK pE 115 jJ fr lh sh=lh∧cw pE 115 jJ fr lh sh=sh):=by
 refine aD (P:=fun cO bp br=>(wE s→ak cO 2= .i .i64 7)∧bp=lh∧br=sh) (aI (fun j st=> ∃fr:Fr,st=⟨fr,lh,sh⟩∧ak fr 6= .ptr .L 6 G 0∧ak fr 7= .i .i64 ((j:Int)+1)∧YP s j) _ 3 ?_ ?_ 0 _ (Nat.zero_le _) ⟨fr,rfl,g6,g7,fun i h=>by omega⟩)
 ·rintro j _ hj ⟨fr,rfl,g6,g7,t⟩
  have ga:=vo ((j:Int)+1) s
  unfold lC at ga
  have hle:(j:Int)+1≤3:=by omega
  have hw:wr .i64 ((j:Int)+1+1)=((j+1:Nat):Int)+1:=by
   have:=aJ (k:=j+1) (cm (by omega))
   push_cast at this ⊢
   exact this
  by_cases hz:dI ((j:Int)+1) s=0
  ·left
   rw[if_pos hz,hz]at ga
   simp(maxDischargeDepth:=6) only[qF,ae,ah,aa,aj,ab,an,Nat.reduceLT,Nat.reduceEqDiff,Int.reduceEq,jJ,g6,g7,o6,hle,hw,ga,Aa]
   refine⟨_,rfl,_,rfl, ?_, ?_, ?_⟩
   ·simp(maxDischargeDepth:=6) only[aa,ab,Nat.reduceEqDiff,g6]
   ·simp(maxDischargeDepth:=6) only[aa]
   ·intro i h
    by_cases e:i=j
    ·subst e;exact hz
    ·exact t i (by omega)
  ·right
   rw[if_neg hz]at ga
   have hk:wE s:=by
    unfold wE
    have:j=0∨j=1∨j=2:=by omega
    rcases this with rfl|rfl|rfl
    ·exact .inl hz
    ·exact .inr (.inl hz)
    ·exact .inr (.inr hz)
   simp(maxDischargeDepth:=6) only[qF,ae,ah,aa,aj,ab,an,Nat.reduceLT,Nat.reduceEqDiff,jJ,g6,g7,o6,hle,ga,Aa]
   exact⟨_,_,(by simp:Out.ret≠ .nrm),rfl,by rw[ho,if_pos hk],fun _=>by simp(maxDischargeDepth:=6) only[aa],rfl,rfl⟩
 ·rintro _ ⟨fr,rfl,g6,g7,t⟩
  have hk: ¬wE s:=by
   unfold wE
   rintro(h|h|h)
   ·exact h (t 0 (by decide))
   ·exact h (t 1 (by decide))
   ·exact h (t 2 (by decide))
  rw[show((3:Nat):Int)+1=4 from rfl]at g7
  simp(maxDischargeDepth:=6) only[ae,ah,aa,ab,an,Nat.reduceLT,Int.reduceLE,jJ,g7]
  exact⟨_,_,(by simp:Out.ext 2≠ .nrm),rfl,by rw[ho,if_neg hk],fun h=>absurd h hk,rfl,rfl⟩
section
variable(l:Cs)(lT:T)(cl:List T)(hl:aR lT l.length cl)(eA:dK l cl)(hlen:l.length≤eG)(gb:E0 l)
include hl eA hlen gb
theorem zd(scope want:Int)(x:Ex)(cs:List T)(hx:bE x cs)(hn:B6 x)(sh:List aB)(fi:nj l lT sh): ∃br,ai pE 115 [.ptr .S 2 1 0,.i .i64 scope,.i .i64 (l.length:Int),.agg cs,.i .i64 want] sh=some (.i .i64 (xK l scope x want),br)∧nj l lT br:=by
 obtain⟨kn,rfl,tA⟩:=fi
 obtain⟨gU,az,vF,_⟩:=Dt l lT cl hl eA hlen l.length (Nat.le_refl _) (fun j hj=>Du l lT cl hl eA hlen gb j hj) scope x cs hx hn.1 hn.2 kn tA
 have he:BK l l.length scope x=cV l scope x:=by unfold BK cV wA;rw[List.take_length]
 rw[he]at az
 obtain⟨a,cc,rfl,ha,mH⟩:=hx.cells
 rw[aG PT (by simp[Cc])]
 unfold xK
 generalize cV l scope x=q at*
 obtain⟨q1,q2⟩:=q
 simp only at az ⊢
 by_cases h2:q2=0
 ·subst h2
  by_cases h1:q1=want
  ·subst h1
   simp(maxDischargeDepth:=6) only[qF,ae,ah,aa,aj,ab,an,Nat.reduceAdd,reduceCtorEq,Nat.reduceLT,Nat.reduceEqDiff,fW,Cc,az,FR,ha.kept1]
   exact⟨_,rfl,gU,rfl,vF⟩
  ·simp(maxDischargeDepth:=6) only[qF,ae,ah,aa,aj,ab,an,Nat.reduceAdd,reduceCtorEq,Nat.reduceLT,Nat.reduceEqDiff,fW,Cc,az,FR,ha.kept1,h1]
   exact⟨_,rfl,gU,rfl,vF⟩
 ·simp(maxDischargeDepth:=6) only[qF,ae,ah,aa,aj,ab,an,Nat.reduceAdd,reduceCtorEq,Nat.reduceLT,Nat.reduceEqDiff,fW,Cc,az,FR,ha.kept1,h2]
  exact⟨_,rfl,gU,rfl,vF⟩
end
section
variable(c:Ct)(a7 a8 a9 a10 bf ba:T)(hT:zH c a7 a8 a9 a10 bf ba)(hS:tz c)
include hT hS
theorem adO(r:Int)(hr:r=Hd c.cs 0 c.cs)(o:Out)(ho:o=if r=0 then .ext 0 else .ret)(c1:aB)(fr:Fr)(lh:aQ aB)(sh:List aB)(fi:nj c.cs a7 sh)
  (h4:ak fr 4= .ptr .S 2 1 0) (O7:ak fr 31=a7) (L3:ak fr 32= .i .i64 (c.cs.length:Int)) (O8:ak fr 33= .i .i64 0) (o1:aq lh 1=c1):
  DC pE 115 (.loop iL) ⟨fr,lh,sh⟩=some (o,⟨cz pE 115 iL fr lh sh,bK pE 115 iL fr lh sh,cw pE 115 iL fr lh sh⟩)∧
  ((r≠0→ak (cz pE 115 iL fr lh sh) 2= .i .i64 r)∧aq (bK pE 115 iL fr lh sh) 1=c1∧nj c.cs a7 (cw pE 115 iL fr lh sh)):=by
 obtain⟨⟨c7,i7,j7⟩,⟨c8,i8,j8⟩,⟨c9,i9,j9⟩,⟨kQ,i10,jz⟩,⟨j2,i11,ju⟩,⟨ki,i12,jy⟩⟩:=hT
 have hlen:=hS.s7.2
 refine aD (P:=fun cO bp br=>(r≠0→ak cO 2= .i .i64 r)∧aq bp 1=c1∧nj c.cs a7 br)
  (aI (fun k st=> ∃(fr:Fr) (aX:aQ aB) (v5:List aB),st=⟨fr,aX,v5⟩∧nj c.cs a7 v5∧ak fr 4= .ptr .S 2 1 0∧ak fr 31=a7∧ak fr 32= .i .i64 (c.cs.length:Int)∧ak fr 33= .i .i64 (k:Int)∧aq aX 1=c1∧r=Hd c.cs k (c.cs.drop k)) _ c.cs.length ?_ ?_ 0 _ (Nat.zero_le _) ⟨fr,lh,sh,rfl,fi,h4,O7,L3,O8,o1,by rw[hr];rfl⟩)
 ·rintro k _ hk ⟨fr,aX,v5,rfl,⟨kn,rfl,tA⟩,h4,O7,L3,O8,o1,hr⟩
  have bt:(k:Int)<c.cs.length:=by omega
  have hw:=aJ (k:=k) (by omega)
  rw[List.drop_eq_getElem_cons hk,Hd]at hr
  have leave: ∀e:Int,e≠0→r=e→o= .ret:=fun e he h=>by rw[ho,h,if_neg he]
  obtain⟨b,cb,rr,bh,cH,nA,hb⟩:=dL i7 j7 k hk
  obtain⟨gU,az,vF,_⟩:=Du c.cs a7 c7 i7 j7 hlen hS.s7.1 k hk kn tA
  generalize c.cs[k]=u at*
  generalize hG:(aq aX 6).g+1=G
  have hD:=fun fr lh sh g6 g7 o6=>adN u.1 [.i .i64 u.2.op,.i .i64 u.2.num,.s u.2.name,b] G _ rfl fr lh sh g6 g7 o6
  by_cases hs:wE u.1
  ·right
   rw[if_pos hs]at hr
   simp only[hs,if_true,forall_const]at hD
   simp(maxDischargeDepth:=6) only[ae,ah,aa,aj,ab,an,splice,Nat.reduceAdd,Nat.reduceLT,Nat.reduceLeDiff,Nat.reduceEqDiff,iL,O7,L3,O8,bt,bh,hG,hD]
   refine⟨_,_,(by simp:Out.ret≠ .nrm),rfl,(leave _ (by decide) hr).symm,fun _=> ?_, ?_,kn, ?_,tA⟩ <;> simp(maxDischargeDepth:=6) only[aa,ab,Nat.reduceEqDiff,hr,o1,hD]
  rw[if_neg hs]at hr
  simp only[hs,if_false,false_implies,true_and]at hD
  generalize nJ c.cs k=q at*
  obtain⟨q1,q2⟩:=q
  simp only at az hr
  by_cases hv:q2=0
  ·left
   rw[if_neg (by simp[hv])]at hr
   subst hv
   simp(maxDischargeDepth:=6) only[qF,ae,ah,aa,aj,ab,an,Nat.reduceShiftRight,Nat.reduceMod,splice,Nat.reduceAdd,Nat.reduceLT,Nat.reduceLeDiff,Nat.reduceEqDiff,fW,iL,h4,O7,L3,O8,bt,bh,hw,hG,hD,ua,az,Iy]
   refine⟨_,rfl,_,_,_,rfl,⟨gU,rfl,vF⟩, ?_, ?_, ?_, ?_, ?_,hr⟩
   all_goals (simp(maxDischargeDepth:=6) only[ae,aa,ab,Nat.reduceShiftRight,Nat.reduceMod,Nat.reduceEqDiff,h4,O7,L3,o1,ua])
  ·right
   rw[if_pos hv]at hr
   simp(maxDischargeDepth:=6) only[qF,ae,ah,aa,aj,ab,an,Nat.reduceShiftRight,Nat.reduceMod,splice,Nat.reduceAdd,Nat.reduceLT,Nat.reduceLeDiff,Nat.reduceEqDiff,fW,iL,h4,O7,L3,O8,bt,bh,hG,hD,ua,az,Iy,hv]
   refine⟨_,_,(by simp:Out.ret≠ .nrm),rfl,(leave _ hv hr).symm,fun _=> ?_, ?_,gU, ?_,vF⟩ <;> simp(maxDischargeDepth:=6) only[aa,ab,Nat.reduceEqDiff,hr,o1]
 ·rintro _ ⟨fr,aX,v5,rfl,fi,h4,O7,L3,O8,o1,hr⟩
  rw[List.drop_length,Hd]at hr
  simp(maxDischargeDepth:=6) only[ae,ah,aa,ab,an,Nat.reduceLT,iL,L3,O8,Int.lt_irrefl]
  exact⟨_,_,(by simp:Out.ext 0≠ .nrm),rfl,by rw[ho,hr];rfl,fun h=>absurd hr h,o1,fi⟩
end
end Go.Proofs.YtfenhjpkomldcaaGreat
