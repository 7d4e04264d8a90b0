/- The reference's check of a contract's windows, as a whole. The reference's check of a contract's form: its loops. The reference's check of a contract's form, as a whole. Conditions: the theorems' own. -/
import Derived.Test.YtblcbheipjeoeaaGreatM10
import Derived.KernelRfl
set_option maxRecDepth 100000
set_option linter.unusedSimpArgs false
set_option linter.unusedVariables false
set_option maxHeartbeats 16000000
namespace Go.Proofs.YtblcbheipjeoeaaGreat
open Go Go.Ev
section
variable(c:Ct)(a7 a8 a9 a10 fB fA:T)(hT:xu c a7 a8 a9 a10 fB fA)(hS:A8 c)
include hT hS
theorem anh(r:Int)(hr:r=MS [] c.li)(o:Out)(ho:o=if r=0 then .ext 0 else .ret)(fr:Fr)(lh:fC fg)(sh:List fg)
  (h1:an fr 1= .ptr .L 1 1 0) (h3:an fr 3= .i .i64 0) (o1:be lh 1=⟨1,.cells (fX c a7 a8 a9 a10 fB fA) 0 true⟩):
  DC pE 112 (.loop jV) ⟨fr,lh,sh⟩=some (o,⟨gr pE 112 jV fr lh sh,gp pE 112 jV fr lh sh,gn pE 112 jV fr lh sh⟩)∧
  ((r≠0→an (gr pE 112 jV fr lh sh) 2= .i .i64 r)∧be (gp pE 112 jV fr lh sh) 1=⟨1,.cells (fX c a7 a8 a9 a10 fB fA) 0 true⟩∧gn pE 112 jV fr lh sh=sh):=by
 obtain⟨⟨c7,i7,j7⟩,⟨c8,i8,j8⟩,⟨c9,i9,j9⟩,⟨pw,i10,rY⟩,⟨pX,i11,tu⟩,⟨qD,i12,tT⟩⟩:=hT
 have hlen:=hS.s11
 refine fq (P:=fun fR fH fL=>(r≠0→an fR 2= .i .i64 r)∧be fH 1=⟨1,.cells (fX c a7 a8 a9 a10 fB fA) 0 true⟩∧fL=sh)
  (fw (fun k st=> ∃(fr:Fr) (fG:fC fg),st=⟨fr,fG,sh⟩∧an fr 1= .ptr .L 1 1 0∧an fr 3= .i .i64 (k:Int)∧be fG 1=⟨1,.cells (fX c a7 a8 a9 a10 fB fA) 0 true⟩∧r=MS ((c.li.map Li.nm).take k) (c.li.drop k)) _ c.li.length ?_ ?_ 0 _ (Nat.zero_le _) ⟨fr,lh,rfl,h1,h3,o1,by rw[hr];rfl⟩)
 ·rintro k _ hk ⟨fr,fG,rfl,h1,h3,o1,hr⟩
  have fK:(k:Int)<c.li.length:=by omega
  have hw:=fQ (k:=k) (by omega)
  obtain⟨rr,fF⟩:=Kz i11 tu k hk
  have mI:=rW c.li[k].nm
  obtain⟨me,aic,QW⟩:=Q4 c.li[k].me
  have oR:=iF c.li[k].mo 0 599999
  have qJ:=iF c.li[k].da 1 31
  have pR:k≤c.li.length:=Nat.le_of_lt hk
  rw[List.drop_eq_getElem_cons hk,MS]at hr
  have FM:(c.li.map Li.nm).take (k+1)=(c.li.map Li.nm).take k++ [c.li[k].nm]:=by rw[List.take_succ_eq_append_getElem (by rw[List.length_map];exact hk),List.getElem_map]
  rw[FM]
  generalize c.li[k]=u at*
  have hD:=fun G4 fr lh sh g1 g3 g4 gi o1 o4=>ane c.li fB pX i11 tu hlen k pR u.nm _ rfl c a7 a8 a9 a10 fA [.s u.me,.i .i64 u.mo,.i .i64 u.da] 1 G4 fr lh sh g1 g3 g4 gi o1 o4
  generalize hG:(be fG 4).g+1=G
  have hD:=fun fr lh sh g1 g3 g4 gi o1 o4=>hD G fr lh sh g1 g3 g4 gi o1 o4
  generalize (c.li.map Li.nm).take k=seen at*
  have leave: ∀e:Int,e≠0→r=e→o= .ret:=fun e he h=>by rw[ho,h,if_neg he]
  unfold fX at o1 hD ⊢
  cases hd:kr u.nm with
  |false=>
   right
   rw[if_pos hd]at hr
   rw[hd]at mI
   simp(maxDischargeDepth:=6) only[qA,seval,jV,h1,h3,o1,i11.lenI,fK,fF,hG,mI,lZ]
   refine⟨_,_,(by simp:Out.ret≠ .nrm),rfl,(leave _ (by decide) hr).symm,fun _=> ?_, ?_,rfl⟩ <;> simp(maxDischargeDepth:=6) only[qA,seval,hr,o1]
  |true=>
  rw[if_neg (by simp[hd])]at hr
  rw[hd]at mI
  by_cases hs:u.nm∈seen
  ·right
   rw[if_pos hs]at hr
   simp only[hs,if_true,forall_const]at hD
   simp(maxDischargeDepth:=6) only[qA,seval,jV,h1,h3,o1,i11.lenI,fK,fF,hG,mI,lZ,hD]
   refine⟨_,_,(by simp:Out.ret≠ .nrm),rfl,(leave _ (by decide) hr).symm,fun _=> ?_, ?_,rfl⟩ <;> simp(maxDischargeDepth:=6) only[qA,seval,hr,o1,hD,h1,h3]
  rw[if_neg hs]at hr
  simp only[hs,if_false,false_implies,true_and]at hD
  by_cases hm:GF u.me=0
  ·right
   rw[if_pos hm]at hr
   rw[aic.2 hm]at QW
   simp(maxDischargeDepth:=6) only[qA,seval,jV,h1,h3,o1,i11.lenI,fK,fF,hG,mI,lZ,hD,rD,QW,JP]
   refine⟨_,_,(by simp:Out.ret≠ .nrm),rfl,(leave _ (by decide) hr).symm,fun _=> ?_, ?_,rfl⟩ <;> simp(maxDischargeDepth:=6) only[qA,seval,hr,o1]
  rw[if_neg hm]at hr
  have ZH: ¬me=0:=fun h=>hm (aic.1 h)
  cases xt:kj u.mo 0 599999 with
  |false=>
   right
   rw[if_pos (.inl xt)]at hr
   rw[xt]at oR
   simp(maxDischargeDepth:=6) only[qA,seval,jV,h1,h3,o1,i11.lenI,fK,fF,hG,mI,lZ,hD,rD,QW,JP,ZH,oR,gT]
   refine⟨_,_,(by simp:Out.ret≠ .nrm),rfl,(leave _ (by decide) hr).symm,fun _=> ?_, ?_,rfl⟩ <;> simp(maxDischargeDepth:=6) only[qA,seval,hr,o1]
  |true=>
  rw[xt]at oR
  cases wJ:kj u.da 1 31 with
  |false=>
   right
   rw[if_pos (.inr wJ)]at hr
   rw[wJ]at qJ
   simp(maxDischargeDepth:=6) only[qA,seval,jV,h1,h3,o1,i11.lenI,fK,fF,hG,mI,lZ,hD,rD,QW,JP,ZH,oR,qJ,gT]
   refine⟨_,_,(by simp:Out.ret≠ .nrm),rfl,(leave _ (by decide) hr).symm,fun _=> ?_, ?_,rfl⟩ <;> simp(maxDischargeDepth:=6) only[qA,seval,hr,o1]
  |true=>
   left
   rw[if_neg (by simp[xt,wJ])]at hr
   rw[wJ]at qJ
   simp(maxDischargeDepth:=6) only[qA,seval,jV,h1,h3,o1,i11.lenI,fK,fF,hw,hG,mI,lZ,hD,rD,QW,JP,ZH,oR,qJ,gT]
   refine⟨_,rfl,_,_,rfl, ?_, ?_, ?_,hr⟩
   all_goals (simp(maxDischargeDepth:=6) only[qA,seval,h1,o1,rD])
 ·rintro _ ⟨fr,fG,rfl,h1,h3,o1,hr⟩
  rw[List.drop_length,MS]at hr
  unfold fX at o1 ⊢
  simp(maxDischargeDepth:=6) only[qA,seval,jV,h1,h3,o1,i11.lenI,Int.lt_irrefl]
  exact⟨_,_,(by simp:Out.ext 0≠ .nrm),rfl,by rw[ho,hr];rfl,fun h=>absurd hr h,o1,rfl⟩
theorem ani(r:Int)(hr:r=Ny (c.li.map Li.nm) c.fs)(o:Out)(ho:o=if r=0 then .ext 4 else .ret)(fr:Fr)(lh:fC fg)(sh:List fg)
  (h1:an fr 1= .ptr .L 1 1 0) (h6:an fr 6= .i .i64 0) (o1:be lh 1=⟨1,.cells (fX c a7 a8 a9 a10 fB fA) 0 true⟩):
  DC pE 112 (.loop ko) ⟨fr,lh,sh⟩=some (o,⟨gr pE 112 ko fr lh sh,gp pE 112 ko fr lh sh,gn pE 112 ko fr lh sh⟩)∧
  ((r≠0→an (gr pE 112 ko fr lh sh) 2= .i .i64 r)∧gn pE 112 ko fr lh sh=sh):=by
 obtain⟨⟨c7,i7,j7⟩,⟨c8,i8,j8⟩,⟨c9,i9,j9⟩,⟨pw,i10,rY⟩,⟨pX,i11,tu⟩,⟨qD,i12,tT⟩⟩:=hT
 have hlen:=hS.s12
 refine fq (P:=fun fR fH fL=>(r≠0→an fR 2= .i .i64 r)∧fL=sh)
  (fw (fun k st=> ∃(fr:Fr) (fG:fC fg),st=⟨fr,fG,sh⟩∧an fr 1= .ptr .L 1 1 0∧an fr 6= .i .i64 (k:Int)∧be fG 1=⟨1,.cells (fX c a7 a8 a9 a10 fB fA) 0 true⟩∧r=Ny (c.li.map Li.nm++(c.fs.map Of.nm).take k) (c.fs.drop k)) _ c.fs.length ?_ ?_ 0 _ (Nat.zero_le _) ⟨fr,lh,rfl,h1,h6,o1,by rw[hr];simp⟩)
 ·rintro k _ hk ⟨fr,fG,rfl,h1,h6,o1,hr⟩
  have fK:(k:Int)<c.fs.length:=by omega
  have hw:=fQ (k:=k) (by omega)
  obtain⟨rr,fF⟩:=Q0 i12 tT k hk
  have mI:=rW c.fs[k].nm
  have oR:=iF c.fs[k].da 1 31
  have qJ:=iF c.fs[k].ct 1 c.fs[k].da
  have pR:k≤c.fs.length:=Nat.le_of_lt hk
  rw[List.drop_eq_getElem_cons hk,Ny]at hr
  have FM:c.li.map Li.nm++(c.fs.map Of.nm).take (k+1)=(c.li.map Li.nm++(c.fs.map Of.nm).take k)++ [c.fs[k].nm]:=by rw[List.take_succ_eq_append_getElem (by rw[List.length_map];exact hk),List.getElem_map,List.append_assoc]
  rw[FM]
  generalize c.fs[k]=u at*
  have hD:=fun G7 fr lh sh g1 g7 gi o1 o7=>anf c.li fB pX i11 tu hS.s11 c.li.length (Nat.le_refl _) u.nm _ rfl c a7 a8 a9 a10 fA [.i .i64 u.ct,.i .i64 u.da] 1 G7 fr lh sh g1 g7 gi rfl o1 o7
  have hE:=fun G7 fr lh sh g1 g6 g7 gi o1 o7=>ang c.fs fA qD i12 tT hlen k pR u.nm _ rfl c a7 a8 a9 a10 fB [.i .i64 u.ct,.i .i64 u.da] 1 G7 fr lh sh g1 g6 g7 gi o1 o7
  rw[show(c.li.map Li.nm).take c.li.length=c.li.map Li.nm from List.take_of_length_le (by rw[List.length_map];exact Nat.le_refl _)]at hD
  generalize hG:(be fG 7).g+1=G
  have hD:=fun fr lh sh g1 g7 gi o1 o7=>hD G fr lh sh g1 g7 gi o1 o7
  have hE:=fun fr lh sh g1 g6 g7 gi o1 o7=>hE G fr lh sh g1 g6 g7 gi o1 o7
  generalize hsd:(c.fs.map Of.nm).take k=seen at*
  generalize hld:c.li.map Li.nm=lim at*
  have leave: ∀e:Int,e≠0→r=e→o= .ret:=fun e he h=>by rw[ho,h,if_neg he]
  unfold fX at o1 hD hE ⊢
  cases hd:kr u.nm with
  |false=>
   right
   rw[if_pos hd]at hr
   rw[hd]at mI
   simp(maxDischargeDepth:=6) only[qA,seval,ko,h1,h6,o1,i12.lenI,fK,fF,hG,mI,lZ]
   refine⟨_,_,(by simp:Out.ret≠ .nrm),rfl,(leave _ (by decide) hr).symm,fun _=> ?_,rfl⟩
   simp(maxDischargeDepth:=6) only[qA,seval,hr]
  |true=>
  rw[if_neg (by simp[hd])]at hr
  rw[hd]at mI
  by_cases hs:u.nm∈lim
  ·right
   rw[if_pos (List.mem_append.2 (.inl hs))]at hr
   simp only[hs,if_true,forall_const]at hD
   simp(maxDischargeDepth:=6) only[qA,seval,ko,h1,h6,o1,i12.lenI,fK,fF,hG,mI,lZ,hD]
   refine⟨_,_,(by simp:Out.ret≠ .nrm),rfl,(leave _ (by decide) hr).symm,fun _=> ?_,rfl⟩
   simp(maxDischargeDepth:=6) only[qA,seval,hr,o1,hD,h1]
  simp only[hs,if_false,false_implies,true_and]at hD
  by_cases ht:u.nm∈seen
  ·right
   rw[if_pos (List.mem_append.2 (.inr ht))]at hr
   simp only[ht,if_true,forall_const]at hE
   simp(maxDischargeDepth:=6) only[qA,seval,ko,h1,h6,o1,i12.lenI,fK,fF,hG,mI,lZ,hD,hE,pS]
   refine⟨_,_,(by simp:Out.ret≠ .nrm),rfl,(leave _ (by decide) hr).symm,fun _=> ?_,rfl⟩
   simp(maxDischargeDepth:=6) only[qA,seval,hr,o1,hE,h1,h6,pS]
  rw[if_neg (by intro h;rcases List.mem_append.1 h with h|h;exact hs h;exact ht h)]at hr
  simp only[ht,if_false,false_implies,true_and]at hE
  cases xt:kj u.da 1 31 with
  |false=>
   right
   rw[if_pos (.inl xt)]at hr
   rw[xt]at oR
   simp(maxDischargeDepth:=6) only[qA,seval,ko,h1,h6,o1,i12.lenI,fK,fF,hG,mI,lZ,hD,hE,pS,ui,oR,gT]
   refine⟨_,_,(by simp:Out.ret≠ .nrm),rfl,(leave _ (by decide) hr).symm,fun _=> ?_,rfl⟩
   simp(maxDischargeDepth:=6) only[qA,seval,hr]
  |true=>
  rw[xt]at oR
  cases wJ:kj u.ct 1 u.da with
  |false=>
   right
   rw[if_pos (.inr wJ)]at hr
   rw[wJ]at qJ
   simp(maxDischargeDepth:=6) only[qA,seval,ko,h1,h6,o1,i12.lenI,fK,fF,hG,mI,lZ,hD,hE,pS,ui,oR,qJ,gT]
   refine⟨_,_,(by simp:Out.ret≠ .nrm),rfl,(leave _ (by decide) hr).symm,fun _=> ?_,rfl⟩
   simp(maxDischargeDepth:=6) only[qA,seval,hr]
  |true=>
   left
   rw[if_neg (by simp[xt,wJ])]at hr
   rw[wJ]at qJ
   simp(maxDischargeDepth:=6) only[qA,seval,ko,h1,h6,o1,i12.lenI,fK,fF,hw,hG,mI,lZ,hD,hE,pS,ui,oR,qJ,gT]
   refine⟨_,rfl,_,_,rfl, ?_, ?_, ?_,hr⟩
   all_goals (simp(maxDischargeDepth:=6) only[qA,seval,h1,o1,pS,ui])
 ·rintro _ ⟨fr,fG,rfl,h1,h6,o1,hr⟩
  rw[List.drop_length,Ny]at hr
  unfold fX at o1
  simp(maxDischargeDepth:=6) only[qA,seval,ko,h1,h6,o1,i12.lenI,Int.lt_irrefl]
  exact⟨_,_,(by simp:Out.ext 4≠ .nrm),rfl,by rw[ho,hr];rfl,fun h=>absurd hr h,rfl⟩
theorem Vr:fj pE 242 [.agg (fX c a7 a8 a9 a10 fB fA)] []=some (.i .i64 (Q2 c),[]):=by
 have hL:=fun fr lh sh h1 h3 o1=>anh c a7 a8 a9 a10 fB fA hT hS _ rfl _ rfl fr lh sh h1 h3 o1
 have hO:=fun fr lh sh h1 h6 o1=>ani c a7 a8 a9 a10 fB fA hT hS _ rfl _ rfl fr lh sh h1 h6 o1
 obtain⟨⟨c7,i7,j7⟩,⟨c8,i8,j8⟩,⟨c9,i9,j9⟩,⟨pw,i10,rY⟩,⟨pX,i11,tu⟩,⟨qD,i12,tT⟩⟩:=hT
 rw[fx Xf (by simp[HV])]
 unfold Q2
 unfold fX at hL hO ⊢
 by_cases h0:MS [] c.li=0
 ·rw[if_neg (by simp[h0])]
  rw[h0]at hL
  simp only[if_true,ne_eq,not_true_eq_false,false_implies,true_and]at hL
  by_cases h1:Ny (c.li.map Li.nm) c.fs=0
  ·rw[h1]at hO
   simp only[if_true,ne_eq,not_true_eq_false,false_implies,true_and]at hO
   simp(maxDischargeDepth:=6) only[qA,seval,HV,Cj,hL,hO,h1]
  ·simp only[h1,if_false,ne_eq,not_false_eq_true,forall_const]at hO
   simp(maxDischargeDepth:=6) only[qA,seval,HV,Cj,hL,hO]
 ·rw[if_pos h0]
  simp only[h0,if_false,ne_eq,not_false_eq_true,forall_const]at hL
  simp(maxDischargeDepth:=6) only[qA,seval,HV,hL]
end
end Go.Proofs.YtblcbheipjeoeaaGreat
namespace Go.Proofs.YtblcbheipjeoeaaGreat
open Go Go.Ev
theorem anj(l:Cs)(a:T)(cc:List T)(ha:fD a l.length cc)(hc:iR l cc)(hlen:l.length≤om)(n:Nat)(hn:n≤l.length)(s:List Nat)(o:Out)(ho:o=if s∈(l.map Prod.fst).take n then .ret else .ext 2)(Wq:n<l.length)(A9:l[n].1=s)(c:Ct)(a8 a9 a10 fB fA:T)(fr:Fr)(lh:fC fg)(sh:List fg)(g1:an fr 1= .ptr .L 1 1 0)(g3:an fr 3= .i .i64 (n:Int))(gi:an fr 4= .i .i64 0)(o1:be lh 1=⟨1,.cells (fX c a a8 a9 a10 fB fA) 0 true⟩):
  DC pE 235 (.loop mw) ⟨fr,lh,sh⟩=some (o,⟨gr pE 235 mw fr lh sh,gp pE 235 mw fr lh sh,gn pE 235 mw fr lh sh⟩)∧((s∈(l.map Prod.fst).take n→an (gr pE 235 mw fr lh sh) 2= .i .i64 7)∧gp pE 235 mw fr lh sh=lh∧gn pE 235 mw fr lh sh=sh):=by
 obtain⟨b',cb',rr',aaY,_⟩:=jZ ha hc n Wq
 rw[A9]at aaY
 refine fq (P:=fun fR fH fL=>(s∈(l.map Prod.fst).take n→an fR 2= .i .i64 7)∧fH=lh∧fL=sh) (fw (fun j st=> ∃fr:Fr,st=⟨fr,lh,sh⟩∧an fr 1= .ptr .L 1 1 0∧an fr 3= .i .i64 (n:Int)∧an fr 4= .i .i64 (j:Int)∧s∉(l.map Prod.fst).take j) _ n ?_ ?_ 0 _ (Nat.zero_le _) ⟨fr,rfl,g1,g3,gi,by simp⟩)
 ·rintro j _ hj ⟨fr,rfl,g1,g3,gi,lU⟩
  have rN:j<l.length:=by omega
  have KA:j<(l.map Prod.fst).length:=by rw[List.length_map];exact rN
  have HF:(j:Int)<n:=by omega
  have hw:=fQ (k:=j) (by omega)
  obtain⟨b,cb,rr,fF,iK,oS,hb⟩:=jZ ha hc j rN
  by_cases j6:Prod.fst l[j]=s
  ·right
   have tp:s∈(l.map Prod.fst).take n:=oO hj KA (by rw[List.getElem_map];exact j6)
   change l[j].1=s at j6
   simp(maxDischargeDepth:=6) only[qA,seval,mw,g1,g3,gi,HF,fF,j6,o1,fX,aaY]
   exact⟨_,_,(by simp:Out.ret≠ .nrm),rfl,by rw[ho,if_pos tp],fun _=>by simp(maxDischargeDepth:=6) only[qA,seval],rfl,rfl⟩
  ·left
   have B9:=mf KA lU (by rw[List.getElem_map];exact j6)
   change ¬l[j].1=s at j6
   simp(maxDischargeDepth:=6) only[qA,seval,mw,g1,g3,gi,HF,fF,hw,j6,o1,fX,aaY]
   refine⟨_,rfl,_,rfl, ?_, ?_, ?_,B9⟩
   all_goals (simp(maxDischargeDepth:=6) only[qA,seval,g1,g3])
 ·rintro _ ⟨fr,rfl,g1,g3,gi,lU⟩
  simp(maxDischargeDepth:=6) only[qA,seval,mw,g3,gi,Int.lt_irrefl]
  exact⟨_,_,(by simp:Out.ext 2≠ .nrm),rfl,by rw[ho,if_neg lU],fun h=>absurd h lU,rfl,rfl⟩
theorem ank(l:List Ru)(a:T)(cc:List T)(ha:fD a l.length cc)(hc:fy Nz l cc)(hlen:l.length≤om)(n:Nat)(hn:n≤l.length)(sc:Int)(nm:List Nat)(o:Out)(ho:o=if(sc,nm)∈(l.map xw).take n then .ret else .ext 6)(c:Ct)(a7 a9 a10 fB fA:T)(r7:List T)(G7:Nat)(fr:Fr)(lh:fC fg)(sh:List fg)(g1:an fr 1= .ptr .L 1 1 0)(g6:an fr 6= .i .i64 (n:Int))(g7:an fr 7= .ptr .L 7 G7 0)(gi:an fr 8= .i .i64 0)(o1:be lh 1=⟨1,.cells (fX c a7 a a9 a10 fB fA) 0 true⟩)(o7:be lh 7=⟨G7,.cells (.i .i64 sc:: .s nm::r7) 0 true⟩):
  DC pE 235 (.loop lH) ⟨fr,lh,sh⟩=some (o,⟨gr pE 235 lH fr lh sh,gp pE 235 lH fr lh sh,gn pE 235 lH fr lh sh⟩)∧(((sc,nm)∈(l.map xw).take n→an (gr pE 235 lH fr lh sh) 2= .i .i64 7)∧gp pE 235 lH fr lh sh=lh∧gn pE 235 lH fr lh sh=sh):=by
 refine fq (P:=fun fR fH fL=>((sc,nm)∈(l.map xw).take n→an fR 2= .i .i64 7)∧fH=lh∧fL=sh) (fw (fun j st=> ∃fr:Fr,st=⟨fr,lh,sh⟩∧an fr 1= .ptr .L 1 1 0∧an fr 6= .i .i64 (n:Int)∧an fr 7= .ptr .L 7 G7 0∧an fr 8= .i .i64 (j:Int)∧(sc,nm)∉(l.map xw).take j) _ n ?_ ?_ 0 _ (Nat.zero_le _) ⟨fr,rfl,g1,g6,g7,gi,by simp⟩)
 ·rintro j _ hj ⟨fr,rfl,g1,g6,g7,gi,lU⟩
  have rN:j<l.length:=by omega
  have KA:j<(l.map xw).length:=by rw[List.length_map];exact rN
  have HF:(j:Int)<n:=by omega
  have hw:=fQ (k:=j) (by omega)
  obtain⟨b,cb,rr,fF,iK,hb⟩:=Ba ha hc j rN
  by_cases j6:xw l[j]=(sc,nm)
  ·right
   have tp:(sc,nm)∈(l.map xw).take n:=oO hj KA (by rw[List.getElem_map];exact j6)
   have e1:l[j].sc=sc:=congrArg Prod.fst j6
   have e2:l[j].nm=nm:=congrArg Prod.snd j6
   simp(maxDischargeDepth:=6) only[qA,seval,lH,g1,g6,g7,gi,HF,fF,e1,e2,o1,o7,fX]
   exact⟨_,_,(by simp:Out.ret≠ .nrm),rfl,by rw[ho,if_pos tp],fun _=>by simp(maxDischargeDepth:=6) only[qA,seval],rfl,rfl⟩
  ·left
   have B9:=mf KA lU (by rw[List.getElem_map];exact j6)
   by_cases e1:l[j].sc=sc
   ·have e2: ¬l[j].nm=nm:=fun h=>j6 (by unfold xw;rw[e1,h])
    simp(maxDischargeDepth:=6) only[qA,seval,lH,g1,g6,g7,gi,HF,fF,hw,e1,e2,o1,o7,fX]
    refine⟨_,rfl,_,rfl, ?_, ?_, ?_, ?_,B9⟩
    all_goals (simp(maxDischargeDepth:=6) only[qA,seval,g1,g6,g7])
   ·simp(maxDischargeDepth:=6) only[qA,seval,lH,g1,g6,g7,gi,HF,fF,hw,e1,o1,o7,fX]
    refine⟨_,rfl,_,rfl, ?_, ?_, ?_, ?_,B9⟩
    all_goals (simp(maxDischargeDepth:=6) only[qA,seval,g1,g6,g7])
 ·rintro _ ⟨fr,rfl,g1,g6,g7,gi,lU⟩
  simp(maxDischargeDepth:=6) only[qA,seval,lH,g6,gi,Int.lt_irrefl]
  exact⟨_,_,(by simp:Out.ext 6≠ .nrm),rfl,by rw[ho,if_neg lU],fun h=>absurd h lU,rfl,rfl⟩
section
variable(c:Ct)(a7 a8 a9 a10 fB fA:T)(hT:xu c a7 a8 a9 a10 fB fA)(hS:A8 c)
include hT hS
theorem anl(r:Int)(hr:r=HE [] c.cs)(o:Out)(ho:o=if r=0 then .ext 0 else .ret)(fr:Fr)(lh:fC fg)(sh:List fg)
  (h1:an fr 1= .ptr .L 1 1 0) (hi:an fr 3= .i .i64 0) (o1:be lh 1=⟨1,.cells (fX c a7 a8 a9 a10 fB fA) 0 true⟩):
  DC pE 235 (.loop kR) ⟨fr,lh,sh⟩=some (o,⟨gr pE 235 kR fr lh sh,gp pE 235 kR fr lh sh,gn pE 235 kR fr lh sh⟩)∧
  ((r≠0→an (gr pE 235 kR fr lh sh) 2= .i .i64 r)∧be (gp pE 235 kR fr lh sh) 1=⟨1,.cells (fX c a7 a8 a9 a10 fB fA) 0 true⟩∧gn pE 235 kR fr lh sh=sh):=by
 obtain⟨⟨c7,i7,j7⟩,⟨c8,i8,j8⟩,⟨c9,i9,j9⟩,⟨pw,i10,rY⟩,⟨pX,i11,tu⟩,⟨qD,i12,tT⟩⟩:=hT
 have hlen:=hS.s7.2
 have oh:=hS.s7.1
 refine fq (P:=fun fR fH fL=>(r≠0→an fR 2= .i .i64 r)∧be fH 1=⟨1,.cells (fX c a7 a8 a9 a10 fB fA) 0 true⟩∧fL=sh)
  (fw (fun k st=> ∃(fr:Fr) (fG:fC fg),st=⟨fr,fG,sh⟩∧an fr 1= .ptr .L 1 1 0∧an fr 3= .i .i64 (k:Int)∧be fG 1=⟨1,.cells (fX c a7 a8 a9 a10 fB fA) 0 true⟩∧r=HE ((c.cs.map Prod.fst).take k) (c.cs.drop k)) _ c.cs.length ?_ ?_ 0 _ (Nat.zero_le _) ⟨fr,lh,rfl,h1,hi,o1,by rw[hr];rfl⟩)
 ·rintro k _ hk ⟨fr,fG,rfl,h1,hi,o1,hr⟩
  have fK:(k:Int)<c.cs.length:=by omega
  have pR:k≤c.cs.length:=Nat.le_of_lt hk
  have hw:=fQ (k:=k) (by omega)
  rw[List.drop_eq_getElem_cons hk,HE]at hr
  have leave: ∀e:Int,e≠0→r=e→o= .ret:=fun e he h=>by rw[ho,h,if_neg he]
  obtain⟨b,cb,rr,fF,iK,oS,hb⟩:=jZ i7 j7 k hk
  obtain⟨HD,A9⟩:=oh c.cs[k] (List.getElem_mem hk)
  have mI:=rW c.cs[k].1
  have uN:=pV c.cs[k].2 _ hb A9
  have FM:(c.cs.map Prod.fst).take (k+1)=(c.cs.map Prod.fst).take k++ [c.cs[k].1]:=by rw[List.take_succ_eq_append_getElem (by rw[List.length_map];exact hk),List.getElem_map]
  rw[FM]
  obtain⟨s,Yn⟩: ∃s,c.cs[k].1=s:=⟨_,rfl⟩
  have hD:=fun fr lh sh g1 g3 gi o1=>anj c.cs a7 c7 i7 j7 hlen k pR s _ rfl hk Yn c a8 a9 a10 fB fA fr lh sh g1 g3 gi o1
  rw[Yn]at hr mI fF ⊢
  generalize c.cs[k].2=x at*
  generalize (c.cs.map Prod.fst).take k=seen at*
  unfold fX at o1 hD ⊢
  cases hd:kr s with
  |false=>
   right
   rw[if_pos hd]at hr
   rw[hd]at mI
   simp(maxDischargeDepth:=6) only[qA,seval,kR,h1,hi,o1,i7.lenI,fK,fF,mI,lZ]
   refine⟨_,_,(by simp:Out.ret≠ .nrm),rfl,(leave _ (by decide) hr).symm,fun _=> ?_, ?_,rfl⟩ <;> simp(maxDischargeDepth:=6) only[qA,seval,hr,o1]
  |true=>
  rw[if_neg (by simp[hd])]at hr
  rw[hd]at mI
  by_cases hs:s∈seen
  ·right
   rw[if_pos hs]at hr
   simp only[hs,if_true,forall_const]at hD
   simp(maxDischargeDepth:=6) only[qA,seval,kR,h1,hi,o1,i7.lenI,fK,fF,mI,lZ,hD]
   refine⟨_,_,(by simp:Out.ret≠ .nrm),rfl,(leave _ (by decide) hr).symm,fun _=> ?_, ?_,rfl⟩ <;> simp(maxDischargeDepth:=6) only[qA,seval,hr,o1,hi,h1,hD]
  rw[if_neg hs]at hr
  simp only[hs,if_false,false_implies,true_and]at hD
  by_cases hv:fP x=0
  ·left
   rw[if_neg (by simp[hv])]at hr
   rw[hv]at uN
   simp(maxDischargeDepth:=6) only[qA,seval,kR,h1,hi,o1,i7.lenI,fK,fF,iK.froz1,mI,lZ,hw,hD,xC,uN,sW]
   refine⟨_,rfl,_,_,rfl, ?_, ?_, ?_,hr⟩
   all_goals (simp(maxDischargeDepth:=6) only[qA,seval,h1,o1,xC])
  ·right
   rw[if_pos hv]at hr
   generalize fP x=e at*
   simp(maxDischargeDepth:=6) only[qA,seval,kR,h1,hi,o1,i7.lenI,fK,fF,iK.froz1,mI,lZ,hD,xC,uN,sW,hv]
   refine⟨_,_,(by simp:Out.ret≠ .nrm),rfl,(leave _ hv hr).symm,fun _=> ?_, ?_,rfl⟩ <;> simp(maxDischargeDepth:=6) only[qA,seval,hr,o1]
 ·rintro _ ⟨fr,fG,rfl,h1,hi,o1,hr⟩
  rw[List.drop_length,HE]at hr
  unfold fX at o1 ⊢
  simp(maxDischargeDepth:=6) only[qA,seval,kR,h1,hi,o1,i7.lenI,Int.lt_irrefl]
  exact⟨_,_,(by simp:Out.ext 0≠ .nrm),rfl,by rw[ho,hr];rfl,fun h=>absurd hr h,o1,rfl⟩
theorem anm(r:Int)(hr:r=Ee [] c.ru)(o:Out)(ho:o=if r=0 then .ext 4 else .ret)(fr:Fr)(lh:fC fg)(sh:List fg)
  (h1:an fr 1= .ptr .L 1 1 0) (hi:an fr 6= .i .i64 0) (o1:be lh 1=⟨1,.cells (fX c a7 a8 a9 a10 fB fA) 0 true⟩):
  DC pE 235 (.loop kl) ⟨fr,lh,sh⟩=some (o,⟨gr pE 235 kl fr lh sh,gp pE 235 kl fr lh sh,gn pE 235 kl fr lh sh⟩)∧
  ((r≠0→an (gr pE 235 kl fr lh sh) 2= .i .i64 r)∧be (gp pE 235 kl fr lh sh) 1=⟨1,.cells (fX c a7 a8 a9 a10 fB fA) 0 true⟩∧gn pE 235 kl fr lh sh=sh):=by
 obtain⟨⟨c7,i7,j7⟩,⟨c8,i8,j8⟩,⟨c9,i9,j9⟩,⟨pw,i10,rY⟩,⟨pX,i11,tu⟩,⟨qD,i12,tT⟩⟩:=hT
 have hlen:=hS.s8.2
 have oh:=hS.s8.1
 refine fq (P:=fun fR fH fL=>(r≠0→an fR 2= .i .i64 r)∧be fH 1=⟨1,.cells (fX c a7 a8 a9 a10 fB fA) 0 true⟩∧fL=sh)
  (fw (fun k st=> ∃(fr:Fr) (fG:fC fg),st=⟨fr,fG,sh⟩∧an fr 1= .ptr .L 1 1 0∧an fr 6= .i .i64 (k:Int)∧be fG 1=⟨1,.cells (fX c a7 a8 a9 a10 fB fA) 0 true⟩∧r=Ee ((c.ru.map xw).take k) (c.ru.drop k)) _ c.ru.length ?_ ?_ 0 _ (Nat.zero_le _) ⟨fr,lh,rfl,h1,hi,o1,by rw[hr];rfl⟩)
 ·rintro k _ hk ⟨fr,fG,rfl,h1,hi,o1,hr⟩
  have fK:(k:Int)<c.ru.length:=by omega
  have pR:k≤c.ru.length:=Nat.le_of_lt hk
  have hw:=fQ (k:=k) (by omega)
  rw[List.drop_eq_getElem_cons hk,Ee]at hr
  have leave: ∀e:Int,e≠0→r=e→o= .ret:=fun e he h=>by rw[ho,h,if_neg he]
  obtain⟨b,cb,rr,fF,iK,hb⟩:=Ba i8 j8 k hk
  obtain⟨HD,A9⟩:=oh c.ru[k] (List.getElem_mem hk)
  have mI:=rW c.ru[k].nm
  have k6:=iF c.ru[k].sc 1 3
  have uN:=pV c.ru[k].x _ hb A9
  have FM:(c.ru.map xw).take (k+1)=(c.ru.map xw).take k++ [(c.ru[k].sc,c.ru[k].nm)]:=by rw[List.take_succ_eq_append_getElem (by rw[List.length_map];exact hk),List.getElem_map];rfl
  rw[FM]
  generalize c.ru[k]=u at*
  generalize hG:(be fG 7).g+1=G
  have hD:=fun fr lh sh g1 g6 g7 gi o1 o7=>ank c.ru a8 c8 i8 j8 hlen k pR u.sc u.nm _ rfl c a7 a9 a10 fB fA [.i .i64 u.x.op,.i .i64 u.x.num,.s u.x.name,b] G fr lh sh g1 g6 g7 gi o1 o7
  generalize (c.ru.map xw).take k=seen at*
  unfold fX at o1 hD ⊢
  cases hq:kj u.sc 1 3 with
  |false=>
   right
   rw[if_pos (.inl hq)]at hr
   rw[hq]at k6
   simp(maxDischargeDepth:=6) only[qA,seval,kl,h1,hi,o1,i8.lenI,fK,fF,hG,k6,gT]
   refine⟨_,_,(by simp:Out.ret≠ .nrm),rfl,(leave _ (by decide) hr).symm,fun _=> ?_, ?_,rfl⟩ <;> simp(maxDischargeDepth:=6) only[qA,seval,hr,o1]
  |true=>
  rw[hq]at k6
  cases hd:kr u.nm with
  |false=>
   right
   rw[if_pos (.inr hd)]at hr
   rw[hd]at mI
   simp(maxDischargeDepth:=6) only[qA,seval,kl,h1,hi,o1,i8.lenI,fK,fF,hG,k6,gT,mI,lZ]
   refine⟨_,_,(by simp:Out.ret≠ .nrm),rfl,(leave _ (by decide) hr).symm,fun _=> ?_, ?_,rfl⟩ <;> simp(maxDischargeDepth:=6) only[qA,seval,hr,o1]
  |true=>
  rw[if_neg (by simp[hd,hq])]at hr
  rw[hd]at mI
  by_cases hs:(u.sc,u.nm)∈seen
  ·right
   rw[if_pos hs]at hr
   simp only[hs,if_true,forall_const]at hD
   simp(maxDischargeDepth:=6) only[qA,seval,kl,h1,hi,o1,i8.lenI,fK,fF,hG,k6,gT,mI,lZ,hD]
   refine⟨_,_,(by simp:Out.ret≠ .nrm),rfl,(leave _ (by decide) hr).symm,fun _=> ?_, ?_,rfl⟩ <;> simp(maxDischargeDepth:=6) only[qA,seval,hr,o1,hi,h1,hD]
  rw[if_neg hs]at hr
  simp only[hs,if_false,false_implies,true_and]at hD
  by_cases hv:fP u.x=0
  ·left
   rw[if_neg (by simp[hv])]at hr
   rw[hv]at uN
   simp(maxDischargeDepth:=6) only[qA,seval,kl,h1,hi,o1,i8.lenI,fK,fF,hG,iK.froz1,k6,gT,hw,mI,lZ,hD,xA,uN,sW]
   refine⟨_,rfl,_,_,rfl, ?_, ?_, ?_,hr⟩
   all_goals (simp(maxDischargeDepth:=6) only[qA,seval,h1,o1,xA])
  ·right
   rw[if_pos hv]at hr
   generalize fP u.x=e at*
   simp(maxDischargeDepth:=6) only[qA,seval,kl,h1,hi,o1,i8.lenI,fK,fF,hG,iK.froz1,k6,gT,mI,lZ,hD,xA,uN,sW,hv]
   refine⟨_,_,(by simp:Out.ret≠ .nrm),rfl,(leave _ hv hr).symm,fun _=> ?_, ?_,rfl⟩ <;> simp(maxDischargeDepth:=6) only[qA,seval,hr,o1]
 ·rintro _ ⟨fr,fG,rfl,h1,hi,o1,hr⟩
  rw[List.drop_length,Ee]at hr
  unfold fX at o1 ⊢
  simp(maxDischargeDepth:=6) only[qA,seval,kl,h1,hi,o1,i8.lenI,Int.lt_irrefl]
  exact⟨_,_,(by simp:Out.ext 4≠ .nrm),rfl,by rw[ho,hr];rfl,fun h=>absurd hr h,o1,rfl⟩
theorem ann(r:Int)(hr:r=IP c.co)(o:Out)(ho:o=if r=0 then .ext 8 else .ret)(fr:Fr)(lh:fC fg)(sh:List fg)
  (h1:an fr 1= .ptr .L 1 1 0) (hi:an fr 10= .i .i64 0) (o1:be lh 1=⟨1,.cells (fX c a7 a8 a9 a10 fB fA) 0 true⟩):
  DC pE 235 (.loop lG) ⟨fr,lh,sh⟩=some (o,⟨gr pE 235 lG fr lh sh,gp pE 235 lG fr lh sh,gn pE 235 lG fr lh sh⟩)∧
  ((r≠0→an (gr pE 235 lG fr lh sh) 2= .i .i64 r)∧be (gp pE 235 lG fr lh sh) 1=⟨1,.cells (fX c a7 a8 a9 a10 fB fA) 0 true⟩∧gn pE 235 lG fr lh sh=sh):=by
 obtain⟨⟨c7,i7,j7⟩,⟨c8,i8,j8⟩,⟨c9,i9,j9⟩,⟨pw,i10,rY⟩,⟨pX,i11,tu⟩,⟨qD,i12,tT⟩⟩:=hT
 have hlen:=hS.s9.2
 have oh:=hS.s9.1
 refine fq (P:=fun fR fH fL=>(r≠0→an fR 2= .i .i64 r)∧be fH 1=⟨1,.cells (fX c a7 a8 a9 a10 fB fA) 0 true⟩∧fL=sh)
  (fw (fun k st=> ∃(fr:Fr) (fG:fC fg),st=⟨fr,fG,sh⟩∧an fr 1= .ptr .L 1 1 0∧an fr 10= .i .i64 (k:Int)∧be fG 1=⟨1,.cells (fX c a7 a8 a9 a10 fB fA) 0 true⟩∧r=IP (c.co.drop k)) _ c.co.length ?_ ?_ 0 _ (Nat.zero_le _) ⟨fr,lh,rfl,h1,hi,o1,by rw[hr];rfl⟩)
 ·rintro k _ hk ⟨fr,fG,rfl,h1,hi,o1,hr⟩
  have fK:(k:Int)<c.co.length:=by omega
  have pR:k≤c.co.length:=Nat.le_of_lt hk
  have hw:=fQ (k:=k) (by omega)
  rw[List.drop_eq_getElem_cons hk,IP]at hr
  have leave: ∀e:Int,e≠0→r=e→o= .ret:=fun e he h=>by rw[ho,h,if_neg he]
  obtain⟨b,cb,rr,fF,iK,hb⟩:=C2 i9 j9 k hk
  obtain⟨HD,A9⟩:=oh c.co[k] (List.getElem_mem hk)
  have k6:=iF c.co[k].sc 1 3
  have uN:=pV c.co[k].x _ hb A9
  generalize c.co[k]=u at*
  unfold fX at o1 ⊢
  cases hq:kj u.sc 1 3 with
  |false=>
   right
   rw[if_pos hq]at hr
   rw[hq]at k6
   simp(maxDischargeDepth:=6) only[qA,seval,lG,h1,hi,o1,i9.lenI,fK,fF,k6,gT]
   refine⟨_,_,(by simp:Out.ret≠ .nrm),rfl,(leave _ (by decide) hr).symm,fun _=> ?_, ?_,rfl⟩ <;> simp(maxDischargeDepth:=6) only[qA,seval,hr,o1]
  |true=>
  rw[if_neg (by simp[hq])]at hr
  rw[hq]at k6
  by_cases hv:fP u.x=0
  ·left
   rw[if_neg (by simp[hv])]at hr
   rw[hv]at uN
   simp(maxDischargeDepth:=6) only[qA,seval,lG,h1,hi,o1,i9.lenI,fK,fF,iK.froz1,k6,gT,hw,uN,sW]
   refine⟨_,rfl,_,_,rfl, ?_, ?_, ?_,hr⟩
   all_goals (simp(maxDischargeDepth:=6) only[qA,seval,h1,o1])
  ·right
   rw[if_pos hv]at hr
   generalize fP u.x=e at*
   simp(maxDischargeDepth:=6) only[qA,seval,lG,h1,hi,o1,i9.lenI,fK,fF,iK.froz1,k6,gT,uN,sW,hv]
   refine⟨_,_,(by simp:Out.ret≠ .nrm),rfl,(leave _ hv hr).symm,fun _=> ?_, ?_,rfl⟩ <;> simp(maxDischargeDepth:=6) only[qA,seval,hr,o1]
 ·rintro _ ⟨fr,fG,rfl,h1,hi,o1,hr⟩
  rw[List.drop_length,IP]at hr
  unfold fX at o1 ⊢
  simp(maxDischargeDepth:=6) only[qA,seval,lG,h1,hi,o1,i9.lenI,Int.lt_irrefl]
  exact⟨_,_,(by simp:Out.ext 8≠ .nrm),rfl,by rw[ho,hr];rfl,fun h=>absurd hr h,o1,rfl⟩
theorem ano(r:Int)(hr:r=IQ c.cr)(o:Out)(ho:o=if r=0 then .ext 10 else .ret)(fr:Fr)(lh:fC fg)(sh:List fg)
  (h1:an fr 1= .ptr .L 1 1 0) (hi:an fr 12= .i .i64 0) (o1:be lh 1=⟨1,.cells (fX c a7 a8 a9 a10 fB fA) 0 true⟩):
  DC pE 235 (.loop mr) ⟨fr,lh,sh⟩=some (o,⟨gr pE 235 mr fr lh sh,gp pE 235 mr fr lh sh,gn pE 235 mr fr lh sh⟩)∧
  ((r≠0→an (gr pE 235 mr fr lh sh) 2= .i .i64 r)∧be (gp pE 235 mr fr lh sh) 1=⟨1,.cells (fX c a7 a8 a9 a10 fB fA) 0 true⟩∧gn pE 235 mr fr lh sh=sh):=by
 obtain⟨⟨c7,i7,j7⟩,⟨c8,i8,j8⟩,⟨c9,i9,j9⟩,⟨pw,i10,rY⟩,⟨pX,i11,tu⟩,⟨qD,i12,tT⟩⟩:=hT
 have hlen:=hS.s10.2
 have oh:=hS.s10.1
 refine fq (P:=fun fR fH fL=>(r≠0→an fR 2= .i .i64 r)∧be fH 1=⟨1,.cells (fX c a7 a8 a9 a10 fB fA) 0 true⟩∧fL=sh)
  (fw (fun k st=> ∃(fr:Fr) (fG:fC fg),st=⟨fr,fG,sh⟩∧an fr 1= .ptr .L 1 1 0∧an fr 12= .i .i64 (k:Int)∧be fG 1=⟨1,.cells (fX c a7 a8 a9 a10 fB fA) 0 true⟩∧r=IQ (c.cr.drop k)) _ c.cr.length ?_ ?_ 0 _ (Nat.zero_le _) ⟨fr,lh,rfl,h1,hi,o1,by rw[hr];rfl⟩)
 ·rintro k _ hk ⟨fr,fG,rfl,h1,hi,o1,hr⟩
  have fK:(k:Int)<c.cr.length:=by omega
  have pR:k≤c.cr.length:=Nat.le_of_lt hk
  have hw:=fQ (k:=k) (by omega)
  rw[List.drop_eq_getElem_cons hk,IQ]at hr
  have leave: ∀e:Int,e≠0→r=e→o= .ret:=fun e he h=>by rw[ho,h,if_neg he]
  obtain⟨b,cb,rr,fF,iK,oS,hb⟩:=nw i10 rY k hk
  obtain⟨HD,A9⟩:=oh c.cr[k] (List.getElem_mem hk)
  have uN:=pV c.cr[k] _ hb A9
  generalize c.cr[k]=u at*
  unfold fX at o1 ⊢
  by_cases hv:fP u=0
  ·left
   rw[if_neg (by simp[hv])]at hr
   rw[hv]at uN
   simp(maxDischargeDepth:=6) only[qA,seval,mr,h1,hi,o1,i10.lenI,fK,fF,iK.froz1,hw,uN,sW]
   refine⟨_,rfl,_,_,rfl, ?_, ?_, ?_,hr⟩
   all_goals (simp(maxDischargeDepth:=6) only[qA,seval,h1,o1])
  ·right
   rw[if_pos hv]at hr
   generalize fP u=e at*
   simp(maxDischargeDepth:=6) only[qA,seval,mr,h1,hi,o1,i10.lenI,fK,fF,iK.froz1,uN,sW,hv]
   refine⟨_,_,(by simp:Out.ret≠ .nrm),rfl,(leave _ hv hr).symm,fun _=> ?_, ?_,rfl⟩ <;> simp(maxDischargeDepth:=6) only[qA,seval,hr,o1]
 ·rintro _ ⟨fr,fG,rfl,h1,hi,o1,hr⟩
  rw[List.drop_length,IQ]at hr
  unfold fX at o1 ⊢
  simp(maxDischargeDepth:=6) only[qA,seval,mr,h1,hi,o1,i10.lenI,Int.lt_irrefl]
  exact⟨_,_,(by simp:Out.ext 10≠ .nrm),rfl,by rw[ho,hr];rfl,fun h=>absurd hr h,o1,rfl⟩
end
end Go.Proofs.YtblcbheipjeoeaaGreat
namespace Go.Proofs.YtblcbheipjeoeaaGreat
open Go Go.Ev
section
variable(c:Ct)(a7 a8 a9 a10 fB fA:T)(hT:xu c a7 a8 a9 a10 fB fA)(hS:A8 c)
include hT hS
theorem Q5:fj pE 155 [.agg (fX c a7 a8 a9 a10 fB fA)] []=some (.i .i64 (lA c),[]):=by
 have hvw:=Vr c a7 a8 a9 a10 fB fA hT hS
 have hA:=fun fr lh sh h1 hi o1=>anl c a7 a8 a9 a10 fB fA hT hS _ rfl _ rfl fr lh sh h1 hi o1
 have hB:=fun fr lh sh h1 hi o1=>anm c a7 a8 a9 a10 fB fA hT hS _ rfl _ rfl fr lh sh h1 hi o1
 have hL:=fun fr lh sh h1 hi o1=>ann c a7 a8 a9 a10 fB fA hT hS _ rfl _ rfl fr lh sh h1 hi o1
 have hM:=fun fr lh sh h1 hi o1=>ano c a7 a8 a9 a10 fB fA hT hS _ rfl _ rfl fr lh sh h1 hi o1
 obtain⟨⟨c7,i7,j7⟩,⟨c8,i8,j8⟩,⟨c9,i9,j9⟩,⟨pw,i10,rY⟩,⟨pX,i11,tu⟩,⟨qD,i12,tT⟩⟩:=hT
 unfold fX at hA hB hL hM hvw ⊢
 rw[fx OB (by simp[kA])]
 unfold lA qu qW
 have w0:=iF c.rp 0 1440
 have w1:=iF c.rl 0 1440
 have w2:=iF c.cn 0 1440
 have w3:=iF c.st c.cn 1440
 have w4:=iF c.ly 0 10080
 have w5:=iF c.nf 0 1439
 have w6:=iF c.nt 0 1439
 have w7:=iF c.gu 0 599999
 cases q0:kj c.rp 0 1440 with
 |false=>
  rw[q0]at w0
  simp(maxDischargeDepth:=6) only[qA,seval,kA,w0,gT]
 |true=>
 rw[q0]at w0
 cases q1:kj c.rl 0 1440 with
 |false=>
  rw[q1]at w1
  simp(maxDischargeDepth:=6) only[qA,seval,kA,w0,w1,gT]
 |true=>
 rw[q1]at w1
 cases q2:kj c.cn 0 1440 with
 |false=>
  rw[q2]at w2
  simp(maxDischargeDepth:=6) only[qA,seval,kA,w0,w1,w2,gT]
 |true=>
 rw[q2]at w2
 cases q3:kj c.st c.cn 1440 with
 |false=>
  rw[q3]at w3
  simp(maxDischargeDepth:=6) only[qA,seval,kA,w0,w1,w2,w3,gT]
 |true=>
 rw[q3]at w3
 cases q4:kj c.ly 0 10080 with
 |false=>
  rw[q4]at w4
  simp(maxDischargeDepth:=6) only[qA,seval,kA,w0,w1,w2,w3,w4,gT]
 |true=>
 rw[q4]at w4
 cases q5:kj c.nf 0 1439 with
 |false=>
  rw[q5]at w5
  simp(maxDischargeDepth:=6) only[qA,seval,kA,w0,w1,w2,w3,w4,w5,gT]
 |true=>
 rw[q5]at w5
 cases q6:kj c.nt 0 1439 with
 |false=>
  rw[q6]at w6
  simp(maxDischargeDepth:=6) only[qA,seval,kA,w0,w1,w2,w3,w4,w5,w6,gT]
 |true=>
 rw[q6]at w6
 cases q7:kj c.gu 0 599999 with
 |false=>
  rw[q7]at w7
  simp(maxDischargeDepth:=6) only[qA,seval,kA,w0,w1,w2,w3,w4,w5,w6,w7,gT]
 |true=>
 rw[q7]at w7
 by_cases n0:(32:Int)<(c.cs.length:Int)
 ·have d0:decide (c.cs.length≤32)=false:=decide_eq_false (by omega)
  simp(maxDischargeDepth:=6) only[qA,seval,kA,i7.lenI,w0,w1,w2,w3,w4,w5,w6,w7,gT,n0,d0]
 have d0:decide (c.cs.length≤32)=true:=decide_eq_true (by omega)
 by_cases n1:(40:Int)<(c.ru.length:Int)
 ·have d1:decide (c.ru.length≤40)=false:=decide_eq_false (by omega)
  simp(maxDischargeDepth:=6) only[qA,seval,kA,i7.lenI,i8.lenI,w0,w1,w2,w3,w4,w5,w6,w7,gT,n0,n1,d0,d1]
 have d1:decide (c.ru.length≤40)=true:=decide_eq_true (by omega)
 by_cases n2:(16:Int)<(c.co.length:Int)
 ·have d2:decide (c.co.length≤16)=false:=decide_eq_false (by omega)
  simp(maxDischargeDepth:=6) only[qA,seval,kA,i7.lenI,i8.lenI,i9.lenI,w0,w1,w2,w3,w4,w5,w6,w7,gT,n0,n1,n2,d0,d1,d2]
 have d2:decide (c.co.length≤16)=true:=decide_eq_true (by omega)
 by_cases n3:(1:Int)<(c.cr.length:Int)
 ·have d3:decide (c.cr.length≤1)=false:=decide_eq_false (by omega)
  simp(maxDischargeDepth:=6) only[qA,seval,kA,i7.lenI,i8.lenI,i9.lenI,i10.lenI,w0,w1,w2,w3,w4,w5,w6,w7,gT,n0,n1,n2,n3,d0,d1,d2,d3]
 have d3:decide (c.cr.length≤1)=true:=decide_eq_true (by omega)
 by_cases n4:(16:Int)<(c.li.length:Int)
 ·have d4:decide (c.li.length≤16)=false:=decide_eq_false (by omega)
  simp(maxDischargeDepth:=6) only[qA,seval,kA,i7.lenI,i8.lenI,i9.lenI,i10.lenI,i11.lenI,w0,w1,w2,w3,w4,w5,w6,w7,gT,n0,n1,n2,n3,n4,d0,d1,d2,d3,d4]
 have d4:decide (c.li.length≤16)=true:=decide_eq_true (by omega)
 by_cases n5:(16:Int)<(c.fs.length:Int)
 ·have d5:decide (c.fs.length≤16)=false:=decide_eq_false (by omega)
  simp(maxDischargeDepth:=6) only[qA,seval,kA,i7.lenI,i8.lenI,i9.lenI,i10.lenI,i11.lenI,i12.lenI,w0,w1,w2,w3,w4,w5,w6,w7,gT,n0,n1,n2,n3,n4,n5,d0,d1,d2,d3,d4,d5]
 have d5:decide (c.fs.length≤16)=true:=decide_eq_true (by omega)
 rw[d0,d1,d2,d3,d4,d5]
 simp only[Bool.and_self,Bool.true_eq_false,if_false]
 by_cases e1:HE [] c.cs=0
 ·rw[e1]at hA
  rw[if_neg (by simp[e1])]
  simp only[if_true,ne_eq,not_true_eq_false,false_implies,true_and]at hA
  by_cases e2:Ee [] c.ru=0
  ·rw[e2]at hB
   rw[if_neg (by simp[e2])]
   simp only[if_true,ne_eq,not_true_eq_false,false_implies,true_and]at hB
   by_cases e3:IP c.co=0
   ·rw[e3]at hL
    rw[if_neg (by simp[e3])]
    simp only[if_true,ne_eq,not_true_eq_false,false_implies,true_and]at hL
    by_cases e4:IQ c.cr=0
    ·rw[e4]at hM
     rw[if_neg (by simp[e4])]
     simp only[if_true,ne_eq,not_true_eq_false,false_implies,true_and]at hM
     simp(maxDischargeDepth:=6) only[qA,seval,kA,Ls,Ch,xB,uh,i7.lenI,i8.lenI,i9.lenI,i10.lenI,i11.lenI,i12.lenI,i7.froz1,i8.froz1,i9.froz1,i10.froz1,i11.froz1,i12.froz1,w0,w1,w2,w3,w4,w5,w6,w7,gT,n0,n1,n2,n3,n4,n5,hA,hB,hL,hM,hvw,agc]
    ·rw[if_pos e4]
     simp only[e4,if_false,ne_eq,not_false_eq_true,forall_const]at hM
     simp(maxDischargeDepth:=6) only[qA,seval,kA,Ch,xB,uh,i7.lenI,i8.lenI,i9.lenI,i10.lenI,i11.lenI,i12.lenI,w0,w1,w2,w3,w4,w5,w6,w7,gT,n0,n1,n2,n3,n4,n5,hA,hB,hL,hM]
   ·rw[if_pos e3]
    simp only[e3,if_false,ne_eq,not_false_eq_true,forall_const]at hL
    simp(maxDischargeDepth:=6) only[qA,seval,kA,xB,uh,i7.lenI,i8.lenI,i9.lenI,i10.lenI,i11.lenI,i12.lenI,w0,w1,w2,w3,w4,w5,w6,w7,gT,n0,n1,n2,n3,n4,n5,hA,hB,hL]
  ·rw[if_pos e2]
   simp only[e2,if_false,ne_eq,not_false_eq_true,forall_const]at hB
   simp(maxDischargeDepth:=6) only[qA,seval,kA,uh,i7.lenI,i8.lenI,i9.lenI,i10.lenI,i11.lenI,i12.lenI,w0,w1,w2,w3,w4,w5,w6,w7,gT,n0,n1,n2,n3,n4,n5,hA,hB]
 ·rw[if_pos e1]
  simp only[e1,if_false,ne_eq,not_false_eq_true,forall_const]at hA
  simp(maxDischargeDepth:=6) only[qA,seval,kA,i7.lenI,i8.lenI,i9.lenI,i10.lenI,i11.lenI,i12.lenI,w0,w1,w2,w3,w4,w5,w6,w7,gT,n0,n1,n2,n3,n4,n5,hA]
end
end Go.Proofs.YtblcbheipjeoeaaGreat
