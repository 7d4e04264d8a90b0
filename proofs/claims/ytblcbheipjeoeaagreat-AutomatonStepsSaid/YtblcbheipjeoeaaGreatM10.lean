/- The program's check of a contract's form. The program's check of a contract's form: costs, credit, the whole. The reference's check of a contract's windows. Conditions: the theorems' own. -/
import Derived.Test.YtblcbheipjeoeaaGreatM9
import Derived.KernelRfl
set_option maxRecDepth 100000
set_option linter.unusedSimpArgs false
set_option linter.unusedVariables false
set_option maxHeartbeats 16000000
namespace Go.Proofs.YtblcbheipjeoeaaGreat
open Go Go.Ev
def td(g:Nat)(seen:List (List Nat)):fg:=⟨g,.map ((seen.map fun x=>(x,true)).map fun p=>sK p.1) ((seen.map fun x=>(x,true)).map fun p=>T.b p.2) false⟩
theorem GC(g:Nat)(seen:List (List Nat))(s:List Nat):lkE (td g seen) g (.one .str) (.s s) (.b false) false=some (.b (decide (s∈seen))):=by
 unfold td;rw[gI,if_pos rfl,Ec]
theorem GD{lh:fC fg}{kk:Nat}(g:Nat)(seen:List (List Nat))(s:List Nat)(h:s∉seen):muE lh kk (td g seen) g (.one .str) (.s s) (.b true)=some (qm lh kk (td g (seen++ [s]))):=by
 unfold td;rw[pM,if_pos ⟨rfl,rfl⟩,A7 seen s h];rfl
theorem am9(l:List Li)(a:T)(cc:List T)(ha:fD a l.length cc)(hc:fy Vo l cc)(hlen:l.length≤om)(r:Int)(hr:r=MS [] l)(o:Out)(ho:o=if r=0 then .ext 0 else .ret)(g:Nat)(c1:fg)(fr:Fr)(lh:fC fg)(sh:List fg)
  (h3:an fr 3= .mp .L 8 g) (nJ:an fr 10=a) (nR:an fr 11= .i .i64 (l.length:Int)) (qC:an fr 12= .i .i64 0) (o8:be lh 8=td g []) (o1:be lh 1=c1):
  DC pE 80 (.loop jF) ⟨fr,lh,sh⟩=some (o,⟨gr pE 80 jF fr lh sh,gp pE 80 jF fr lh sh,gn pE 80 jF fr lh sh⟩)∧
  ((r≠0→an (gr pE 80 jF fr lh sh) 2= .i .i64 r)∧be (gp pE 80 jF fr lh sh) 1=c1∧(r=0→be (gp pE 80 jF fr lh sh) 8=td g (l.map Li.nm))∧gn pE 80 jF fr lh sh=sh):=by
 refine fq (P:=fun fR fH fL=>(r≠0→an fR 2= .i .i64 r)∧be fH 1=c1∧(r=0→be fH 8=td g (l.map Li.nm))∧fL=sh)
  (fw (fun k st=> ∃(fr:Fr) (fG:fC fg),st=⟨fr,fG,sh⟩∧an fr 3= .mp .L 8 g∧an fr 10=a∧an fr 11= .i .i64 (l.length:Int)∧an fr 12= .i .i64 (k:Int)∧be fG 1=c1∧
    be fG 8=td g ((l.take k).map Li.nm)∧r=MS ((l.take k).map Li.nm) (l.drop k)) _ l.length ?_ ?_ 0 _ (Nat.zero_le _) ⟨fr,lh,rfl,h3,nJ,nR,qC,o1,o8,by rw[hr];rfl⟩)
 ·rintro k _ hk ⟨fr,fG,rfl,h3,nJ,nR,qC,o1,o8,hr⟩
  have fK:(k:Int)<l.length:=by omega
  have hw:=fQ (k:=k) (by omega)
  obtain⟨rr,fF⟩:=Kz ha hc k hk
  have mI:=rV l[k].nm
  have QW:=QX l[k].me
  have oR:=iQ l[k].mo 0 599999
  have qJ:=iQ l[k].da 1 31
  have ja:=GC g ((l.take k).map Li.nm) l[k].nm
  have hmu:=fun lh kk=>GD (lh:=lh) (kk:=kk) g ((l.take k).map Li.nm) l[k].nm
  rw[List.drop_eq_getElem_cons hk,MS]at hr
  have FM:(l.take (k+1)).map Li.nm=(l.take k).map Li.nm++ [l[k].nm]:=by rw[List.take_succ_eq_append_getElem hk,List.map_append];rfl
  rw[FM]
  generalize (l.take k).map Li.nm=seen at*
  generalize l[k]=u at*
  have leave: ∀e:Int,e≠0→r=e→o= .ret:=fun e he h=>by rw[ho,h,if_neg he]
  cases hd:kr u.nm with
  |false=>
   right
   rw[if_pos hd]at hr
   rw[hd]at mI
   simp(maxDischargeDepth:=6) only[qA,seval,jF,h3,nJ,nR,qC,fK,fF,mI,mS]
   refine⟨_,_,(by simp:Out.ret≠ .nrm),rfl,(leave _ (by decide) hr).symm,fun _=> ?_, ?_,fun h=>absurd (hr.symm.trans h) (by decide),rfl⟩ <;> simp(maxDischargeDepth:=6) only[qA,seval,hr,o1]
  |true=>
  rw[if_neg (by simp[hd])]at hr
  rw[hd]at mI
  by_cases hs:u.nm∈seen
  ·right
   rw[if_pos hs]at hr
   rw[decide_eq_true hs]at ja
   simp(maxDischargeDepth:=6) only[qA,seval,jF,h3,nJ,nR,qC,o8,fK,fF,mI,mS,ja]
   refine⟨_,_,(by simp:Out.ret≠ .nrm),rfl,(leave _ (by decide) hr).symm,fun _=> ?_, ?_,fun h=>absurd (hr.symm.trans h) (by decide),rfl⟩ <;> simp(maxDischargeDepth:=6) only[qA,seval,hr,o1]
  rw[if_neg hs]at hr
  rw[decide_eq_false hs]at ja
  have hmu:=fun lh kk=>hmu lh kk hs
  by_cases hm:GF u.me=0
  ·right
   rw[if_pos hm]at hr
   rw[hm]at QW
   simp(maxDischargeDepth:=6) only[qA,seval,jF,h3,nJ,nR,qC,o8,fK,fF,mI,mS,ja,QW,JO]
   refine⟨_,_,(by simp:Out.ret≠ .nrm),rfl,(leave _ (by decide) hr).symm,fun _=> ?_, ?_,fun h=>absurd (hr.symm.trans h) (by decide),rfl⟩ <;> simp(maxDischargeDepth:=6) only[qA,seval,hr,o1]
  rw[if_neg hm]at hr
  generalize GF u.me=me at*
  cases xt:kj u.mo 0 599999 with
  |false=>
   right
   rw[if_pos (.inl xt)]at hr
   rw[xt]at oR
   simp(maxDischargeDepth:=6) only[qA,seval,jF,h3,nJ,nR,qC,o8,fK,fF,mI,mS,ja,QW,JO,hm,oR,iv]
   refine⟨_,_,(by simp:Out.ret≠ .nrm),rfl,(leave _ (by decide) hr).symm,fun _=> ?_, ?_,fun h=>absurd (hr.symm.trans h) (by decide),rfl⟩ <;> simp(maxDischargeDepth:=6) only[qA,seval,hr,o1]
  |true=>
  rw[xt]at oR
  cases wJ:kj u.da 1 31 with
  |false=>
   right
   rw[if_pos (.inr wJ)]at hr
   rw[wJ]at qJ
   simp(maxDischargeDepth:=6) only[qA,seval,jF,h3,nJ,nR,qC,o8,fK,fF,mI,mS,ja,QW,JO,hm,oR,qJ,iv]
   refine⟨_,_,(by simp:Out.ret≠ .nrm),rfl,(leave _ (by decide) hr).symm,fun _=> ?_, ?_,fun h=>absurd (hr.symm.trans h) (by decide),rfl⟩ <;> simp(maxDischargeDepth:=6) only[qA,seval,hr,o1]
  |true=>
   left
   rw[if_neg (by simp[xt,wJ])]at hr
   rw[wJ]at qJ
   simp(maxDischargeDepth:=6) only[qA,seval,jF,h3,nJ,nR,qC,o8,fK,fF,hw,mI,mS,ja,hmu,QW,JO,hm,oR,qJ,iv]
   refine⟨_,rfl,_,_,rfl, ?_, ?_, ?_, ?_, ?_, ?_,hr⟩
   all_goals (simp(maxDischargeDepth:=6) only[qA,seval,h3,nJ,nR,o1])
 ·rintro _ ⟨fr,fG,rfl,h3,nJ,nR,qC,o1,o8,hr⟩
  rw[List.drop_length,MS]at hr
  rw[List.take_length]at o8
  simp(maxDischargeDepth:=6) only[qA,seval,jF,nR,qC,Int.lt_irrefl]
  exact⟨_,_,(by simp:Out.ext 0≠ .nrm),rfl,by rw[ho,hr];rfl,fun h=>absurd hr h,o1,fun _=>o8,rfl⟩
theorem ana(l:List Of)(s0:List (List Nat))(a:T)(cc:List T)(ha:fD a l.length cc)(hc:fy Ym l cc)(hlen:l.length≤om)(r:Int)(hr:r=Ny s0 l)(o:Out)(ho:o=if r=0 then .ext 3 else .ret)(g:Nat)(fr:Fr)(lh:fC fg)(sh:List fg)
  (h3:an fr 3= .mp .L 8 g) (QY:an fr 47=a) (J8:an fr 48= .i .i64 (l.length:Int)) (QZ:an fr 49= .i .i64 0) (o8:be lh 8=td g s0):
  DC pE 80 (.loop kV) ⟨fr,lh,sh⟩=some (o,⟨gr pE 80 kV fr lh sh,gp pE 80 kV fr lh sh,gn pE 80 kV fr lh sh⟩)∧
  ((r≠0→an (gr pE 80 kV fr lh sh) 2= .i .i64 r)∧gn pE 80 kV fr lh sh=sh):=by
 refine fq (P:=fun fR fH fL=>(r≠0→an fR 2= .i .i64 r)∧fL=sh)
  (fw (fun k st=> ∃(fr:Fr) (fG:fC fg),st=⟨fr,fG,sh⟩∧an fr 3= .mp .L 8 g∧an fr 47=a∧an fr 48= .i .i64 (l.length:Int)∧an fr 49= .i .i64 (k:Int)∧
    be fG 8=td g (s0++(l.take k).map Of.nm)∧r=Ny (s0++(l.take k).map Of.nm) (l.drop k)) _ l.length ?_ ?_ 0 _ (Nat.zero_le _) ⟨fr,lh,rfl,h3,QY,J8,QZ,by simpa using o8,by rw[hr];simp⟩)
 ·rintro k _ hk ⟨fr,fG,rfl,h3,QY,J8,QZ,o8,hr⟩
  have fK:(k:Int)<l.length:=by omega
  have hw:=fQ (k:=k) (by omega)
  obtain⟨rr,fF⟩:=Q0 ha hc k hk
  have mI:=rV l[k].nm
  have oR:=iQ l[k].da 1 31
  have qJ:=iQ l[k].ct 1 l[k].da
  have ja:=GC g (s0++(l.take k).map Of.nm) l[k].nm
  have hmu:=fun lh kk=>GD (lh:=lh) (kk:=kk) g (s0++(l.take k).map Of.nm) l[k].nm
  rw[List.drop_eq_getElem_cons hk,Ny]at hr
  have FM:s0++(l.take (k+1)).map Of.nm=(s0++(l.take k).map Of.nm)++ [l[k].nm]:=by rw[List.take_succ_eq_append_getElem hk,List.map_append,List.append_assoc];rfl
  rw[FM]
  generalize s0++(l.take k).map Of.nm=seen at*
  generalize l[k]=u at*
  have leave: ∀e:Int,e≠0→r=e→o= .ret:=fun e he h=>by rw[ho,h,if_neg he]
  cases hd:kr u.nm with
  |false=>
   right
   rw[if_pos hd]at hr
   rw[hd]at mI
   simp(maxDischargeDepth:=6) only[qA,seval,kV,h3,QY,J8,QZ,fK,fF,mI,mS]
   refine⟨_,_,(by simp:Out.ret≠ .nrm),rfl,(leave _ (by decide) hr).symm,fun _=> ?_,rfl⟩
   simp(maxDischargeDepth:=6) only[qA,seval,hr]
  |true=>
  rw[if_neg (by simp[hd])]at hr
  rw[hd]at mI
  by_cases hs:u.nm∈seen
  ·right
   rw[if_pos hs]at hr
   rw[decide_eq_true hs]at ja
   simp(maxDischargeDepth:=6) only[qA,seval,kV,h3,QY,J8,QZ,o8,fK,fF,mI,mS,ja]
   refine⟨_,_,(by simp:Out.ret≠ .nrm),rfl,(leave _ (by decide) hr).symm,fun _=> ?_,rfl⟩
   simp(maxDischargeDepth:=6) only[qA,seval,hr]
  rw[if_neg hs]at hr
  rw[decide_eq_false hs]at ja
  have hmu:=fun lh kk=>hmu lh kk hs
  cases xt:kj u.da 1 31 with
  |false=>
   right
   rw[if_pos (.inl xt)]at hr
   rw[xt]at oR
   simp(maxDischargeDepth:=6) only[qA,seval,kV,h3,QY,J8,QZ,o8,fK,fF,mI,mS,ja,oR,iv]
   refine⟨_,_,(by simp:Out.ret≠ .nrm),rfl,(leave _ (by decide) hr).symm,fun _=> ?_,rfl⟩
   simp(maxDischargeDepth:=6) only[qA,seval,hr]
  |true=>
  rw[xt]at oR
  cases wJ:kj u.ct 1 u.da with
  |false=>
   right
   rw[if_pos (.inr wJ)]at hr
   rw[wJ]at qJ
   simp(maxDischargeDepth:=6) only[qA,seval,kV,h3,QY,J8,QZ,o8,fK,fF,mI,mS,ja,oR,qJ,iv]
   refine⟨_,_,(by simp:Out.ret≠ .nrm),rfl,(leave _ (by decide) hr).symm,fun _=> ?_,rfl⟩
   simp(maxDischargeDepth:=6) only[qA,seval,hr]
  |true=>
   left
   rw[if_neg (by simp[xt,wJ])]at hr
   rw[wJ]at qJ
   simp(maxDischargeDepth:=6) only[qA,seval,kV,h3,QY,J8,QZ,o8,fK,fF,hw,mI,mS,ja,hmu,oR,qJ,iv]
   refine⟨_,rfl,_,_,rfl, ?_, ?_, ?_, ?_, ?_,hr⟩
   all_goals (simp(maxDischargeDepth:=6) only[qA,seval,h3,QY,J8])
 ·rintro _ ⟨fr,fG,rfl,h3,QY,J8,QZ,o8,hr⟩
  rw[List.drop_length,Ny]at hr
  simp(maxDischargeDepth:=6) only[qA,seval,kV,J8,QZ,Int.lt_irrefl]
  exact⟨_,_,(by simp:Out.ext 3≠ .nrm),rfl,by rw[ho,hr];rfl,fun h=>absurd hr h,rfl⟩
structure xu (c:Ct) (a7 a8 a9 a10 fB fA:T):Prop where
 h7: ∃cc,fD a7 c.cs.length cc∧iR c.cs cc
 h8: ∃cc,fD a8 c.ru.length cc∧fy Nz c.ru cc
 h9: ∃cc,fD a9 c.co.length cc∧fy SU c.co cc
 nJ: ∃cc,fD a10 c.cr.length cc∧hH c.cr cc
 nR: ∃cc,fD fB c.li.length cc∧fy Vo c.li cc
 qC: ∃cc,fD fA c.fs.length cc∧fy Ym c.fs cc
structure A8 (c:Ct):Prop where
 s7:Q1 c.cs∧c.cs.length≤om
 s8:(∀u∈c.ru,HC u.x)∧c.ru.length≤om
 s9:(∀u∈c.co,HC u.x)∧c.co.length≤om
 s10:(∀x∈c.cr,HC x)∧c.cr.length≤om
 s11:c.li.length≤om
 s12:c.fs.length≤om
section
variable(c:Ct)(a7 a8 a9 a10 fB fA:T)(hT:xu c a7 a8 a9 a10 fB fA)(hS:A8 c)
def fX:List T:= [.i .i64 c.rp,.i .i64 c.rl,.i .i64 c.cn,.i .i64 c.st,.i .i64 c.ly,.i .i64 c.nf,.i .i64 c.nt,a7,a8,a9,a10,fB,fA,.i .i64 c.gu]
include hT hS
theorem aaV:fj pE 230 [.agg (fX c a7 a8 a9 a10 fB fA)] []=some (.i .i64 (Q2 c),[]):=by
 obtain⟨⟨c7,i7,_⟩,⟨c8,i8,_⟩,⟨c9,i9,_⟩,⟨pw,i10,_⟩,⟨pX,i11,tu⟩,⟨qD,i12,tT⟩⟩:=hT
 rw[fx W7 (by simp[HU])]
 have hL:=fun c1 fr lh sh h3 nJ nR qC o8 o1=>am9 c.li fB pX i11 tu hS.s11 _ rfl _ rfl 1 c1 fr lh sh h3 nJ nR qC o8 o1
 have hL:=fun fr lh sh h3 nJ nR qC o8 o1=>hL ⟨1,.cells (fX c a7 a8 a9 a10 fB fA) 0 true⟩ fr lh sh h3 nJ nR qC o8 o1
 have hO:=fun fr lh sh h3 QY J8 QZ o8=>ana c.fs (c.li.map Li.nm) fA qD i12 tT hS.s12 _ rfl _ rfl 1 fr lh sh h3 QY J8 QZ o8
 unfold Q2 fX
 unfold fX at hL
 rw[show td 1 []=⟨1,.map [] [] false⟩from rfl]at hL
 by_cases h0:MS [] c.li=0
 ·rw[if_neg (by simp[h0])]
  rw[h0]at hL
  simp only[if_true,ne_eq,not_true_eq_false,false_implies,true_and,forall_const]at hL
  by_cases h1:Ny (c.li.map Li.nm) c.fs=0
  ·rw[h1]at hO
   simp only[if_true,ne_eq,not_true_eq_false,false_implies,true_and]at hO
   simp(maxDischargeDepth:=6) only[qA,seval,HU,Ci,i11.lenI,i12.lenI,hL,hO,h1]
  ·simp only[h1,if_false,ne_eq,not_false_eq_true,forall_const]at hO
   simp(maxDischargeDepth:=6) only[qA,seval,HU,Ci,i11.lenI,i12.lenI,hL,hO]
 ·rw[if_pos h0]
  simp only[h0,if_false,ne_eq,not_false_eq_true,forall_const,false_implies,true_and]at hL
  simp(maxDischargeDepth:=6) only[qA,seval,HU,i11.lenI,hL]
end
end Go.Proofs.YtblcbheipjeoeaaGreat
namespace Go.Proofs.YtblcbheipjeoeaaGreat
open Go Go.Ev
theorem anb(l:List Co)(a:T)(cc:List T)(ha:fD a l.length cc)(hc:fy SU l cc)(hlen:l.length≤om)(oh: ∀u∈l,HC u.x)(r:Int)(hr:r=IP l)(o:Out)(ho:o=if r=0 then .ext 1 else .ret)(c1:fg)(fr:Fr)(lh:fC fg)(sh:List fg)
  (Vp:an fr 84=a) (SV:an fr 85= .i .i64 (l.length:Int)) (Vq:an fr 86= .i .i64 0) (o1:be lh 1=c1):
  DC pE 116 (.loop lF) ⟨fr,lh,sh⟩=some (o,⟨gr pE 116 lF fr lh sh,gp pE 116 lF fr lh sh,gn pE 116 lF fr lh sh⟩)∧
  ((r≠0→an (gr pE 116 lF fr lh sh) 2= .i .i64 r)∧be (gp pE 116 lF fr lh sh) 1=c1∧gn pE 116 lF fr lh sh=sh):=by
 refine fq (P:=fun fR fH fL=>(r≠0→an fR 2= .i .i64 r)∧be fH 1=c1∧fL=sh)
  (fw (fun k st=> ∃(fr:Fr) (fG:fC fg),st=⟨fr,fG,sh⟩∧an fr 84=a∧an fr 85= .i .i64 (l.length:Int)∧an fr 86= .i .i64 (k:Int)∧be fG 1=c1∧r=IP (l.drop k)) _ l.length ?_ ?_ 0 _ (Nat.zero_le _) ⟨fr,lh,rfl,Vp,SV,Vq,o1,by rw[hr];rfl⟩)
 ·rintro k _ hk ⟨fr,fG,rfl,Vp,SV,Vq,o1,hr⟩
  have fK:(k:Int)<l.length:=by omega
  have hw:=fQ (k:=k) (by omega)
  obtain⟨b,cb,rr,fF,iK,hb⟩:=C2 ha hc k hk
  obtain⟨HD,A9⟩:=oh l[k] (List.getElem_mem hk)
  have k6:=C3 l[k].sc
  have uN:=fun z fr lh sh=>rX (z:=z) (fr:=fr) (lh:=lh) (sh:=sh) l[k].x _ hb HD A9
  rw[List.drop_eq_getElem_cons hk,IP]at hr
  have leave: ∀e:Int,e≠0→r=e→o= .ret:=fun e he h=>by rw[ho,h,if_neg he]
  cases hq:kj l[k].sc 1 3 with
  |false=>
   right
   rw[if_pos hq]at hr
   rw[hq]at k6
   simp(maxDischargeDepth:=6) only[qA,seval,lF,Vp,SV,Vq,fK,fF,k6,yo]
   refine⟨_,_,(by simp:Out.ret≠ .nrm),rfl,(leave _ (by decide) hr).symm,fun _=> ?_, ?_,rfl⟩ <;> simp(maxDischargeDepth:=6) only[qA,seval,hr,o1]
  |true=>
   rw[if_neg (by simp[hq])]at hr
   rw[hq]at k6
   by_cases hv:fP l[k].x=0
   ·left
    rw[if_neg (by simp[hv])]at hr
    rw[hv]at uN
    simp(maxDischargeDepth:=6) only[qA,seval,lF,Vp,SV,Vq,fK,fF,hw,k6,yo,uN]
    refine⟨_,rfl,_,_,rfl, ?_, ?_, ?_, ?_,hr⟩
    all_goals (simp(maxDischargeDepth:=6) only[qA,seval,Vp,SV,o1])
   ·right
    rw[if_pos hv]at hr
    generalize fP l[k].x=e at*
    simp(maxDischargeDepth:=6) only[qA,seval,lF,Vp,SV,Vq,fK,fF,k6,yo,uN,hv]
    refine⟨_,_,(by simp:Out.ret≠ .nrm),rfl,(leave _ hv hr).symm,fun _=> ?_, ?_,rfl⟩ <;> simp(maxDischargeDepth:=6) only[qA,seval,hr,o1]
 ·rintro _ ⟨fr,fG,rfl,Vp,SV,Vq,o1,hr⟩
  rw[List.drop_length,IP]at hr
  simp(maxDischargeDepth:=6) only[qA,seval,lF,SV,Vq,Int.lt_irrefl]
  exact⟨_,_,(by simp:Out.ext 1≠ .nrm),rfl,by rw[ho,hr];rfl,fun h=>absurd hr h,o1,rfl⟩
theorem anc(l:List Ex)(a:T)(cc:List T)(ha:fD a l.length cc)(hc:hH l cc)(hlen:l.length≤om)(oh: ∀x∈l,HC x)(r:Int)(hr:r=IQ l)(o:Out)(ho:o=if r=0 then .ext 3 else .ret)(c1:fg)(fr:Fr)(lh:fC fg)(sh:List fg)
  (GG:an fr 102=a) (Ed:an fr 103= .i .i64 (l.length:Int)) (GH:an fr 104= .i .i64 0) (o1:be lh 1=c1):
  DC pE 116 (.loop mq) ⟨fr,lh,sh⟩=some (o,⟨gr pE 116 mq fr lh sh,gp pE 116 mq fr lh sh,gn pE 116 mq fr lh sh⟩)∧
  ((r≠0→an (gr pE 116 mq fr lh sh) 2= .i .i64 r)∧be (gp pE 116 mq fr lh sh) 1=c1∧gn pE 116 mq fr lh sh=sh):=by
 refine fq (P:=fun fR fH fL=>(r≠0→an fR 2= .i .i64 r)∧be fH 1=c1∧fL=sh)
  (fw (fun k st=> ∃(fr:Fr) (fG:fC fg),st=⟨fr,fG,sh⟩∧an fr 102=a∧an fr 103= .i .i64 (l.length:Int)∧an fr 104= .i .i64 (k:Int)∧be fG 1=c1∧r=IQ (l.drop k)) _ l.length ?_ ?_ 0 _ (Nat.zero_le _) ⟨fr,lh,rfl,GG,Ed,GH,o1,by rw[hr];rfl⟩)
 ·rintro k _ hk ⟨fr,fG,rfl,GG,Ed,GH,o1,hr⟩
  have fK:(k:Int)<l.length:=by omega
  have hw:=fQ (k:=k) (by omega)
  obtain⟨b,cb,rr,fF,iK,oS,hb⟩:=nw ha hc k hk
  obtain⟨HD,A9⟩:=oh l[k] (List.getElem_mem hk)
  have uN:=fun z fr lh sh=>rX (z:=z) (fr:=fr) (lh:=lh) (sh:=sh) l[k] _ hb HD A9
  rw[List.drop_eq_getElem_cons hk,IQ]at hr
  have leave: ∀e:Int,e≠0→r=e→o= .ret:=fun e he h=>by rw[ho,h,if_neg he]
  by_cases hv:fP l[k]=0
  ·left
   rw[if_neg (by simp[hv])]at hr
   rw[hv]at uN
   simp(maxDischargeDepth:=6) only[qA,seval,mq,GG,Ed,GH,fK,fF,hw,uN]
   refine⟨_,rfl,_,_,rfl, ?_, ?_, ?_, ?_,hr⟩
   all_goals (simp(maxDischargeDepth:=6) only[qA,seval,GG,Ed,o1])
  ·right
   rw[if_pos hv]at hr
   generalize fP l[k]=e at*
   simp(maxDischargeDepth:=6) only[qA,seval,mq,GG,Ed,GH,fK,fF,uN,hv]
   refine⟨_,_,(by simp:Out.ret≠ .nrm),rfl,(leave _ hv hr).symm,fun _=> ?_, ?_,rfl⟩ <;> simp(maxDischargeDepth:=6) only[qA,seval,hr,o1]
 ·rintro _ ⟨fr,fG,rfl,GG,Ed,GH,o1,hr⟩
  rw[List.drop_length,IQ]at hr
  simp(maxDischargeDepth:=6) only[qA,seval,mq,Ed,GH,Int.lt_irrefl]
  exact⟨_,_,(by simp:Out.ext 3≠ .nrm),rfl,by rw[ho,hr];rfl,fun h=>absurd hr h,o1,rfl⟩
section
variable(c:Ct)(a7 a8 a9 a10 fB fA:T)(hT:xu c a7 a8 a9 a10 fB fA)(hS:A8 c)
include hT hS
theorem Q3:fj pE 142 [.agg (fX c a7 a8 a9 a10 fB fA)] []=some (.i .i64 (lA c),[]):=by
 have hvw:=aaV c a7 a8 a9 a10 fB fA hT hS
 obtain⟨⟨c7,i7,j7⟩,⟨c8,i8,j8⟩,⟨c9,i9,j9⟩,⟨pw,i10,rY⟩,⟨pX,i11,tu⟩,⟨qD,i12,tT⟩⟩:=hT
 have SW:=aaW c.cs a7 c7 i7 j7 hS.s7.2 hS.s7.1
 have hvr:=aaX c.ru a8 c8 i8 j8 hS.s8.2 hS.s8.1
 have hL:=fun fr lh sh Vp SV Vq o1=>anb c.co a9 c9 i9 j9 hS.s9.2 hS.s9.1 _ rfl _ rfl ⟨1,.cells (fX c a7 a8 a9 a10 fB fA) 0 true⟩ fr lh sh Vp SV Vq o1
 have hM:=fun fr lh sh GG Ed GH o1=>anc c.cr a10 pw i10 rY hS.s10.2 hS.s10.1 _ rfl _ rfl ⟨1,.cells (fX c a7 a8 a9 a10 fB fA) 0 true⟩ fr lh sh GG Ed GH o1
 unfold fX at hL hM hvw ⊢
 rw[fx Ov (by simp[kz])]
 unfold lA qu qW
 have w0:=iQ c.rp 0 1440
 have w1:=iQ c.rl 0 1440
 have w2:=iQ c.cn 0 1440
 have w3:=iQ c.st c.cn 1440
 have w4:=iQ c.ly 0 10080
 have w5:=iQ c.nf 0 1439
 have w6:=iQ c.nt 0 1439
 have w7:=iQ c.gu 0 599999
 cases q0:kj c.rp 0 1440 with
 |false=>
  rw[q0]at w0
  simp(maxDischargeDepth:=6) only[qA,seval,kz,w0,iv]
 |true=>
 rw[q0]at w0
 cases q1:kj c.rl 0 1440 with
 |false=>
  rw[q1]at w1
  simp(maxDischargeDepth:=6) only[qA,seval,kz,w0,w1,iv]
 |true=>
 rw[q1]at w1
 cases q2:kj c.cn 0 1440 with
 |false=>
  rw[q2]at w2
  simp(maxDischargeDepth:=6) only[qA,seval,kz,w0,w1,w2,iv]
 |true=>
 rw[q2]at w2
 cases q3:kj c.st c.cn 1440 with
 |false=>
  rw[q3]at w3
  simp(maxDischargeDepth:=6) only[qA,seval,kz,w0,w1,w2,w3,iv]
 |true=>
 rw[q3]at w3
 cases q4:kj c.ly 0 10080 with
 |false=>
  rw[q4]at w4
  simp(maxDischargeDepth:=6) only[qA,seval,kz,w0,w1,w2,w3,w4,iv]
 |true=>
 rw[q4]at w4
 cases q5:kj c.nf 0 1439 with
 |false=>
  rw[q5]at w5
  simp(maxDischargeDepth:=6) only[qA,seval,kz,w0,w1,w2,w3,w4,w5,iv]
 |true=>
 rw[q5]at w5
 cases q6:kj c.nt 0 1439 with
 |false=>
  rw[q6]at w6
  simp(maxDischargeDepth:=6) only[qA,seval,kz,w0,w1,w2,w3,w4,w5,w6,iv]
 |true=>
 rw[q6]at w6
 cases q7:kj c.gu 0 599999 with
 |false=>
  rw[q7]at w7
  simp(maxDischargeDepth:=6) only[qA,seval,kz,w0,w1,w2,w3,w4,w5,w6,w7,iv]
 |true=>
 rw[q7]at w7
 by_cases n0:(32:Int)<(c.cs.length:Int)
 ·have d0:decide (c.cs.length≤32)=false:=decide_eq_false (by omega)
  simp(maxDischargeDepth:=6) only[qA,seval,kz,i7.lenI,i8.lenI,i9.lenI,i10.lenI,i11.lenI,i12.lenI,w0,w1,w2,w3,w4,w5,w6,w7,iv,n0,d0]
 have d0:decide (c.cs.length≤32)=true:=decide_eq_true (by omega)
 by_cases n1:(40:Int)<(c.ru.length:Int)
 ·have d1:decide (c.ru.length≤40)=false:=decide_eq_false (by omega)
  simp(maxDischargeDepth:=6) only[qA,seval,kz,i7.lenI,i8.lenI,i9.lenI,i10.lenI,i11.lenI,i12.lenI,w0,w1,w2,w3,w4,w5,w6,w7,iv,n0,n1,d0,d1]
 have d1:decide (c.ru.length≤40)=true:=decide_eq_true (by omega)
 by_cases n2:(16:Int)<(c.co.length:Int)
 ·have d2:decide (c.co.length≤16)=false:=decide_eq_false (by omega)
  simp(maxDischargeDepth:=6) only[qA,seval,kz,i7.lenI,i8.lenI,i9.lenI,i10.lenI,i11.lenI,i12.lenI,w0,w1,w2,w3,w4,w5,w6,w7,iv,n0,n1,n2,d0,d1,d2]
 have d2:decide (c.co.length≤16)=true:=decide_eq_true (by omega)
 by_cases n3:(1:Int)<(c.cr.length:Int)
 ·have d3:decide (c.cr.length≤1)=false:=decide_eq_false (by omega)
  simp(maxDischargeDepth:=6) only[qA,seval,kz,i7.lenI,i8.lenI,i9.lenI,i10.lenI,i11.lenI,i12.lenI,w0,w1,w2,w3,w4,w5,w6,w7,iv,n0,n1,n2,n3,d0,d1,d2,d3]
 have d3:decide (c.cr.length≤1)=true:=decide_eq_true (by omega)
 by_cases n4:(16:Int)<(c.li.length:Int)
 ·have d4:decide (c.li.length≤16)=false:=decide_eq_false (by omega)
  simp(maxDischargeDepth:=6) only[qA,seval,kz,i7.lenI,i8.lenI,i9.lenI,i10.lenI,i11.lenI,i12.lenI,w0,w1,w2,w3,w4,w5,w6,w7,iv,n0,n1,n2,n3,n4,d0,d1,d2,d3,d4]
 have d4:decide (c.li.length≤16)=true:=decide_eq_true (by omega)
 by_cases n5:(16:Int)<(c.fs.length:Int)
 ·have d5:decide (c.fs.length≤16)=false:=decide_eq_false (by omega)
  simp(maxDischargeDepth:=6) only[qA,seval,kz,i7.lenI,i8.lenI,i9.lenI,i10.lenI,i11.lenI,i12.lenI,w0,w1,w2,w3,w4,w5,w6,w7,iv,n0,n1,n2,n3,n4,n5,d0,d1,d2,d3,d4,d5]
 have d5:decide (c.fs.length≤16)=true:=decide_eq_true (by omega)
 rw[d0,d1,d2,d3,d4,d5]
 simp only[Bool.and_self,Bool.true_eq_false,if_false]
 by_cases e1:HE [] c.cs=0
 ·rw[e1]at SW
  rw[if_neg (by simp[e1])]
  by_cases e2:Ee [] c.ru=0
  ·rw[e2]at hvr
   rw[if_neg (by simp[e2])]
   by_cases e3:IP c.co=0
   ·rw[e3]at hL
    rw[if_neg (by simp[e3])]
    simp only[if_true,ne_eq,not_true_eq_false,false_implies,true_and]at hL
    by_cases e4:IQ c.cr=0
    ·rw[e4]at hM
     rw[if_neg (by simp[e4])]
     simp only[if_true,ne_eq,not_true_eq_false,false_implies,true_and]at hM
     simp(maxDischargeDepth:=6) only[qA,seval,kz,Lm,Cg,i7.lenI,i8.lenI,i9.lenI,i10.lenI,i11.lenI,i12.lenI,i7.froz,i8.froz,i7.froz1,i8.froz1,i9.froz1,i10.froz1,i11.froz1,i12.froz1,w0,w1,w2,w3,w4,w5,w6,w7,iv,n0,n1,n2,n3,n4,n5,SW,Fx,hvr,JL,hL,hM,hvw,agb]
    ·rw[if_pos e4]
     simp only[e4,if_false,ne_eq,not_false_eq_true,forall_const]at hM
     simp(maxDischargeDepth:=6) only[qA,seval,kz,Cg,i7.lenI,i8.lenI,i9.lenI,i10.lenI,i11.lenI,i12.lenI,i7.froz,i8.froz,w0,w1,w2,w3,w4,w5,w6,w7,iv,n0,n1,n2,n3,n4,n5,SW,Fx,hvr,JL,hL,hM]
   ·rw[if_pos e3]
    simp only[e3,if_false,ne_eq,not_false_eq_true,forall_const]at hL
    simp(maxDischargeDepth:=6) only[qA,seval,kz,i7.lenI,i8.lenI,i9.lenI,i10.lenI,i11.lenI,i12.lenI,i7.froz,i8.froz,w0,w1,w2,w3,w4,w5,w6,w7,iv,n0,n1,n2,n3,n4,n5,SW,Fx,hvr,JL,hL]
  ·rw[if_pos e2]
   generalize Ee [] c.ru=e at*
   simp(maxDischargeDepth:=6) only[qA,seval,kz,i7.lenI,i8.lenI,i9.lenI,i10.lenI,i11.lenI,i12.lenI,i7.froz,i8.froz,w0,w1,w2,w3,w4,w5,w6,w7,iv,n0,n1,n2,n3,n4,n5,SW,Fx,hvr,JL,e2]
 ·rw[if_pos e1]
  generalize HE [] c.cs=e at*
  simp(maxDischargeDepth:=6) only[qA,seval,kz,i7.lenI,i8.lenI,i9.lenI,i10.lenI,i11.lenI,i12.lenI,i7.froz,w0,w1,w2,w3,w4,w5,w6,w7,iv,n0,n1,n2,n3,n4,n5,SW,Fx,e1]
end
end Go.Proofs.YtblcbheipjeoeaaGreat
namespace Go.Proofs.YtblcbheipjeoeaaGreat
open Go Go.Ev
theorem iF(n lo hi:Int):fj pE 240 [.i .i64 n,.i .i64 lo,.i .i64 hi] []=some (.b (kj n lo hi),[]):=by
 rw[fx Xd (by simp[N6])]
 unfold kj
 by_cases h:lo≤n <;> simp(maxDischargeDepth:=6) only[qA,seval,N6,h]
theorem oO{α:Type}[DecidableEq α]{l:List α}{j n:Nat}(hj:j<n)(hl:j<l.length){s:α}(h:l[j]=s):s∈l.take n:=by
 rw[List.mem_iff_getElem]
 exact⟨j,by rw[List.length_take];omega,by rw[List.getElem_take];exact h⟩
theorem mf{α:Type}[DecidableEq α]{l:List α}{j:Nat}(hl:j<l.length){s:α}(h1:s∉l.take j)(h2: ¬l[j]=s):s∉l.take (j+1):=by
 rw[List.take_succ_eq_append_getElem hl,List.mem_append,List.mem_singleton]
 rintro(h|h)
 ·exact h1 h
 ·exact h2 h.symm
theorem ane(l:List Li)(a:T)(cc:List T)(ha:fD a l.length cc)(hc:fy Vo l cc)(hlen:l.length≤om)(n:Nat)(hn:n≤l.length)(s:List Nat)(o:Out)(ho:o=if s∈(l.map Li.nm).take n then .ret else .ext 2)(c:Ct)(a7 a8 a9 a10 fA:T)(r4:List T)(G1 G4:Nat)(fr:Fr)(lh:fC fg)(sh:List fg)(g1:an fr 1= .ptr .L 1 G1 0)(g3:an fr 3= .i .i64 (n:Int))(g4:an fr 4= .ptr .L 4 G4 0)(gi:an fr 5= .i .i64 0)(o1:be lh 1=⟨G1,.cells (fX c a7 a8 a9 a10 a fA) 0 true⟩)(o4:be lh 4=⟨G4,.cells (.s s::r4) 0 true⟩):
  DC pE 112 (.loop mC) ⟨fr,lh,sh⟩=some (o,⟨gr pE 112 mC fr lh sh,gp pE 112 mC fr lh sh,gn pE 112 mC fr lh sh⟩)∧((s∈(l.map Li.nm).take n→an (gr pE 112 mC fr lh sh) 2= .i .i64 7)∧gp pE 112 mC fr lh sh=lh∧gn pE 112 mC fr lh sh=sh):=by
 refine fq (P:=fun fR fH fL=>(s∈(l.map Li.nm).take n→an fR 2= .i .i64 7)∧fH=lh∧fL=sh) (fw (fun j st=> ∃fr:Fr,st=⟨fr,lh,sh⟩∧an fr 1= .ptr .L 1 G1 0∧an fr 3= .i .i64 (n:Int)∧an fr 4= .ptr .L 4 G4 0∧an fr 5= .i .i64 (j:Int)∧s∉(l.map Li.nm).take j) _ n ?_ ?_ 0 _ (Nat.zero_le _) ⟨fr,rfl,g1,g3,g4,gi,by simp⟩)
 ·rintro j _ hj ⟨fr,rfl,g1,g3,g4,gi,lU⟩
  have rN:j<l.length:=by omega
  have KA:j<(l.map Li.nm).length:=by rw[List.length_map];exact rN
  have HF:(j:Int)<n:=by omega
  have hw:=fQ (k:=j) (by omega)
  obtain⟨rr,fF⟩:=Kz ha hc j rN
  by_cases j6:Li.nm l[j]=s
  ·right
   have tp:s∈(l.map Li.nm).take n:=oO hj KA (by rw[List.getElem_map];exact j6)
   change l[j].nm=s at j6
   simp(maxDischargeDepth:=6) only[qA,seval,mC,g1,g3,g4,gi,HF,fF,j6,o1,o4,fX]
   exact⟨_,_,(by simp:Out.ret≠ .nrm),rfl,by rw[ho,if_pos tp],fun _=>by simp(maxDischargeDepth:=6) only[qA,seval],rfl,rfl⟩
  ·left
   have B9:=mf KA lU (by rw[List.getElem_map];exact j6)
   change ¬l[j].nm=s at j6
   simp(maxDischargeDepth:=6) only[qA,seval,mC,g1,g3,g4,gi,HF,fF,hw,j6,o1,o4,fX]
   refine⟨_,rfl,_,rfl, ?_, ?_, ?_, ?_,B9⟩
   all_goals (simp(maxDischargeDepth:=6) only[qA,seval,g1,g3,g4])
 ·rintro _ ⟨fr,rfl,g1,g3,g4,gi,lU⟩
  simp(maxDischargeDepth:=6) only[qA,seval,mC,g3,gi,Int.lt_irrefl]
  exact⟨_,_,(by simp:Out.ext 2≠ .nrm),rfl,by rw[ho,if_neg lU],fun h=>absurd h lU,rfl,rfl⟩
theorem anf(l:List Li)(a:T)(cc:List T)(ha:fD a l.length cc)(hc:fy Vo l cc)(hlen:l.length≤om)(n:Nat)(hn:n≤l.length)(s:List Nat)(o:Out)(ho:o=if s∈(l.map Li.nm).take n then .ret else .ext 6)(c:Ct)(a7 a8 a9 a10 fA:T)(r7:List T)(G1 G7:Nat)(fr:Fr)(lh:fC fg)(sh:List fg)(g1:an fr 1= .ptr .L 1 G1 0)(g7:an fr 7= .ptr .L 7 G7 0)(gi:an fr 8= .i .i64 0)(FZ:n=l.length)(o1:be lh 1=⟨G1,.cells (fX c a7 a8 a9 a10 a fA) 0 true⟩)(o7:be lh 7=⟨G7,.cells (.s s::r7) 0 true⟩):
  DC pE 112 (.loop mB) ⟨fr,lh,sh⟩=some (o,⟨gr pE 112 mB fr lh sh,gp pE 112 mB fr lh sh,gn pE 112 mB fr lh sh⟩)∧((s∈(l.map Li.nm).take n→an (gr pE 112 mB fr lh sh) 2= .i .i64 7)∧gp pE 112 mB fr lh sh=lh∧gn pE 112 mB fr lh sh=sh):=by
 have tU:((l.length:Nat):Int)=(n:Int):=by omega
 refine fq (P:=fun fR fH fL=>(s∈(l.map Li.nm).take n→an fR 2= .i .i64 7)∧fH=lh∧fL=sh) (fw (fun j st=> ∃fr:Fr,st=⟨fr,lh,sh⟩∧an fr 1= .ptr .L 1 G1 0∧an fr 7= .ptr .L 7 G7 0∧an fr 8= .i .i64 (j:Int)∧s∉(l.map Li.nm).take j) _ n ?_ ?_ 0 _ (Nat.zero_le _) ⟨fr,rfl,g1,g7,gi,by simp⟩)
 ·rintro j _ hj ⟨fr,rfl,g1,g7,gi,lU⟩
  have rN:j<l.length:=by omega
  have KA:j<(l.map Li.nm).length:=by rw[List.length_map];exact rN
  have HF:(j:Int)<n:=by omega
  have hw:=fQ (k:=j) (by omega)
  obtain⟨rr,fF⟩:=Kz ha hc j rN
  by_cases j6:Li.nm l[j]=s
  ·right
   have tp:s∈(l.map Li.nm).take n:=oO hj KA (by rw[List.getElem_map];exact j6)
   change l[j].nm=s at j6
   simp(maxDischargeDepth:=6) only[qA,seval,mB,g1,g7,gi,ha.lenI,tU,HF,fF,j6,o1,o7,fX]
   exact⟨_,_,(by simp:Out.ret≠ .nrm),rfl,by rw[ho,if_pos tp],fun _=>by simp(maxDischargeDepth:=6) only[qA,seval],rfl,rfl⟩
  ·left
   have B9:=mf KA lU (by rw[List.getElem_map];exact j6)
   change ¬l[j].nm=s at j6
   simp(maxDischargeDepth:=6) only[qA,seval,mB,g1,g7,gi,ha.lenI,tU,HF,fF,hw,j6,o1,o7,fX]
   refine⟨_,rfl,_,rfl, ?_, ?_, ?_,B9⟩
   all_goals (simp(maxDischargeDepth:=6) only[qA,seval,g1,g7])
 ·rintro _ ⟨fr,rfl,g1,g7,gi,lU⟩
  simp(maxDischargeDepth:=6) only[qA,seval,mB,g1,gi,ha.lenI,tU,Int.lt_irrefl,o1,fX]
  exact⟨_,_,(by simp:Out.ext 6≠ .nrm),rfl,by rw[ho,if_neg lU],fun h=>absurd h lU,rfl,rfl⟩
theorem ang(l:List Of)(a:T)(cc:List T)(ha:fD a l.length cc)(hc:fy Ym l cc)(hlen:l.length≤om)(n:Nat)(hn:n≤l.length)(s:List Nat)(o:Out)(ho:o=if s∈(l.map Of.nm).take n then .ret else .ext 8)(c:Ct)(a7 a8 a9 a10 fB:T)(r7:List T)(G1 G7:Nat)(fr:Fr)(lh:fC fg)(sh:List fg)(g1:an fr 1= .ptr .L 1 G1 0)(g6:an fr 6= .i .i64 (n:Int))(g7:an fr 7= .ptr .L 7 G7 0)(gi:an fr 9= .i .i64 0)(o1:be lh 1=⟨G1,.cells (fX c a7 a8 a9 a10 fB a) 0 true⟩)(o7:be lh 7=⟨G7,.cells (.s s::r7) 0 true⟩):
  DC pE 112 (.loop mA) ⟨fr,lh,sh⟩=some (o,⟨gr pE 112 mA fr lh sh,gp pE 112 mA fr lh sh,gn pE 112 mA fr lh sh⟩)∧((s∈(l.map Of.nm).take n→an (gr pE 112 mA fr lh sh) 2= .i .i64 7)∧gp pE 112 mA fr lh sh=lh∧gn pE 112 mA fr lh sh=sh):=by
 refine fq (P:=fun fR fH fL=>(s∈(l.map Of.nm).take n→an fR 2= .i .i64 7)∧fH=lh∧fL=sh) (fw (fun j st=> ∃fr:Fr,st=⟨fr,lh,sh⟩∧an fr 1= .ptr .L 1 G1 0∧an fr 6= .i .i64 (n:Int)∧an fr 7= .ptr .L 7 G7 0∧an fr 9= .i .i64 (j:Int)∧s∉(l.map Of.nm).take j) _ n ?_ ?_ 0 _ (Nat.zero_le _) ⟨fr,rfl,g1,g6,g7,gi,by simp⟩)
 ·rintro j _ hj ⟨fr,rfl,g1,g6,g7,gi,lU⟩
  have rN:j<l.length:=by omega
  have KA:j<(l.map Of.nm).length:=by rw[List.length_map];exact rN
  have HF:(j:Int)<n:=by omega
  have hw:=fQ (k:=j) (by omega)
  obtain⟨rr,fF⟩:=Q0 ha hc j rN
  by_cases j6:Of.nm l[j]=s
  ·right
   have tp:s∈(l.map Of.nm).take n:=oO hj KA (by rw[List.getElem_map];exact j6)
   change l[j].nm=s at j6
   simp(maxDischargeDepth:=6) only[qA,seval,mA,g1,g6,g7,gi,HF,fF,j6,o1,o7,fX]
   exact⟨_,_,(by simp:Out.ret≠ .nrm),rfl,by rw[ho,if_pos tp],fun _=>by simp(maxDischargeDepth:=6) only[qA,seval],rfl,rfl⟩
  ·left
   have B9:=mf KA lU (by rw[List.getElem_map];exact j6)
   change ¬l[j].nm=s at j6
   simp(maxDischargeDepth:=6) only[qA,seval,mA,g1,g6,g7,gi,HF,fF,hw,j6,o1,o7,fX]
   refine⟨_,rfl,_,rfl, ?_, ?_, ?_, ?_,B9⟩
   all_goals (simp(maxDischargeDepth:=6) only[qA,seval,g1,g6,g7])
 ·rintro _ ⟨fr,rfl,g1,g6,g7,gi,lU⟩
  simp(maxDischargeDepth:=6) only[qA,seval,mA,g6,gi,Int.lt_irrefl]
  exact⟨_,_,(by simp:Out.ext 8≠ .nrm),rfl,by rw[ho,if_neg lU],fun h=>absurd h lU,rfl,rfl⟩
end Go.Proofs.YtblcbheipjeoeaaGreat
