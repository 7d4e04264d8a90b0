/- The program's check of a contract's types. The program's check of a contract's types, as a whole. The reference's check of a contract's types. Conditions: the theorems' own. -/
import Derived.Test.YtblcbheipjeoeaaGreatM11
import Derived.KernelRfl
set_option maxRecDepth 100000
set_option linter.unusedSimpArgs false
set_option linter.unusedVariables false
set_option maxHeartbeats 16000000
namespace Go.Proofs.YtblcbheipjeoeaaGreat
open Go Go.Ev
def Ca(s:List Nat):Prop:=jc 1 s≠0∨jc 2 s≠0∨jc 3 s≠0
instance (s:List Nat):Decidable (Ca s):=by unfold Ca;infer_instance
def MT(l:Cs):Nat→Cs→Int
 |_,[]=>0
 |k,c::r=>if Ca c.1 then 7 else if(tq l k).2≠0 then(tq l k).2 else MT l (k+1) r
def Cb(l:Cs)(scope:Int)(x:Ex)(want:Int):Int:=if(qX l scope x).2=0∧(qX l scope x).1≠want then 9 else(qX l scope x).2
def IS(l:Cs):List Ru→Int
 | []=>0
 |u::r=>if Cb l u.sc u.x 4≠0 then Cb l u.sc u.x 4 else IS l r
def IT(l:Cs):List Co→Int
 | []=>0
 |u::r=>if Cb l u.sc u.x 1≠0 then Cb l u.sc u.x 1 else IT l r
def KB(l:Cs):List Ex→Int
 | []=>0
 |x::r=>if Cb l 1 x 2≠0 then Cb l 1 x 2 else KB l r
def sO(c:Ct):Int:=if lA c≠0 then lA c else if MT c.cs 0 c.cs≠0 then MT c.cs 0 c.cs else if IS c.cs c.ru≠0 then IS c.cs c.ru else if IT c.cs c.co≠0 then IT c.cs c.co else KB c.cs c.cr
def sP(l:Cs)(lT:T)(sh:List fg):Prop:= ∃kn,sh=xx lT (gG l l.length) kn∧wY l kn
def aid(s:List Nat)(j:Nat):Prop:= ∀i:Nat,i<j→jc ((i:Int)+1) s=0
theorem anp(s:List Nat)(r6:List T)(G:Nat)(o:Out)(ho:o=if Ca s then .ret else .ext 2)(fr:Fr)(lh:fC fg)(sh:List fg)(g6:an fr 6= .ptr .L 6 G 0)(g7:an fr 7= .i .i64 1)(o6:be lh 6=⟨G,.cells (.s s::r6) 0 true⟩):
  DC pE 115 (.loop pe) ⟨fr,lh,sh⟩=some (o,⟨gr pE 115 pe fr lh sh,gp pE 115 pe fr lh sh,gn pE 115 pe fr lh sh⟩)∧((Ca s→an (gr pE 115 pe fr lh sh) 2= .i .i64 7)∧gp pE 115 pe fr lh sh=lh∧gn pE 115 pe fr lh sh=sh):=by
 refine fq (P:=fun fR fH fL=>(Ca s→an fR 2= .i .i64 7)∧fH=lh∧fL=sh) (fw (fun j st=> ∃fr:Fr,st=⟨fr,lh,sh⟩∧an fr 6= .ptr .L 6 G 0∧an fr 7= .i .i64 ((j:Int)+1)∧aid s j) _ 3 ?_ ?_ 0 _ (Nat.zero_le _) ⟨fr,rfl,g6,g7,fun i h=>by omega⟩)
 ·rintro j _ hj ⟨fr,rfl,g6,g7,t⟩
  have mW:=GA ((j:Int)+1) s
  unfold tS at mW
  have hle:(j:Int)+1≤3:=by omega
  have hw:wr .i64 ((j:Int)+1+1)=((j+1:Nat):Int)+1:=by
   have:=fQ (k:=j+1) (ku (by omega))
   push_cast at this ⊢
   exact this
  by_cases hz:jc ((j:Int)+1) s=0
  ·left
   rw[if_pos hz,hz]at mW
   simp(maxDischargeDepth:=6) only[qA,seval,pe,g6,g7,o6,hle,hw,mW,Cn]
   refine⟨_,rfl,_,rfl, ?_, ?_, ?_⟩
   ·simp(maxDischargeDepth:=6) only[qA,seval,g6]
   ·simp(maxDischargeDepth:=6) only[qA,seval]
   ·intro i h
    by_cases e:i=j
    ·subst e;exact hz
    ·exact t i (by omega)
  ·right
   rw[if_neg hz]at mW
   have hk:Ca s:=by
    unfold Ca
    have:j=0∨j=1∨j=2:=by omega
    rcases this with rfl|rfl|rfl
    ·exact .inl hz
    ·exact .inr (.inl hz)
    ·exact .inr (.inr hz)
   simp(maxDischargeDepth:=6) only[qA,seval,pe,g6,g7,o6,hle,mW,Cn]
   exact⟨_,_,(by simp:Out.ret≠ .nrm),rfl,by rw[ho,if_pos hk],fun _=>by simp(maxDischargeDepth:=6) only[qA,seval],rfl,rfl⟩
 ·rintro _ ⟨fr,rfl,g6,g7,t⟩
  have hk: ¬Ca s:=by
   unfold Ca
   rintro(h|h|h)
   ·exact h (t 0 (by decide))
   ·exact h (t 1 (by decide))
   ·exact h (t 2 (by decide))
  rw[show((3:Nat):Int)+1=4 from rfl]at g7
  simp(maxDischargeDepth:=6) only[qA,seval,pe,g7]
  exact⟨_,_,(by simp:Out.ext 2≠ .nrm),rfl,by rw[ho,if_neg hk],fun h=>absurd h hk,rfl,rfl⟩
section
variable(l:Cs)(lT:T)(cl:List T)(hl:fD lT l.length cl)(kg:iR l cl)(hlen:l.length≤om)(oh:Q1 l)
include hl kg hlen oh
theorem Ef(scope want:Int)(x:Ex)(cs:List T)(hx:jY x cs)(hn:HC x)(sh:List fg)(jh:sP l lT sh): ∃fL,fj pE 145 [.ptr .S 2 1 0,.i .i64 scope,.i .i64 (l.length:Int),.agg cs,.i .i64 want] sh=some (.i .i64 (Cb l scope x want),fL)∧sP l lT fL:=by
 obtain⟨kn,rfl,nz⟩:=jh
 obtain⟨hJ,fu,mY,_⟩:=Q6 l lT cl hl kg hlen l.length (Nat.le_refl _) (fun j hj=>Q7 l lT cl hl kg hlen oh j hj) scope x cs hx hn.1 hn.2 kn nz
 have he:MU l l.length scope x=qX l scope x:=by unfold MU qX C4;rw[List.take_length]
 rw[he]at fu
 obtain⟨a,cc,rfl,ha,Bb⟩:=hx.cells
 rw[fx WI (by simp[HQ])]
 unfold Cb
 generalize qX l scope x=q at*
 obtain⟨q1,q2⟩:=q
 simp only at fu ⊢
 by_cases h2:q2=0
 ·subst h2
  by_cases h1:q1=want
  ·subst h1
   simp(maxDischargeDepth:=6) only[qA,seval,iP,HQ,fu,Fy,ha.kept1]
   exact⟨_,rfl,hJ,rfl,mY⟩
  ·simp(maxDischargeDepth:=6) only[qA,seval,iP,HQ,fu,Fy,ha.kept1,h1]
   exact⟨_,rfl,hJ,rfl,mY⟩
 ·simp(maxDischargeDepth:=6) only[qA,seval,iP,HQ,fu,Fy,ha.kept1,h2]
  exact⟨_,rfl,hJ,rfl,mY⟩
end
section
variable(c:Ct)(a7 a8 a9 a10 fB fA:T)(hT:xu c a7 a8 a9 a10 fB fA)(hS:A8 c)
include hT hS
theorem anq(r:Int)(hr:r=MT c.cs 0 c.cs)(o:Out)(ho:o=if r=0 then .ext 0 else .ret)(c1:fg)(fr:Fr)(lh:fC fg)(sh:List fg)(jh:sP c.cs a7 sh)
  (h4:an fr 4= .ptr .S 2 1 0) (Eg:an fr 31=a7) (Cc:an fr 32= .i .i64 (c.cs.length:Int)) (Eh:an fr 33= .i .i64 0) (o1:be lh 1=c1):
  DC pE 115 (.loop nY) ⟨fr,lh,sh⟩=some (o,⟨gr pE 115 nY fr lh sh,gp pE 115 nY fr lh sh,gn pE 115 nY fr lh sh⟩)∧
  ((r≠0→an (gr pE 115 nY fr lh sh) 2= .i .i64 r)∧be (gp pE 115 nY fr lh sh) 1=c1∧sP c.cs a7 (gn pE 115 nY fr lh sh)):=by
 obtain⟨⟨c7,i7,j7⟩,⟨c8,i8,j8⟩,⟨c9,i9,j9⟩,⟨pw,i10,rY⟩,⟨pX,i11,tu⟩,⟨qD,i12,tT⟩⟩:=hT
 have hlen:=hS.s7.2
 refine fq (P:=fun fR fH fL=>(r≠0→an fR 2= .i .i64 r)∧be fH 1=c1∧sP c.cs a7 fL)
  (fw (fun k st=> ∃(fr:Fr) (fG:fC fg) (BQ:List fg),st=⟨fr,fG,BQ⟩∧sP c.cs a7 BQ∧an fr 4= .ptr .S 2 1 0∧an fr 31=a7∧an fr 32= .i .i64 (c.cs.length:Int)∧an fr 33= .i .i64 (k:Int)∧be fG 1=c1∧r=MT c.cs k (c.cs.drop k)) _ c.cs.length ?_ ?_ 0 _ (Nat.zero_le _) ⟨fr,lh,sh,rfl,jh,h4,Eg,Cc,Eh,o1,by rw[hr];rfl⟩)
 ·rintro k _ hk ⟨fr,fG,BQ,rfl,⟨kn,rfl,nz⟩,h4,Eg,Cc,Eh,o1,hr⟩
  have fK:(k:Int)<c.cs.length:=by omega
  have hw:=fQ (k:=k) (by omega)
  rw[List.drop_eq_getElem_cons hk,MT]at hr
  have leave: ∀e:Int,e≠0→r=e→o= .ret:=fun e he h=>by rw[ho,h,if_neg he]
  obtain⟨b,cb,rr,fF,iK,oS,hb⟩:=jZ i7 j7 k hk
  obtain⟨hJ,fu,mY,_⟩:=Q7 c.cs a7 c7 i7 j7 hlen hS.s7.1 k hk kn nz
  generalize c.cs[k]=u at*
  generalize hG:(be fG 6).g+1=G
  have hD:=fun fr lh sh g6 g7 o6=>anp u.1 [.i .i64 u.2.op,.i .i64 u.2.num,.s u.2.name,b] G _ rfl fr lh sh g6 g7 o6
  by_cases hs:Ca u.1
  ·right
   rw[if_pos hs]at hr
   simp only[hs,if_true,forall_const]at hD
   simp(maxDischargeDepth:=6) only[qA,seval,nY,Eg,Cc,Eh,fK,fF,hG,hD]
   refine⟨_,_,(by simp:Out.ret≠ .nrm),rfl,(leave _ (by decide) hr).symm,fun _=> ?_, ?_,kn, ?_,nz⟩ <;> simp(maxDischargeDepth:=6) only[qA,seval,hr,o1,hD]
  rw[if_neg hs]at hr
  simp only[hs,if_false,false_implies,true_and]at hD
  generalize tq c.cs k=q at*
  obtain⟨q1,q2⟩:=q
  simp only at fu hr
  by_cases hv:q2=0
  ·left
   rw[if_neg (by simp[hv])]at hr
   subst hv
   simp(maxDischargeDepth:=6) only[qA,seval,iP,nY,h4,Eg,Cc,Eh,fK,fF,hw,hG,hD,zU,fu,Ow]
   refine⟨_,rfl,_,_,_,rfl,⟨hJ,rfl,mY⟩, ?_, ?_, ?_, ?_, ?_,hr⟩
   all_goals (simp(maxDischargeDepth:=6) only[qA,seval,h4,Eg,Cc,o1,zU])
  ·right
   rw[if_pos hv]at hr
   simp(maxDischargeDepth:=6) only[qA,seval,iP,nY,h4,Eg,Cc,Eh,fK,fF,hG,hD,zU,fu,Ow,hv]
   refine⟨_,_,(by simp:Out.ret≠ .nrm),rfl,(leave _ hv hr).symm,fun _=> ?_, ?_,hJ, ?_,mY⟩ <;> simp(maxDischargeDepth:=6) only[qA,seval,hr,o1]
 ·rintro _ ⟨fr,fG,BQ,rfl,jh,h4,Eg,Cc,Eh,o1,hr⟩
  rw[List.drop_length,MT]at hr
  simp(maxDischargeDepth:=6) only[qA,seval,nY,Cc,Eh,Int.lt_irrefl]
  exact⟨_,_,(by simp:Out.ext 0≠ .nrm),rfl,by rw[ho,hr];rfl,fun h=>absurd hr h,o1,jh⟩
end
end Go.Proofs.YtblcbheipjeoeaaGreat
namespace Go.Proofs.YtblcbheipjeoeaaGreat
open Go Go.Ev
section
variable(c:Ct)(a7 a8 a9 a10 fB fA:T)(hT:xu c a7 a8 a9 a10 fB fA)(hS:A8 c)
include hT hS
theorem anr(r:Int)(hr:r=IS c.cs c.ru)(o:Out)(ho:o=if r=0 then .ext 4 else .ret)(c1:fg)(fr:Fr)(lh:fC fg)(sh:List fg)(jh:sP c.cs a7 sh)
  (h4:an fr 4= .ptr .S 2 1 0) (qC:an fr 12= .i .i64 (c.cs.length:Int)) (hs:an fr 65=a8) (hl:an fr 66= .i .i64 (c.ru.length:Int)) (hi:an fr 67= .i .i64 0) (o1:be lh 1=c1):
  DC pE 115 (.loop pd) ⟨fr,lh,sh⟩=some (o,⟨gr pE 115 pd fr lh sh,gp pE 115 pd fr lh sh,gn pE 115 pd fr lh sh⟩)∧
  ((r≠0→an (gr pE 115 pd fr lh sh) 2= .i .i64 r)∧be (gp pE 115 pd fr lh sh) 1=c1∧sP c.cs a7 (gn pE 115 pd fr lh sh)):=by
 obtain⟨⟨c7,i7,j7⟩,⟨c8,i8,j8⟩,⟨c9,i9,j9⟩,⟨pw,i10,rY⟩,⟨pX,i11,tu⟩,⟨qD,i12,tT⟩⟩:=hT
 have hlen:=hS.s8.2
 refine fq (P:=fun fR fH fL=>(r≠0→an fR 2= .i .i64 r)∧be fH 1=c1∧sP c.cs a7 fL)
  (fw (fun k st=> ∃(fr:Fr) (fG:fC fg) (BQ:List fg),st=⟨fr,fG,BQ⟩∧sP c.cs a7 BQ∧an fr 4= .ptr .S 2 1 0∧an fr 12= .i .i64 (c.cs.length:Int)∧an fr 65=a8∧an fr 66= .i .i64 (c.ru.length:Int)∧an fr 67= .i .i64 (k:Int)∧be fG 1=c1∧r=IS c.cs (c.ru.drop k)) _ c.ru.length ?_ ?_ 0 _ (Nat.zero_le _) ⟨fr,lh,sh,rfl,jh,h4,qC,hs,hl,hi,o1,by rw[hr];rfl⟩)
 ·rintro k _ hk ⟨fr,fG,BQ,rfl,Q8,h4,qC,hs,hl,hi,o1,hr⟩
  have fK:(k:Int)<c.ru.length:=by omega
  have hw:=fQ (k:=k) (by omega)
  rw[List.drop_eq_getElem_cons hk,IS]at hr
  have leave: ∀e:Int,e≠0→r=e→o= .ret:=fun e he h=>by rw[ho,h,if_neg he]
  obtain⟨b,cb,rr,fF,iK,hb⟩:=Ba i8 j8 k hk
  have Q9:=hS.s8.1 c.ru[k] (List.getElem_mem hk)
  generalize c.ru[k]=u at*
  obtain⟨sh2,fu,GI⟩:=Ef c.cs a7 c7 i7 j7 hS.s7.2 hS.s7.1 u.sc 4 u.x _ hb Q9 BQ Q8
  generalize Cb c.cs u.sc u.x 4=e at*
  by_cases hv:e=0
  ·left
   rw[if_neg (by simp[hv])]at hr
   subst hv
   simp(maxDischargeDepth:=6) only[qA,seval,iP,pd,h4,qC,hs,hl,hi,fK,fF,hw,iK.kept1,fu,Cp]
   refine⟨_,rfl,_,_,_,rfl,GI, ?_, ?_, ?_, ?_, ?_, ?_,hr⟩
   all_goals (simp(maxDischargeDepth:=6) only[qA,seval,h4,qC,hs,hl,o1])
  ·right
   rw[if_pos hv]at hr
   simp(maxDischargeDepth:=6) only[qA,seval,iP,pd,h4,qC,hs,hl,hi,fK,fF,iK.kept1,fu,Cp,hv]
   refine⟨_,_,(by simp:Out.ret≠ .nrm),rfl,(leave _ hv hr).symm,fun _=> ?_, ?_,GI⟩ <;> simp(maxDischargeDepth:=6) only[qA,seval,hr,o1]
 ·rintro _ ⟨fr,fG,BQ,rfl,jh,h4,qC,hs,hl,hi,o1,hr⟩
  rw[List.drop_length,IS]at hr
  simp(maxDischargeDepth:=6) only[qA,seval,pd,hl,hi,Int.lt_irrefl]
  exact⟨_,_,(by simp:Out.ext 4≠ .nrm),rfl,by rw[ho,hr];rfl,fun h=>absurd hr h,o1,jh⟩
theorem ans(r:Int)(hr:r=IT c.cs c.co)(o:Out)(ho:o=if r=0 then .ext 6 else .ret)(c1:fg)(fr:Fr)(lh:fC fg)(sh:List fg)(jh:sP c.cs a7 sh)
  (h4:an fr 4= .ptr .S 2 1 0) (qC:an fr 12= .i .i64 (c.cs.length:Int)) (hs:an fr 83=a9) (hl:an fr 84= .i .i64 (c.co.length:Int)) (hi:an fr 85= .i .i64 0) (o1:be lh 1=c1):
  DC pE 115 (.loop pc) ⟨fr,lh,sh⟩=some (o,⟨gr pE 115 pc fr lh sh,gp pE 115 pc fr lh sh,gn pE 115 pc fr lh sh⟩)∧
  ((r≠0→an (gr pE 115 pc fr lh sh) 2= .i .i64 r)∧be (gp pE 115 pc fr lh sh) 1=c1∧sP c.cs a7 (gn pE 115 pc fr lh sh)):=by
 obtain⟨⟨c7,i7,j7⟩,⟨c8,i8,j8⟩,⟨c9,i9,j9⟩,⟨pw,i10,rY⟩,⟨pX,i11,tu⟩,⟨qD,i12,tT⟩⟩:=hT
 have hlen:=hS.s9.2
 refine fq (P:=fun fR fH fL=>(r≠0→an fR 2= .i .i64 r)∧be fH 1=c1∧sP c.cs a7 fL)
  (fw (fun k st=> ∃(fr:Fr) (fG:fC fg) (BQ:List fg),st=⟨fr,fG,BQ⟩∧sP c.cs a7 BQ∧an fr 4= .ptr .S 2 1 0∧an fr 12= .i .i64 (c.cs.length:Int)∧an fr 83=a9∧an fr 84= .i .i64 (c.co.length:Int)∧an fr 85= .i .i64 (k:Int)∧be fG 1=c1∧r=IT c.cs (c.co.drop k)) _ c.co.length ?_ ?_ 0 _ (Nat.zero_le _) ⟨fr,lh,sh,rfl,jh,h4,qC,hs,hl,hi,o1,by rw[hr];rfl⟩)
 ·rintro k _ hk ⟨fr,fG,BQ,rfl,Q8,h4,qC,hs,hl,hi,o1,hr⟩
  have fK:(k:Int)<c.co.length:=by omega
  have hw:=fQ (k:=k) (by omega)
  rw[List.drop_eq_getElem_cons hk,IT]at hr
  have leave: ∀e:Int,e≠0→r=e→o= .ret:=fun e he h=>by rw[ho,h,if_neg he]
  obtain⟨b,cb,rr,fF,iK,hb⟩:=C2 i9 j9 k hk
  have Q9:=hS.s9.1 c.co[k] (List.getElem_mem hk)
  generalize c.co[k]=u at*
  obtain⟨sh2,fu,GI⟩:=Ef c.cs a7 c7 i7 j7 hS.s7.2 hS.s7.1 u.sc 1 u.x _ hb Q9 BQ Q8
  generalize Cb c.cs u.sc u.x 1=e at*
  by_cases hv:e=0
  ·left
   rw[if_neg (by simp[hv])]at hr
   subst hv
   simp(maxDischargeDepth:=6) only[qA,seval,iP,pc,h4,qC,hs,hl,hi,fK,fF,hw,iK.kept1,fu,Cp]
   refine⟨_,rfl,_,_,_,rfl,GI, ?_, ?_, ?_, ?_, ?_, ?_,hr⟩
   all_goals (simp(maxDischargeDepth:=6) only[qA,seval,h4,qC,hs,hl,o1])
  ·right
   rw[if_pos hv]at hr
   simp(maxDischargeDepth:=6) only[qA,seval,iP,pc,h4,qC,hs,hl,hi,fK,fF,iK.kept1,fu,Cp,hv]
   refine⟨_,_,(by simp:Out.ret≠ .nrm),rfl,(leave _ hv hr).symm,fun _=> ?_, ?_,GI⟩ <;> simp(maxDischargeDepth:=6) only[qA,seval,hr,o1]
 ·rintro _ ⟨fr,fG,BQ,rfl,jh,h4,qC,hs,hl,hi,o1,hr⟩
  rw[List.drop_length,IT]at hr
  simp(maxDischargeDepth:=6) only[qA,seval,pc,hl,hi,Int.lt_irrefl]
  exact⟨_,_,(by simp:Out.ext 6≠ .nrm),rfl,by rw[ho,hr];rfl,fun h=>absurd hr h,o1,jh⟩
theorem ant(r:Int)(hr:r=KB c.cs c.cr)(o:Out)(ho:o=if r=0 then .ext 8 else .ret)(c1:fg)(fr:Fr)(lh:fC fg)(sh:List fg)(jh:sP c.cs a7 sh)
  (h4:an fr 4= .ptr .S 2 1 0) (qC:an fr 12= .i .i64 (c.cs.length:Int)) (hs:an fr 101=a10) (hl:an fr 102= .i .i64 (c.cr.length:Int)) (hi:an fr 103= .i .i64 0) (o1:be lh 1=c1):
  DC pE 115 (.loop pb) ⟨fr,lh,sh⟩=some (o,⟨gr pE 115 pb fr lh sh,gp pE 115 pb fr lh sh,gn pE 115 pb fr lh sh⟩)∧
  ((r≠0→an (gr pE 115 pb fr lh sh) 2= .i .i64 r)∧be (gp pE 115 pb fr lh sh) 1=c1∧sP c.cs a7 (gn pE 115 pb fr lh sh)):=by
 obtain⟨⟨c7,i7,j7⟩,⟨c8,i8,j8⟩,⟨c9,i9,j9⟩,⟨pw,i10,rY⟩,⟨pX,i11,tu⟩,⟨qD,i12,tT⟩⟩:=hT
 have hlen:=hS.s10.2
 refine fq (P:=fun fR fH fL=>(r≠0→an fR 2= .i .i64 r)∧be fH 1=c1∧sP c.cs a7 fL)
  (fw (fun k st=> ∃(fr:Fr) (fG:fC fg) (BQ:List fg),st=⟨fr,fG,BQ⟩∧sP c.cs a7 BQ∧an fr 4= .ptr .S 2 1 0∧an fr 12= .i .i64 (c.cs.length:Int)∧an fr 101=a10∧an fr 102= .i .i64 (c.cr.length:Int)∧an fr 103= .i .i64 (k:Int)∧be fG 1=c1∧r=KB c.cs (c.cr.drop k)) _ c.cr.length ?_ ?_ 0 _ (Nat.zero_le _) ⟨fr,lh,sh,rfl,jh,h4,qC,hs,hl,hi,o1,by rw[hr];rfl⟩)
 ·rintro k _ hk ⟨fr,fG,BQ,rfl,Q8,h4,qC,hs,hl,hi,o1,hr⟩
  have fK:(k:Int)<c.cr.length:=by omega
  have hw:=fQ (k:=k) (by omega)
  rw[List.drop_eq_getElem_cons hk,KB]at hr
  have leave: ∀e:Int,e≠0→r=e→o= .ret:=fun e he h=>by rw[ho,h,if_neg he]
  obtain⟨b,cb,rr,fF,iK,oS,hb⟩:=nw i10 rY k hk
  have Q9:=hS.s10.1 c.cr[k] (List.getElem_mem hk)
  generalize c.cr[k]=u at*
  obtain⟨sh2,fu,GI⟩:=Ef c.cs a7 c7 i7 j7 hS.s7.2 hS.s7.1 1 2 u _ hb Q9 BQ Q8
  generalize Cb c.cs 1 u 2=e at*
  by_cases hv:e=0
  ·left
   rw[if_neg (by simp[hv])]at hr
   subst hv
   simp(maxDischargeDepth:=6) only[qA,seval,iP,pb,h4,qC,hs,hl,hi,fK,fF,hw,iK.kept1,fu,Cp]
   refine⟨_,rfl,_,_,_,rfl,GI, ?_, ?_, ?_, ?_, ?_, ?_,hr⟩
   all_goals (simp(maxDischargeDepth:=6) only[qA,seval,h4,qC,hs,hl,o1])
  ·right
   rw[if_pos hv]at hr
   simp(maxDischargeDepth:=6) only[qA,seval,iP,pb,h4,qC,hs,hl,hi,fK,fF,iK.kept1,fu,Cp,hv]
   refine⟨_,_,(by simp:Out.ret≠ .nrm),rfl,(leave _ hv hr).symm,fun _=> ?_, ?_,GI⟩ <;> simp(maxDischargeDepth:=6) only[qA,seval,hr,o1]
 ·rintro _ ⟨fr,fG,BQ,rfl,jh,h4,qC,hs,hl,hi,o1,hr⟩
  rw[List.drop_length,KB]at hr
  simp(maxDischargeDepth:=6) only[qA,seval,pb,hl,hi,Int.lt_irrefl]
  exact⟨_,_,(by simp:Out.ext 8≠ .nrm),rfl,by rw[ho,hr];rfl,fun h=>absurd hr h,o1,jh⟩
theorem KC: ∃s,fj pE 87 [.agg (fX c a7 a8 a9 a10 fB fA)] []=some (.i .i64 (sO c),s):=by
 have zk:=Q3 c a7 a8 a9 a10 fB fA hT hS
 have hA:=fun fr lh sh jh h4 Eg Cc Eh o1=>anq c a7 a8 a9 a10 fB fA hT hS _ rfl _ rfl ⟨1,.cells (fX c a7 a8 a9 a10 fB fA) 0 true⟩ fr lh sh jh h4 Eg Cc Eh o1
 have hB:=fun fr lh sh jh h4 qC hs hl hi o1=>anr c a7 a8 a9 a10 fB fA hT hS _ rfl _ rfl ⟨1,.cells (fX c a7 a8 a9 a10 fB fA) 0 true⟩ fr lh sh jh h4 qC hs hl hi o1
 have hC:=fun fr lh sh jh h4 qC hs hl hi o1=>ans c a7 a8 a9 a10 fB fA hT hS _ rfl _ rfl ⟨1,.cells (fX c a7 a8 a9 a10 fB fA) 0 true⟩ fr lh sh jh h4 qC hs hl hi o1
 have hD:=fun fr lh sh jh h4 qC hs hl hi o1=>ant c a7 a8 a9 a10 fB fA hT hS _ rfl _ rfl ⟨1,.cells (fX c a7 a8 a9 a10 fB fA) 0 true⟩ fr lh sh jh h4 qC hs hl hi o1
 obtain⟨⟨c7,i7,j7⟩,⟨c8,i8,j8⟩,⟨c9,i9,j9⟩,⟨pw,i10,rY⟩,⟨pX,i11,tu⟩,⟨qD,i12,tT⟩⟩:=hT
 have kN:=aaZ c.cs a7 c7 i7 j7 hS.s7.2
 have Ra:sP c.cs a7 (xx a7 (gG c.cs c.cs.length) []):=⟨[],rfl,fun i t h=>by cases h⟩
 unfold fX at hA hB hC hD zk ⊢
 rw[fx Zk (by simp[Ns])]
 unfold sO
 by_cases e0:lA c=0
 ·rw[e0]at zk
  rw[if_neg (by simp[e0])]
  by_cases e1:MT c.cs 0 c.cs=0
  ·rw[e1]at hA
   rw[if_neg (by simp[e1])]
   simp only[if_true,ne_eq,not_true_eq_false,false_implies,true_and]at hA
   by_cases e2:IS c.cs c.ru=0
   ·rw[e2]at hB
    rw[if_neg (by simp[e2])]
    simp only[if_true,ne_eq,not_true_eq_false,false_implies,true_and]at hB
    by_cases e3:IT c.cs c.co=0
    ·rw[e3]at hC
     rw[if_neg (by simp[e3])]
     simp only[if_true,ne_eq,not_true_eq_false,false_implies,true_and]at hC
     by_cases e4:KB c.cs c.cr=0
     ·rw[e4]at hD
      simp only[if_true,ne_eq,not_true_eq_false,false_implies,true_and]at hD
      simp(maxDischargeDepth:=6) only[qA,seval,Ns,Fa,zS,vU,i7.lenI,i8.lenI,i9.lenI,i10.lenI,i7.froz1,i8.froz1,i9.froz1,i10.froz1,i11.froz1,i12.froz1,i7.kept,zk,z6,kN,Ft,Ra,hA,hB,hC,hD,e4]
      exact⟨_,rfl⟩
     ·simp only[e4,if_false,ne_eq,not_false_eq_true,forall_const]at hD
      simp(maxDischargeDepth:=6) only[qA,seval,Ns,Fa,zS,vU,i7.lenI,i8.lenI,i9.lenI,i10.lenI,i7.froz1,i8.froz1,i9.froz1,i10.froz1,i11.froz1,i12.froz1,i7.kept,zk,z6,kN,Ft,Ra,hA,hB,hC,hD]
      exact⟨_,rfl⟩
    ·rw[if_pos e3]
     simp only[e3,if_false,ne_eq,not_false_eq_true,forall_const]at hC
     simp(maxDischargeDepth:=6) only[qA,seval,Ns,zS,vU,i7.lenI,i8.lenI,i9.lenI,i7.froz1,i8.froz1,i9.froz1,i10.froz1,i11.froz1,i12.froz1,i7.kept,zk,z6,kN,Ft,Ra,hA,hB,hC]
     exact⟨_,rfl⟩
   ·rw[if_pos e2]
    simp only[e2,if_false,ne_eq,not_false_eq_true,forall_const]at hB
    simp(maxDischargeDepth:=6) only[qA,seval,Ns,vU,i7.lenI,i8.lenI,i7.froz1,i8.froz1,i9.froz1,i10.froz1,i11.froz1,i12.froz1,i7.kept,zk,z6,kN,Ft,Ra,hA,hB]
    exact⟨_,rfl⟩
  ·rw[if_pos e1]
   simp only[e1,if_false,ne_eq,not_false_eq_true,forall_const]at hA
   simp(maxDischargeDepth:=6) only[qA,seval,Ns,i7.lenI,i7.froz1,i8.froz1,i9.froz1,i10.froz1,i11.froz1,i12.froz1,i7.kept,zk,z6,kN,Ft,Ra,hA]
   exact⟨_,rfl⟩
 ·rw[if_pos e0]
  generalize lA c=e at*
  simp(maxDischargeDepth:=6) only[qA,seval,Ns,i7.froz1,i8.froz1,i9.froz1,i10.froz1,i11.froz1,i12.froz1,zk,z6,e0]
  exact⟨_,rfl⟩
end
end Go.Proofs.YtblcbheipjeoeaaGreat
namespace Go.Proofs.YtblcbheipjeoeaaGreat
open Go Go.Ev
theorem anu(s:List Nat)(o:Out)(ho:o=if Ca s then .ret else .ext 0)(fr:Fr)(lh:fC fg)(sh:List fg)(g0:an fr 0= .s s)(g3:an fr 3= .i .i64 1):
  DC pE 18 (.loop my) ⟨fr,lh,sh⟩=some (o,⟨gr pE 18 my fr lh sh,gp pE 18 my fr lh sh,gn pE 18 my fr lh sh⟩)∧((Ca s→an (gr pE 18 my fr lh sh) 2= .b true)∧gp pE 18 my fr lh sh=lh∧gn pE 18 my fr lh sh=sh):=by
 refine fq (P:=fun fR fH fL=>(Ca s→an fR 2= .b true)∧fH=lh∧fL=sh) (fw (fun j st=> ∃fr:Fr,st=⟨fr,lh,sh⟩∧an fr 0= .s s∧an fr 3= .i .i64 ((j:Int)+1)∧aid s j) _ 3 ?_ ?_ 0 _ (Nat.zero_le _) ⟨fr,rfl,g0,g3,fun i h=>by omega⟩)
 ·rintro j _ hj ⟨fr,rfl,g0,g3,t⟩
  have mW:=GB ((j:Int)+1) s
  unfold tS at mW
  have hle:(j:Int)+1≤3:=by omega
  have hw:wr .i64 ((j:Int)+1+1)=((j+1:Nat):Int)+1:=by
   have:=fQ (k:=j+1) (ku (by omega))
   push_cast at this ⊢
   exact this
  by_cases hz:jc ((j:Int)+1) s=0
  ·left
   rw[if_pos hz,hz]at mW
   simp(maxDischargeDepth:=6) only[qA,seval,my,g0,g3,hle,hw,mW,yn]
   refine⟨_,rfl,_,rfl, ?_, ?_, ?_⟩
   ·simp(maxDischargeDepth:=6) only[qA,seval,g0]
   ·simp(maxDischargeDepth:=6) only[qA,seval]
   ·intro i h
    by_cases e:i=j
    ·subst e;exact hz
    ·exact t i (by omega)
  ·right
   rw[if_neg hz]at mW
   have hk:Ca s:=by
    unfold Ca
    have:j=0∨j=1∨j=2:=by omega
    rcases this with rfl|rfl|rfl
    ·exact .inl hz
    ·exact .inr (.inl hz)
    ·exact .inr (.inr hz)
   simp(maxDischargeDepth:=6) only[qA,seval,my,g0,g3,hle,mW,yn]
   exact⟨_,_,(by simp:Out.ret≠ .nrm),rfl,by rw[ho,if_pos hk],fun _=>by simp(maxDischargeDepth:=6) only[qA,seval],rfl,rfl⟩
 ·rintro _ ⟨fr,rfl,g0,g3,t⟩
  have hk: ¬Ca s:=by
   unfold Ca
   rintro(h|h|h)
   ·exact h (t 0 (by decide))
   ·exact h (t 1 (by decide))
   ·exact h (t 2 (by decide))
  rw[show((3:Nat):Int)+1=4 from rfl]at g3
  simp(maxDischargeDepth:=6) only[qA,seval,my,g3]
  exact⟨_,_,(by simp:Out.ext 0≠ .nrm),rfl,by rw[ho,if_neg hk],fun h=>absurd h hk,rfl,rfl⟩
theorem MV(s:List Nat):fj pE 156 [.s s] []=some (.b (decide (Ca s)),[]):=by
 have hL:=fun fr lh sh g0 g3=>anu s _ rfl fr lh sh g0 g3
 rw[fx WQ (by simp[Lt])]
 by_cases h:Ca s
 ·simp only[h,if_true,forall_const]at hL
  simp(maxDischargeDepth:=6) only[qA,seval,Lt,hL,h]
 ·simp only[h,if_false,false_implies,true_and]at hL
  simp(maxDischargeDepth:=6) only[qA,seval,Lt,hL,h]
section
variable(c:Ct)(a7 a8 a9 a10 fB fA:T)(hT:xu c a7 a8 a9 a10 fB fA)(hS:A8 c)
include hT hS
theorem Ei(scope want:Int)(x:Ex)(cs:List T)(hx:jY x cs)(hn:HC x):fj pE 157 [.agg (fX c a7 a8 a9 a10 fB fA),.i .i64 scope,.agg cs,.i .i64 want] []=some (.i .i64 (Cb c.cs scope x want),[]):=by
 obtain⟨⟨c7,i7,j7⟩,⟨c8,i8,j8⟩,⟨c9,i9,j9⟩,⟨pw,i10,rY⟩,⟨pX,i11,tu⟩,⟨qD,i12,tT⟩⟩:=hT
 have lN:=GJ c.cs a7 c7 i7 j7 hS.s7.2 hS.s7.1 scope x cs hx hn.1 hn.2
 obtain⟨a,cc,rfl,ha,Bb⟩:=hx.cells
 rw[fx OD (by simp[HR])]
 unfold Cb fX
 generalize qX c.cs scope x=q at*
 obtain⟨q1,q2⟩:=q
 simp only at lN ⊢
 by_cases h2:q2=0
 ·subst h2
  by_cases h1:q1=want
  ·subst h1
   simp(maxDischargeDepth:=6) only[qA,seval,HR,lN,Fs,ha.froz1,i7.froz]
  ·simp(maxDischargeDepth:=6) only[qA,seval,HR,lN,Fs,ha.froz1,i7.froz,h1]
 ·simp(maxDischargeDepth:=6) only[qA,seval,HR,lN,Fs,ha.froz1,i7.froz,h2]
theorem anv(r:Int)(hr:r=MT c.cs 0 c.cs)(o:Out)(ho:o=if r=0 then .ext 0 else .ret)(fr:Fr)(lh:fC fg)(sh:List fg)
  (h1:an fr 1= .ptr .L 1 1 0) (hi:an fr 4= .i .i64 0) (o1:be lh 1=⟨1,.cells (fX c a7 a8 a9 a10 fB fA) 0 true⟩):
  DC pE 114 (.loop n6) ⟨fr,lh,sh⟩=some (o,⟨gr pE 114 n6 fr lh sh,gp pE 114 n6 fr lh sh,gn pE 114 n6 fr lh sh⟩)∧
  ((r≠0→an (gr pE 114 n6 fr lh sh) 2= .i .i64 r)∧be (gp pE 114 n6 fr lh sh) 1=⟨1,.cells (fX c a7 a8 a9 a10 fB fA) 0 true⟩∧gn pE 114 n6 fr lh sh=sh):=by
 have hT0:=hT
 obtain⟨⟨c7,i7,j7⟩,⟨c8,i8,j8⟩,⟨c9,i9,j9⟩,⟨pw,i10,rY⟩,⟨pX,i11,tu⟩,⟨qD,i12,tT⟩⟩:=hT
 have hlen:=hS.s7.2
 have oh:=hS.s7.1
 refine fq (P:=fun fR fH fL=>(r≠0→an fR 2= .i .i64 r)∧be fH 1=⟨1,.cells (fX c a7 a8 a9 a10 fB fA) 0 true⟩∧fL=sh)
  (fw (fun k st=> ∃(fr:Fr) (fG:fC fg),st=⟨fr,fG,sh⟩∧an fr 1= .ptr .L 1 1 0∧an fr 4= .i .i64 (k:Int)∧be fG 1=⟨1,.cells (fX c a7 a8 a9 a10 fB fA) 0 true⟩∧r=MT c.cs k (c.cs.drop k)) _ c.cs.length ?_ ?_ 0 _ (Nat.zero_le _) ⟨fr,lh,rfl,h1,hi,o1,by rw[hr];rfl⟩)
 ·rintro k _ hk ⟨fr,fG,rfl,h1,hi,o1,hr⟩
  have fK:(k:Int)<c.cs.length:=by omega
  have pR:k≤c.cs.length:=Nat.le_of_lt hk
  have hw:=fQ (k:=k) (by omega)
  rw[List.drop_eq_getElem_cons hk,MT]at hr
  have leave: ∀e:Int,e≠0→r=e→o= .ret:=fun e he h=>by rw[ho,h,if_neg he]
  obtain⟨b,cb,rr,fF,iK,oS,hb⟩:=jZ i7 j7 k hk
  obtain⟨HD,A9⟩:=oh c.cs[k] (List.getElem_mem hk)
  have nz:=MV c.cs[k].1
  obtain⟨ex,rfl,tj,yw,Vs⟩:=Vt c.cs a7 c7 hk i7 j7
  have jm:(c.cs.take k).length=k:=by rw[List.length_take,Nat.min_eq_left pR]
  have lN:=GJ (c.cs.take k) (.sl (List.take (k*5) c7) k (ex&&decide (k=c.cs.length))) (c7.take (k*5)) (by rw[jm];exact tj) yw (by rw[jm];omega) (Rb c.cs oh k) 0 c.cs[k].2 _ hb HD A9
  rw[IU c.cs pR,←Ej c.cs hk]at lN
  generalize tq c.cs k=q at*
  obtain⟨q1,q2⟩:=q
  simp only at lN hr
  generalize c.cs[k]=u at*
  unfold fX at o1 ⊢
  by_cases hs:Ca u.1
  ·right
   rw[if_pos hs]at hr
   rw[decide_eq_true hs]at nz
   simp(maxDischargeDepth:=6) only[qA,seval,n6,h1,hi,o1,fK,fF,nz,OC]
   refine⟨_,_,(by simp:Out.ret≠ .nrm),rfl,(leave _ (by decide) hr).symm,fun _=> ?_, ?_,rfl⟩ <;> simp(maxDischargeDepth:=6) only[qA,seval,hr,o1]
  rw[if_neg hs]at hr
  rw[decide_eq_false hs]at nz
  by_cases hv:q2=0
  ·left
   rw[if_neg (by simp[hv])]at hr
   subst hv
   simp(maxDischargeDepth:=6) only[qA,seval,tN,gW,fU,n6,h1,hi,o1,fK,fF,iK.froz1,nz,OC,hw,pR,Vs,Nat.sub_zero,lN,Fs,Ww]
   refine⟨_,rfl,_,_,rfl, ?_, ?_, ?_,hr⟩
   all_goals (simp(maxDischargeDepth:=6) only[qA,seval,h1,o1])
  ·right
   rw[if_pos hv]at hr
   simp(maxDischargeDepth:=6) only[qA,seval,tN,gW,fU,n6,h1,hi,o1,fK,fF,iK.froz1,nz,OC,pR,Vs,Nat.sub_zero,lN,Fs,Ww,hv]
   refine⟨_,_,(by simp:Out.ret≠ .nrm),rfl,(leave _ hv hr).symm,fun _=> ?_, ?_,rfl⟩ <;> simp(maxDischargeDepth:=6) only[qA,seval,hr,o1]
 ·rintro _ ⟨fr,fG,rfl,h1,hi,o1,hr⟩
  rw[List.drop_length,MT]at hr
  unfold fX at o1 ⊢
  simp(maxDischargeDepth:=6) only[qA,seval,n6,h1,hi,o1,i7.lenI,Int.lt_irrefl]
  exact⟨_,_,(by simp:Out.ext 0≠ .nrm),rfl,by rw[ho,hr];rfl,fun h=>absurd hr h,o1,rfl⟩
theorem anw(r:Int)(hr:r=IS c.cs c.ru)(o:Out)(ho:o=if r=0 then .ext 2 else .ret)(fr:Fr)(lh:fC fg)(sh:List fg)
  (h1:an fr 1= .ptr .L 1 1 0) (hi:an fr 7= .i .i64 0) (o1:be lh 1=⟨1,.cells (fX c a7 a8 a9 a10 fB fA) 0 true⟩):
  DC pE 114 (.loop pj) ⟨fr,lh,sh⟩=some (o,⟨gr pE 114 pj fr lh sh,gp pE 114 pj fr lh sh,gn pE 114 pj fr lh sh⟩)∧
  ((r≠0→an (gr pE 114 pj fr lh sh) 2= .i .i64 r)∧be (gp pE 114 pj fr lh sh) 1=⟨1,.cells (fX c a7 a8 a9 a10 fB fA) 0 true⟩∧gn pE 114 pj fr lh sh=sh):=by
 have hT0:=hT
 obtain⟨⟨c7,i7,j7⟩,⟨c8,i8,j8⟩,⟨c9,i9,j9⟩,⟨pw,i10,rY⟩,⟨pX,i11,tu⟩,⟨qD,i12,tT⟩⟩:=hT
 have hlen:=hS.s8.2
 have oh:=hS.s8.1
 refine fq (P:=fun fR fH fL=>(r≠0→an fR 2= .i .i64 r)∧be fH 1=⟨1,.cells (fX c a7 a8 a9 a10 fB fA) 0 true⟩∧fL=sh)
  (fw (fun k st=> ∃(fr:Fr) (fG:fC fg),st=⟨fr,fG,sh⟩∧an fr 1= .ptr .L 1 1 0∧an fr 7= .i .i64 (k:Int)∧be fG 1=⟨1,.cells (fX c a7 a8 a9 a10 fB fA) 0 true⟩∧r=IS c.cs (c.ru.drop k)) _ c.ru.length ?_ ?_ 0 _ (Nat.zero_le _) ⟨fr,lh,rfl,h1,hi,o1,by rw[hr];rfl⟩)
 ·rintro k _ hk ⟨fr,fG,rfl,h1,hi,o1,hr⟩
  have fK:(k:Int)<c.ru.length:=by omega
  have pR:k≤c.ru.length:=Nat.le_of_lt hk
  have hw:=fQ (k:=k) (by omega)
  rw[List.drop_eq_getElem_cons hk,IS]at hr
  have leave: ∀e:Int,e≠0→r=e→o= .ret:=fun e he h=>by rw[ho,h,if_neg he]
  obtain⟨b,cb,rr,fF,iK,hb⟩:=Ba i8 j8 k hk
  have hex:=Ei c a7 a8 a9 a10 fB fA hT0 hS c.ru[k].sc 4 c.ru[k].x _ hb (oh c.ru[k] (List.getElem_mem hk))
  generalize c.ru[k]=u at*
  generalize Cb c.cs u.sc u.x 4=q at*
  unfold fX at o1 hex ⊢
  by_cases hv:q=0
  ·left
   rw[if_neg (by simp[hv])]at hr
   subst hv
   simp(maxDischargeDepth:=6) only[qA,seval,gW,fU,pj,h1,hi,o1,i8.lenI,fK,fF,iK.froz1,i7.froz1,i8.froz1,i9.froz1,i10.froz1,i11.froz1,i12.froz1,hex,Cq,Cr,hw]
   refine⟨_,rfl,_,_,rfl, ?_, ?_, ?_,hr⟩
   all_goals (simp(maxDischargeDepth:=6) only[qA,seval,h1,o1])
  ·right
   rw[if_pos hv]at hr
   simp(maxDischargeDepth:=6) only[qA,seval,gW,fU,pj,h1,hi,o1,i8.lenI,fK,fF,iK.froz1,i7.froz1,i8.froz1,i9.froz1,i10.froz1,i11.froz1,i12.froz1,hex,Cq,Cr,hv]
   refine⟨_,_,(by simp:Out.ret≠ .nrm),rfl,(leave _ hv hr).symm,fun _=> ?_, ?_,rfl⟩ <;> simp(maxDischargeDepth:=6) only[qA,seval,hr,o1]
 ·rintro _ ⟨fr,fG,rfl,h1,hi,o1,hr⟩
  rw[List.drop_length,IS]at hr
  unfold fX at o1 ⊢
  simp(maxDischargeDepth:=6) only[qA,seval,pj,h1,hi,o1,i8.lenI,Int.lt_irrefl]
  exact⟨_,_,(by simp:Out.ext 2≠ .nrm),rfl,by rw[ho,hr];rfl,fun h=>absurd hr h,o1,rfl⟩
theorem anx(r:Int)(hr:r=IT c.cs c.co)(o:Out)(ho:o=if r=0 then .ext 4 else .ret)(fr:Fr)(lh:fC fg)(sh:List fg)
  (h1:an fr 1= .ptr .L 1 1 0) (hi:an fr 9= .i .i64 0) (o1:be lh 1=⟨1,.cells (fX c a7 a8 a9 a10 fB fA) 0 true⟩):
  DC pE 114 (.loop ph) ⟨fr,lh,sh⟩=some (o,⟨gr pE 114 ph fr lh sh,gp pE 114 ph fr lh sh,gn pE 114 ph fr lh sh⟩)∧
  ((r≠0→an (gr pE 114 ph fr lh sh) 2= .i .i64 r)∧be (gp pE 114 ph fr lh sh) 1=⟨1,.cells (fX c a7 a8 a9 a10 fB fA) 0 true⟩∧gn pE 114 ph fr lh sh=sh):=by
 have hT0:=hT
 obtain⟨⟨c7,i7,j7⟩,⟨c8,i8,j8⟩,⟨c9,i9,j9⟩,⟨pw,i10,rY⟩,⟨pX,i11,tu⟩,⟨qD,i12,tT⟩⟩:=hT
 have hlen:=hS.s9.2
 have oh:=hS.s9.1
 refine fq (P:=fun fR fH fL=>(r≠0→an fR 2= .i .i64 r)∧be fH 1=⟨1,.cells (fX c a7 a8 a9 a10 fB fA) 0 true⟩∧fL=sh)
  (fw (fun k st=> ∃(fr:Fr) (fG:fC fg),st=⟨fr,fG,sh⟩∧an fr 1= .ptr .L 1 1 0∧an fr 9= .i .i64 (k:Int)∧be fG 1=⟨1,.cells (fX c a7 a8 a9 a10 fB fA) 0 true⟩∧r=IT c.cs (c.co.drop k)) _ c.co.length ?_ ?_ 0 _ (Nat.zero_le _) ⟨fr,lh,rfl,h1,hi,o1,by rw[hr];rfl⟩)
 ·rintro k _ hk ⟨fr,fG,rfl,h1,hi,o1,hr⟩
  have fK:(k:Int)<c.co.length:=by omega
  have pR:k≤c.co.length:=Nat.le_of_lt hk
  have hw:=fQ (k:=k) (by omega)
  rw[List.drop_eq_getElem_cons hk,IT]at hr
  have leave: ∀e:Int,e≠0→r=e→o= .ret:=fun e he h=>by rw[ho,h,if_neg he]
  obtain⟨b,cb,rr,fF,iK,hb⟩:=C2 i9 j9 k hk
  have hex:=Ei c a7 a8 a9 a10 fB fA hT0 hS c.co[k].sc 1 c.co[k].x _ hb (oh c.co[k] (List.getElem_mem hk))
  generalize c.co[k]=u at*
  generalize Cb c.cs u.sc u.x 1=q at*
  unfold fX at o1 hex ⊢
  by_cases hv:q=0
  ·left
   rw[if_neg (by simp[hv])]at hr
   subst hv
   simp(maxDischargeDepth:=6) only[qA,seval,gW,fU,ph,h1,hi,o1,i9.lenI,fK,fF,iK.froz1,i7.froz1,i8.froz1,i9.froz1,i10.froz1,i11.froz1,i12.froz1,hex,Cq,Cr,hw]
   refine⟨_,rfl,_,_,rfl, ?_, ?_, ?_,hr⟩
   all_goals (simp(maxDischargeDepth:=6) only[qA,seval,h1,o1])
  ·right
   rw[if_pos hv]at hr
   simp(maxDischargeDepth:=6) only[qA,seval,gW,fU,ph,h1,hi,o1,i9.lenI,fK,fF,iK.froz1,i7.froz1,i8.froz1,i9.froz1,i10.froz1,i11.froz1,i12.froz1,hex,Cq,Cr,hv]
   refine⟨_,_,(by simp:Out.ret≠ .nrm),rfl,(leave _ hv hr).symm,fun _=> ?_, ?_,rfl⟩ <;> simp(maxDischargeDepth:=6) only[qA,seval,hr,o1]
 ·rintro _ ⟨fr,fG,rfl,h1,hi,o1,hr⟩
  rw[List.drop_length,IT]at hr
  unfold fX at o1 ⊢
  simp(maxDischargeDepth:=6) only[qA,seval,ph,h1,hi,o1,i9.lenI,Int.lt_irrefl]
  exact⟨_,_,(by simp:Out.ext 4≠ .nrm),rfl,by rw[ho,hr];rfl,fun h=>absurd hr h,o1,rfl⟩
theorem anz(r:Int)(hr:r=KB c.cs c.cr)(o:Out)(ho:o=if r=0 then .ext 6 else .ret)(fr:Fr)(lh:fC fg)(sh:List fg)
  (h1:an fr 1= .ptr .L 1 1 0) (hi:an fr 11= .i .i64 0) (o1:be lh 1=⟨1,.cells (fX c a7 a8 a9 a10 fB fA) 0 true⟩):
  DC pE 114 (.loop pg) ⟨fr,lh,sh⟩=some (o,⟨gr pE 114 pg fr lh sh,gp pE 114 pg fr lh sh,gn pE 114 pg fr lh sh⟩)∧
  ((r≠0→an (gr pE 114 pg fr lh sh) 2= .i .i64 r)∧be (gp pE 114 pg fr lh sh) 1=⟨1,.cells (fX c a7 a8 a9 a10 fB fA) 0 true⟩∧gn pE 114 pg fr lh sh=sh):=by
 have hT0:=hT
 obtain⟨⟨c7,i7,j7⟩,⟨c8,i8,j8⟩,⟨c9,i9,j9⟩,⟨pw,i10,rY⟩,⟨pX,i11,tu⟩,⟨qD,i12,tT⟩⟩:=hT
 have hlen:=hS.s10.2
 have oh:=hS.s10.1
 refine fq (P:=fun fR fH fL=>(r≠0→an fR 2= .i .i64 r)∧be fH 1=⟨1,.cells (fX c a7 a8 a9 a10 fB fA) 0 true⟩∧fL=sh)
  (fw (fun k st=> ∃(fr:Fr) (fG:fC fg),st=⟨fr,fG,sh⟩∧an fr 1= .ptr .L 1 1 0∧an fr 11= .i .i64 (k:Int)∧be fG 1=⟨1,.cells (fX c a7 a8 a9 a10 fB fA) 0 true⟩∧r=KB c.cs (c.cr.drop k)) _ c.cr.length ?_ ?_ 0 _ (Nat.zero_le _) ⟨fr,lh,rfl,h1,hi,o1,by rw[hr];rfl⟩)
 ·rintro k _ hk ⟨fr,fG,rfl,h1,hi,o1,hr⟩
  have fK:(k:Int)<c.cr.length:=by omega
  have pR:k≤c.cr.length:=Nat.le_of_lt hk
  have hw:=fQ (k:=k) (by omega)
  rw[List.drop_eq_getElem_cons hk,KB]at hr
  have leave: ∀e:Int,e≠0→r=e→o= .ret:=fun e he h=>by rw[ho,h,if_neg he]
  obtain⟨b,cb,rr,fF,iK,oS,hb⟩:=nw i10 rY k hk
  have hex:=Ei c a7 a8 a9 a10 fB fA hT0 hS 1 2 c.cr[k] _ hb (oh c.cr[k] (List.getElem_mem hk))
  generalize c.cr[k]=u at*
  generalize Cb c.cs 1 u 2=q at*
  unfold fX at o1 hex ⊢
  by_cases hv:q=0
  ·left
   rw[if_neg (by simp[hv])]at hr
   subst hv
   simp(maxDischargeDepth:=6) only[qA,seval,gW,fU,pg,h1,hi,o1,i10.lenI,fK,fF,iK.froz1,i7.froz1,i8.froz1,i9.froz1,i10.froz1,i11.froz1,i12.froz1,hex,Cq,Cr,hw]
   refine⟨_,rfl,_,_,rfl, ?_, ?_, ?_,hr⟩
   all_goals (simp(maxDischargeDepth:=6) only[qA,seval,h1,o1])
  ·right
   rw[if_pos hv]at hr
   simp(maxDischargeDepth:=6) only[qA,seval,gW,fU,pg,h1,hi,o1,i10.lenI,fK,fF,iK.froz1,i7.froz1,i8.froz1,i9.froz1,i10.froz1,i11.froz1,i12.froz1,hex,Cq,Cr,hv]
   refine⟨_,_,(by simp:Out.ret≠ .nrm),rfl,(leave _ hv hr).symm,fun _=> ?_, ?_,rfl⟩ <;> simp(maxDischargeDepth:=6) only[qA,seval,hr,o1]
 ·rintro _ ⟨fr,fG,rfl,h1,hi,o1,hr⟩
  rw[List.drop_length,KB]at hr
  unfold fX at o1 ⊢
  simp(maxDischargeDepth:=6) only[qA,seval,pg,h1,hi,o1,i10.lenI,Int.lt_irrefl]
  exact⟨_,_,(by simp:Out.ext 6≠ .nrm),rfl,by rw[ho,hr];rfl,fun h=>absurd hr h,o1,rfl⟩
theorem MW:fj pE 93 [.agg (fX c a7 a8 a9 a10 fB fA)] []=some (.i .i64 (sO c),[]):=by
 have zk:=Q5 c a7 a8 a9 a10 fB fA hT hS
 have hA:=fun fr lh sh h1 hi o1=>anv c a7 a8 a9 a10 fB fA hT hS _ rfl _ rfl fr lh sh h1 hi o1
 have hB:=fun fr lh sh h1 hi o1=>anw c a7 a8 a9 a10 fB fA hT hS _ rfl _ rfl fr lh sh h1 hi o1
 have hC:=fun fr lh sh h1 hi o1=>anx c a7 a8 a9 a10 fB fA hT hS _ rfl _ rfl fr lh sh h1 hi o1
 have hD:=fun fr lh sh h1 hi o1=>anz c a7 a8 a9 a10 fB fA hT hS _ rfl _ rfl fr lh sh h1 hi o1
 obtain⟨⟨c7,i7,j7⟩,⟨c8,i8,j8⟩,⟨c9,i9,j9⟩,⟨pw,i10,rY⟩,⟨pX,i11,tu⟩,⟨qD,i12,tT⟩⟩:=hT
 unfold fX at hA hB hC hD zk ⊢
 rw[fx Zn (by simp[Nt])]
 unfold sO
 by_cases e0:lA c=0
 ·rw[e0]at zk
  rw[if_neg (by simp[e0])]
  by_cases e1:MT c.cs 0 c.cs=0
  ·rw[e1]at hA
   rw[if_neg (by simp[e1])]
   simp only[if_true,ne_eq,not_true_eq_false,false_implies,true_and]at hA
   by_cases e2:IS c.cs c.ru=0
   ·rw[e2]at hB
    rw[if_neg (by simp[e2])]
    simp only[if_true,ne_eq,not_true_eq_false,false_implies,true_and]at hB
    by_cases e3:IT c.cs c.co=0
    ·rw[e3]at hC
     rw[if_neg (by simp[e3])]
     simp only[if_true,ne_eq,not_true_eq_false,false_implies,true_and]at hC
     by_cases e4:KB c.cs c.cr=0
     ·rw[e4]at hD
      simp only[if_true,ne_eq,not_true_eq_false,false_implies,true_and]at hD
      simp(maxDischargeDepth:=6) only[qA,seval,Nt,Fe,zW,vV,i7.froz1,i8.froz1,i9.froz1,i10.froz1,i11.froz1,i12.froz1,zk,z7,hA,hB,hC,hD,e4]
     ·simp only[e4,if_false,ne_eq,not_false_eq_true,forall_const]at hD
      simp(maxDischargeDepth:=6) only[qA,seval,Nt,Fe,zW,vV,i7.froz1,i8.froz1,i9.froz1,i10.froz1,i11.froz1,i12.froz1,zk,z7,hA,hB,hC,hD]
    ·rw[if_pos e3]
     simp only[e3,if_false,ne_eq,not_false_eq_true,forall_const]at hC
     simp(maxDischargeDepth:=6) only[qA,seval,Nt,zW,vV,i7.froz1,i8.froz1,i9.froz1,i10.froz1,i11.froz1,i12.froz1,zk,z7,hA,hB,hC]
   ·rw[if_pos e2]
    simp only[e2,if_false,ne_eq,not_false_eq_true,forall_const]at hB
    simp(maxDischargeDepth:=6) only[qA,seval,Nt,vV,i7.froz1,i8.froz1,i9.froz1,i10.froz1,i11.froz1,i12.froz1,zk,z7,hA,hB]
  ·rw[if_pos e1]
   simp only[e1,if_false,ne_eq,not_false_eq_true,forall_const]at hA
   simp(maxDischargeDepth:=6) only[qA,seval,Nt,i7.froz1,i8.froz1,i9.froz1,i10.froz1,i11.froz1,i12.froz1,zk,z7,hA]
 ·rw[if_pos e0]
  generalize lA c=e at*
  simp(maxDischargeDepth:=6) only[qA,seval,Nt,i7.froz1,i8.froz1,i9.froz1,i10.froz1,i11.froz1,i12.froz1,zk,z7,e0]
end
end Go.Proofs.YtblcbheipjeoeaaGreat
