/- The structure of a duty: the reference's. Contracts out of range or too large. A task is added to a state: the program. setting.New for any contract; the automaton's Start and Extend. The automaton's Extend. Conditions: the theorems' own. -/
import Derived.Test.YtblcbheipjeoeaaGreatM19
import Derived.KernelRfl
set_option maxRecDepth 100000
set_option linter.unusedSimpArgs false
set_option linter.unusedVariables false
set_option maxHeartbeats 16000000
namespace Go.Proofs.YtblcbheipjeoeaaGreat
open Go Go.Ev
section
variable(t:Tt)(c:Ct)(zT aT fT a7 a8 a9 a10 fB fA:T)(hT:uC t zT aT fT)(hC:xu c a7 a8 a9 a10 fB fA)
theorem Hg(hT:uC t zT aT fT)(hC:xu c a7 a8 a9 a10 fB fA){i j:Int}(hi:ry t.fl.length i=true)(hj:ry t.fl.length j=true):fj pE 52 [.agg [zT,aT,fT],.agg (fX c a7 a8 a9 a10 fB fA),.i .i64 i,.i .i64 j] []=some (.b (tY c t.fl i j),[]):=by
 obtain⟨i,qi,rfl⟩:=lV hi
 obtain⟨j,qj,rfl⟩:=lV hj
 obtain⟨⟨zc,z1,z2⟩,⟨ac,b1,b2⟩,⟨fc,f1,f2⟩⟩:=hT
 obtain⟨⟨c7,i7,j7⟩,⟨c8,i8,j8⟩,⟨c9,i9,j9⟩,⟨pw,i10,rY⟩,⟨pX,i11,tu⟩,⟨qD,i12,tT⟩⟩:=hC
 rw[Bq c t.fl qi qj]
 obtain⟨r,h1⟩:=tX f1 f2 i qi
 obtain⟨r',h2⟩:=tX f1 f2 j qj
 rw[fx Zh (by simp[c52])]
 generalize t.fl[i]=f at*
 generalize t.fl[j]=g at*
 unfold fX Ez
 simp(maxDischargeDepth:=6) only[qB,seval,c52,h1,h2]
 by_cases e1:f.to=g.fr <;> by_cases e2:c.cn≤wr .i64 (g.dp-f.ar) <;> by_cases e3:wr .i64 (g.dp-f.ar)≤c.st <;> simp[e1,e2,e3]
theorem aoa(d:List (Int×Bool))(dT:T)(hd:Hd d dT)(hlen:d.length≤1000)(fc:List T)(hf:fD fT t.fl.length fc)(r:Bool)(hr:r=d.all fun k=>ry t.fl.length k.1)(o:Out)(ho:o=if r=true then .ext 0 else .ret)(fr:Fr)(lh:fC fg)(sh:List fg)
  (h2:an fr 2=dT) (h3:an fr 3= .ptr .L 3 1 0) (h7:an fr 7= .i .i64 0) (o3:be lh 3=⟨1,.cells [zT,aT,fT] 0 true⟩):
  DC pE 61 (.loop qb) ⟨fr,lh,sh⟩=some (o,⟨gr pE 61 qb fr lh sh,gp pE 61 qb fr lh sh,gn pE 61 qb fr lh sh⟩)∧((r=false→an (gr pE 61 qb fr lh sh) 6= .i .i64 6)∧gp pE 61 qb fr lh sh=lh∧gn pE 61 qb fr lh sh=sh):=by
 refine oD (fun k st=> ∃(fr:Fr),st=⟨fr,lh,sh⟩∧r=((d.drop k).all fun k=>ry t.fl.length k.1)∧an fr 2=dT∧an fr 3= .ptr .L 3 1 0∧an fr 7= .i .i64 (k:Int)) (fun fR fH fL=>(r=false→an fR 6= .i .i64 6)∧fH=lh∧fL=sh) o d.length ?_ ?_ fr lh sh ⟨fr,rfl,hr,h2,h3,h7⟩
 ·rintro k _ hk ⟨fr,rfl,hr,h2,h3,h7⟩
  have fK:(k:Int)<d.length:=by omega
  have hw:=gl (k:=k) (by omega)
  obtain⟨rr,fF⟩:=u9 hd k hk
  rw[RG hk]at hr
  unfold ry at hr
  generalize d[k]=y at*
  simp(maxDischargeDepth:=6) only[qB,seval,qb,h2,h3,h7,o3,hd.choose_spec.1.lenI,hf.lenI,fK,hw,fF]
  repeat' (refine QR (fun _=> ?_) (fun _=> ?_))
  all_goals first
   |(rw[decide_eq_false (by omega),Bool.false_and]at hr
     exact xR ⟨by rw[ho,hr];rfl,fun _=>(by simp(maxDischargeDepth:=6) only[qA,seval]),rfl,rfl⟩)
   |(rw[decide_eq_true (by omega),Bool.true_and]at hr
     exact qq ⟨_,rfl,hr,by simp(maxDischargeDepth:=6) only[qA,seval,h2],by simp(maxDischargeDepth:=6) only[qA,seval,h3],by simp(maxDischargeDepth:=6) only[qA,seval]⟩)
 ·rintro _ ⟨fr,rfl,hr,h2,h3,h7⟩
  rw[List.drop_length]at hr
  simp(maxDischargeDepth:=6) only[qA,seval,qb,h2,h7,hd.choose_spec.1.lenI,Int.lt_irrefl]
  exact po ⟨by rw[ho,hr];rfl,fun h=>(by rw[hr]at h;cases h),rfl,rfl⟩
theorem aob(hT:uC t zT aT fT)(hC:xu c a7 a8 a9 a10 fB fA)(d:List (Int×Bool))(dT:T)(hd:Hd d dT)(h1:1≤d.length)(hlen:d.length≤1000)(gz: ∀k∈d,ry t.fl.length k.1=true)(r:Bool)(hr:r=EC c t.fl d)(o:Out)(ho:o=if r=true then .ext 2 else .ret)(fr:Fr)(lh:fC fg)(sh:List fg)
  (h2:an fr 2=dT) (h3:an fr 3= .ptr .L 3 1 0) (h4:an fr 4= .ptr .L 4 1 0) (h8:an fr 8= .i .i64 1) (o3:be lh 3=⟨1,.cells [zT,aT,fT] 0 true⟩) (o4:be lh 4=⟨1,.cells (fX c a7 a8 a9 a10 fB fA) 0 true⟩):
  DC pE 61 (.loop ri) ⟨fr,lh,sh⟩=some (o,⟨gr pE 61 ri fr lh sh,gp pE 61 ri fr lh sh,gn pE 61 ri fr lh sh⟩)∧((r=false→an (gr pE 61 ri fr lh sh) 6= .i .i64 14)∧gn pE 61 ri fr lh sh=sh):=by
 have VC:=hT
 have hC':=hC
 obtain⟨⟨zc,z1,z2⟩,⟨ac,b1,b2⟩,⟨fc,f1,f2⟩⟩:=VC
 obtain⟨⟨c7,i7,j7⟩,⟨c8,i8,j8⟩,⟨c9,i9,j9⟩,⟨pw,i10,rY⟩,⟨pX,i11,tu⟩,⟨qD,i12,tT⟩⟩:=hC'
 refine oD (fun k st=> ∃(fr:Fr),st=⟨fr,lh,sh⟩∧r=EC c t.fl (d.drop k)∧an fr 2=dT∧an fr 3= .ptr .L 3 1 0∧an fr 4= .ptr .L 4 1 0∧an fr 8= .i .i64 ((k+1:Nat):Int)) (fun fR fH fL=>(r=false→an fR 6= .i .i64 14)∧fL=sh) o (d.length-1) ?_ ?_ fr lh sh ⟨fr,rfl,hr,h2,h3,h4,h8⟩
 ·rintro k _ hk ⟨fr,rfl,hr,h2,h3,h4,h8⟩
  have fK:((k+1:Nat):Int)<d.length:=by omega
  have hw:=gl (k:=k+1) (by omega)
  have oR:wr .i64 (((k+1:Nat):Int)-1)=(k:Int):=by rw[kM (by omega)];omega
  obtain⟨rr,fF⟩:=u9 hd k (by omega)
  obtain⟨r2,rv⟩:=u9 hd (k+1) (by omega)
  rw[xX c t.fl (by omega:k+1<d.length)]at hr
  have hn:=Hg t c zT aT fT a7 a8 a9 a10 fB fA hT hC (gz _ (List.getElem_mem (by omega:k<d.length))) (gz _ (List.getElem_mem (by omega:k+1<d.length)))
  unfold fX at hn o4
  generalize d[k]=x at*
  generalize d[k+1]=y at*
  cases hv:tY c t.fl x.1 y.1 <;> rw[hv]at hn hr <;> simp only[Bool.true_and,Bool.false_and]at hr
  all_goals simp(maxDischargeDepth:=6) only[qA,seval,gW,fU,ri,h2,h3,h4,h8,o3,o4,hd.choose_spec.1.lenI,fK,hw,oR,fF,rv,hn,Ti,alX,z1.froz1,b1.froz1,f1.froz1,i7.froz1,i8.froz1,i9.froz1,i10.froz1,i11.froz1,i12.froz1]
  all_goals first
   |exact xR ⟨by rw[ho,hr];rfl,fun _=>(by simp(maxDischargeDepth:=6) only[qA,seval]),rfl⟩
   |exact qq ⟨_,rfl,hr,by simp(maxDischargeDepth:=6) only[qA,seval,h2],by simp(maxDischargeDepth:=6) only[qA,seval,h3],by simp(maxDischargeDepth:=6) only[qA,seval,h4],by simp(maxDischargeDepth:=6) only[qA,seval]⟩
 ·rintro _ ⟨fr,rfl,hr,h2,h3,h4,h8⟩
  rw[KO c t.fl (by omega)]at hr
  have fK: ¬((d.length-1+1:Nat):Int)<d.length:=by omega
  simp(maxDischargeDepth:=6) only[qA,seval,ri,h2,h8,hd.choose_spec.1.lenI,fK]
  exact po ⟨by rw[ho,hr];rfl,fun h=>(by rw[hr]at h;cases h),rfl⟩
theorem VY(hT:uC t zT aT fT)(hC:xu c a7 a8 a9 a10 fB fA)(d:List (Int×Bool))(dT:T)(hd:Hd d dT)(hlen:d.length≤1000):fj pE 98 [.agg [zT,aT,fT],.agg (fX c a7 a8 a9 a10 fB fA),dT] []=some (.i .i64 (xW c t.fl d),[]):=by
 have tU:=hd.choose_spec.1.lenI
 have VC:=hT
 have hC':=hC
 obtain⟨⟨zc,z1,z2⟩,⟨ac,b1,b2⟩,⟨fc,f1,f2⟩⟩:=VC
 obtain⟨⟨c7,i7,j7⟩,⟨c8,i8,j8⟩,⟨c9,i9,j9⟩,⟨pw,i10,rY⟩,⟨pX,i11,tu⟩,⟨qD,i12,tT⟩⟩:=hC'
 have VR:=fun fr lh sh h2 h3 h7 o3=>aoa t zT aT fT d dT hd hlen fc f1 _ rfl _ rfl fr lh sh h2 h3 h7 o3
 rw[fx afW (by simp[Y8])]
 unfold xW
 cases hb:d.all fun k=>ry t.fl.length k.1 <;> rw[hb]at VR
 ·unfold fX
  simp(maxDischargeDepth:=6) only[qB,seval,Y8,VR,tU,itI]
 ·by_cases h1:1≤d.length
  ·have HI:=fun fr lh sh h2 h3 h4 h8 o3 o4=>aob t c zT aT fT a7 a8 a9 a10 fB fA hT hC d dT hd h1 hlen (List.all_eq_true.1 hb) _ rfl _ rfl fr lh sh h2 h3 h4 h8 o3 o4
   unfold fX at HI ⊢
   cases hc:EC c t.fl d <;> rw[hc]at HI
   all_goals simp(maxDischargeDepth:=6) only[qB,seval,Y8,NX,HI,VR,tU,itI]
  ·have pJ:(d.length:Int)<1:=by omega
   unfold fX
   simp(maxDischargeDepth:=6) only[qB,seval,Y8,tU,pJ]
end
end Go.Proofs.YtblcbheipjeoeaaGreat
namespace Go.Proofs.YtblcbheipjeoeaaGreat
open Go Go.Ev
section
variable(c:Ct)(a7 a8 a9 a10 fB fA:T)(hT:xu c a7 a8 a9 a10 fB fA)(vM:qu c=false∨qW c=false)
include hT vM
theorem abz:fj pE 142 [.agg (fX c a7 a8 a9 a10 fB fA)] []=some (.i .i64 (lA c),[]):=by
 obtain⟨⟨c7,i7,j7⟩,⟨c8,i8,j8⟩,⟨c9,i9,j9⟩,⟨pw,i10,rY⟩,⟨pX,i11,tu⟩,⟨qD,i12,tT⟩⟩:=hT
 unfold fX
 rw[fx Ov (by simp[kz])]
 unfold lA
 unfold qu qW at vM ⊢
 have w0:=iQ c.rp 0 1440
 have w1:=iQ c.rl 0 1440
 have w2:=iQ c.cn 0 1440
 have w3:=iQ c.st c.cn 1440
 have w4:=iQ c.ly 0 10080
 have w5:=iQ c.nf 0 1439
 have w6:=iQ c.nt 0 1439
 have w7:=iQ c.gu 0 599999
 cases q0:kj c.rp 0 1440 with
 |false=>
  rw[q0]at w0
  simp(maxDischargeDepth:=6) only[qA,seval,kz,w0,iv]
 |true=>
 rw[q0]at w0
 cases q1:kj c.rl 0 1440 with
 |false=>
  rw[q1]at w1
  simp(maxDischargeDepth:=6) only[qA,seval,kz,w0,w1,iv]
 |true=>
 rw[q1]at w1
 cases q2:kj c.cn 0 1440 with
 |false=>
  rw[q2]at w2
  simp(maxDischargeDepth:=6) only[qA,seval,kz,w0,w1,w2,iv]
 |true=>
 rw[q2]at w2
 cases q3:kj c.st c.cn 1440 with
 |false=>
  rw[q3]at w3
  simp(maxDischargeDepth:=6) only[qA,seval,kz,w0,w1,w2,w3,iv]
 |true=>
 rw[q3]at w3
 cases q4:kj c.ly 0 10080 with
 |false=>
  rw[q4]at w4
  simp(maxDischargeDepth:=6) only[qA,seval,kz,w0,w1,w2,w3,w4,iv]
 |true=>
 rw[q4]at w4
 cases q5:kj c.nf 0 1439 with
 |false=>
  rw[q5]at w5
  simp(maxDischargeDepth:=6) only[qA,seval,kz,w0,w1,w2,w3,w4,w5,iv]
 |true=>
 rw[q5]at w5
 cases q6:kj c.nt 0 1439 with
 |false=>
  rw[q6]at w6
  simp(maxDischargeDepth:=6) only[qA,seval,kz,w0,w1,w2,w3,w4,w5,w6,iv]
 |true=>
 rw[q6]at w6
 cases q7:kj c.gu 0 599999 with
 |false=>
  rw[q7]at w7
  simp(maxDischargeDepth:=6) only[qA,seval,kz,w0,w1,w2,w3,w4,w5,w6,w7,iv]
 |true=>
 rw[q7]at w7
 by_cases n0:(32:Int)<(c.cs.length:Int)
 ·have d0:decide (c.cs.length≤32)=false:=decide_eq_false (by omega)
  simp(maxDischargeDepth:=6) only[qA,seval,kz,i7.lenI,i8.lenI,i9.lenI,i10.lenI,i11.lenI,i12.lenI,w0,w1,w2,w3,w4,w5,w6,w7,iv,n0,d0]
 have d0:decide (c.cs.length≤32)=true:=decide_eq_true (by omega)
 by_cases n1:(40:Int)<(c.ru.length:Int)
 ·have d1:decide (c.ru.length≤40)=false:=decide_eq_false (by omega)
  simp(maxDischargeDepth:=6) only[qA,seval,kz,i7.lenI,i8.lenI,i9.lenI,i10.lenI,i11.lenI,i12.lenI,w0,w1,w2,w3,w4,w5,w6,w7,iv,n0,n1,d0,d1]
 have d1:decide (c.ru.length≤40)=true:=decide_eq_true (by omega)
 by_cases n2:(16:Int)<(c.co.length:Int)
 ·have d2:decide (c.co.length≤16)=false:=decide_eq_false (by omega)
  simp(maxDischargeDepth:=6) only[qA,seval,kz,i7.lenI,i8.lenI,i9.lenI,i10.lenI,i11.lenI,i12.lenI,w0,w1,w2,w3,w4,w5,w6,w7,iv,n0,n1,n2,d0,d1,d2]
 have d2:decide (c.co.length≤16)=true:=decide_eq_true (by omega)
 by_cases n3:(1:Int)<(c.cr.length:Int)
 ·have d3:decide (c.cr.length≤1)=false:=decide_eq_false (by omega)
  simp(maxDischargeDepth:=6) only[qA,seval,kz,i7.lenI,i8.lenI,i9.lenI,i10.lenI,i11.lenI,i12.lenI,w0,w1,w2,w3,w4,w5,w6,w7,iv,n0,n1,n2,n3,d0,d1,d2,d3]
 have d3:decide (c.cr.length≤1)=true:=decide_eq_true (by omega)
 by_cases n4:(16:Int)<(c.li.length:Int)
 ·have d4:decide (c.li.length≤16)=false:=decide_eq_false (by omega)
  simp(maxDischargeDepth:=6) only[qA,seval,kz,i7.lenI,i8.lenI,i9.lenI,i10.lenI,i11.lenI,i12.lenI,w0,w1,w2,w3,w4,w5,w6,w7,iv,n0,n1,n2,n3,n4,d0,d1,d2,d3,d4]
 have d4:decide (c.li.length≤16)=true:=decide_eq_true (by omega)
 by_cases n5:(16:Int)<(c.fs.length:Int)
 ·have d5:decide (c.fs.length≤16)=false:=decide_eq_false (by omega)
  simp(maxDischargeDepth:=6) only[qA,seval,kz,i7.lenI,i8.lenI,i9.lenI,i10.lenI,i11.lenI,i12.lenI,w0,w1,w2,w3,w4,w5,w6,w7,iv,n0,n1,n2,n3,n4,n5,d0,d1,d2,d3,d4,d5]
 have d5:decide (c.fs.length≤16)=true:=decide_eq_true (by omega)
 rw[q0,q1,q2,q3,q4,q5,q6,q7,d0,d1,d2,d3,d4,d5]at vM
 exact absurd vM (by decide)
theorem abA:fj pE 155 [.agg (fX c a7 a8 a9 a10 fB fA)] []=some (.i .i64 (lA c),[]):=by
 obtain⟨⟨c7,i7,j7⟩,⟨c8,i8,j8⟩,⟨c9,i9,j9⟩,⟨pw,i10,rY⟩,⟨pX,i11,tu⟩,⟨qD,i12,tT⟩⟩:=hT
 unfold fX
 rw[fx OB (by simp[kA])]
 unfold lA
 unfold qu qW at vM ⊢
 have w0:=iF c.rp 0 1440
 have w1:=iF c.rl 0 1440
 have w2:=iF c.cn 0 1440
 have w3:=iF c.st c.cn 1440
 have w4:=iF c.ly 0 10080
 have w5:=iF c.nf 0 1439
 have w6:=iF c.nt 0 1439
 have w7:=iF c.gu 0 599999
 cases q0:kj c.rp 0 1440 with
 |false=>
  rw[q0]at w0
  simp(maxDischargeDepth:=6) only[qA,seval,kA,w0,gT]
 |true=>
 rw[q0]at w0
 cases q1:kj c.rl 0 1440 with
 |false=>
  rw[q1]at w1
  simp(maxDischargeDepth:=6) only[qA,seval,kA,w0,w1,gT]
 |true=>
 rw[q1]at w1
 cases q2:kj c.cn 0 1440 with
 |false=>
  rw[q2]at w2
  simp(maxDischargeDepth:=6) only[qA,seval,kA,w0,w1,w2,gT]
 |true=>
 rw[q2]at w2
 cases q3:kj c.st c.cn 1440 with
 |false=>
  rw[q3]at w3
  simp(maxDischargeDepth:=6) only[qA,seval,kA,w0,w1,w2,w3,gT]
 |true=>
 rw[q3]at w3
 cases q4:kj c.ly 0 10080 with
 |false=>
  rw[q4]at w4
  simp(maxDischargeDepth:=6) only[qA,seval,kA,w0,w1,w2,w3,w4,gT]
 |true=>
 rw[q4]at w4
 cases q5:kj c.nf 0 1439 with
 |false=>
  rw[q5]at w5
  simp(maxDischargeDepth:=6) only[qA,seval,kA,w0,w1,w2,w3,w4,w5,gT]
 |true=>
 rw[q5]at w5
 cases q6:kj c.nt 0 1439 with
 |false=>
  rw[q6]at w6
  simp(maxDischargeDepth:=6) only[qA,seval,kA,w0,w1,w2,w3,w4,w5,w6,gT]
 |true=>
 rw[q6]at w6
 cases q7:kj c.gu 0 599999 with
 |false=>
  rw[q7]at w7
  simp(maxDischargeDepth:=6) only[qA,seval,kA,w0,w1,w2,w3,w4,w5,w6,w7,gT]
 |true=>
 rw[q7]at w7
 by_cases n0:(32:Int)<(c.cs.length:Int)
 ·have d0:decide (c.cs.length≤32)=false:=decide_eq_false (by omega)
  simp(maxDischargeDepth:=6) only[qA,seval,kA,i7.lenI,w0,w1,w2,w3,w4,w5,w6,w7,gT,n0,d0]
 have d0:decide (c.cs.length≤32)=true:=decide_eq_true (by omega)
 by_cases n1:(40:Int)<(c.ru.length:Int)
 ·have d1:decide (c.ru.length≤40)=false:=decide_eq_false (by omega)
  simp(maxDischargeDepth:=6) only[qA,seval,kA,i7.lenI,i8.lenI,w0,w1,w2,w3,w4,w5,w6,w7,gT,n0,n1,d0,d1]
 have d1:decide (c.ru.length≤40)=true:=decide_eq_true (by omega)
 by_cases n2:(16:Int)<(c.co.length:Int)
 ·have d2:decide (c.co.length≤16)=false:=decide_eq_false (by omega)
  simp(maxDischargeDepth:=6) only[qA,seval,kA,i7.lenI,i8.lenI,i9.lenI,w0,w1,w2,w3,w4,w5,w6,w7,gT,n0,n1,n2,d0,d1,d2]
 have d2:decide (c.co.length≤16)=true:=decide_eq_true (by omega)
 by_cases n3:(1:Int)<(c.cr.length:Int)
 ·have d3:decide (c.cr.length≤1)=false:=decide_eq_false (by omega)
  simp(maxDischargeDepth:=6) only[qA,seval,kA,i7.lenI,i8.lenI,i9.lenI,i10.lenI,w0,w1,w2,w3,w4,w5,w6,w7,gT,n0,n1,n2,n3,d0,d1,d2,d3]
 have d3:decide (c.cr.length≤1)=true:=decide_eq_true (by omega)
 by_cases n4:(16:Int)<(c.li.length:Int)
 ·have d4:decide (c.li.length≤16)=false:=decide_eq_false (by omega)
  simp(maxDischargeDepth:=6) only[qA,seval,kA,i7.lenI,i8.lenI,i9.lenI,i10.lenI,i11.lenI,w0,w1,w2,w3,w4,w5,w6,w7,gT,n0,n1,n2,n3,n4,d0,d1,d2,d3,d4]
 have d4:decide (c.li.length≤16)=true:=decide_eq_true (by omega)
 by_cases n5:(16:Int)<(c.fs.length:Int)
 ·have d5:decide (c.fs.length≤16)=false:=decide_eq_false (by omega)
  simp(maxDischargeDepth:=6) only[qA,seval,kA,i7.lenI,i8.lenI,i9.lenI,i10.lenI,i11.lenI,i12.lenI,w0,w1,w2,w3,w4,w5,w6,w7,gT,n0,n1,n2,n3,n4,n5,d0,d1,d2,d3,d4,d5]
 have d5:decide (c.fs.length≤16)=true:=decide_eq_true (by omega)
 rw[q0,q1,q2,q3,q4,q5,q6,q7,d0,d1,d2,d3,d4,d5]at vM
 exact absurd vM (by decide)
theorem xk:lA c≠0:=by
 have _:=hT
 unfold lA
 by_cases h:qu c=false
 ·rw[if_pos h];decide
 ·rw[if_neg h,if_pos (vM.resolve_left h)];decide
theorem Bu:sO c=lA c:=by
 unfold sO;rw[if_pos (xk c a7 a8 a9 a10 fB fA hT vM)]
theorem Yz: ∃s,fj pE 87 [.agg (fX c a7 a8 a9 a10 fB fA)] []=some (.i .i64 (sO c),s):=by
 have zk:=abz c a7 a8 a9 a10 fB fA hT vM
 have e0:=xk c a7 a8 a9 a10 fB fA hT vM
 rw[Bu c a7 a8 a9 a10 fB fA hT vM]
 obtain⟨⟨c7,i7,j7⟩,⟨c8,i8,j8⟩,⟨c9,i9,j9⟩,⟨pw,i10,rY⟩,⟨pX,i11,tu⟩,⟨qD,i12,tT⟩⟩:=hT
 unfold fX at zk ⊢
 rw[fx Zk (by simp[Ns])]
 generalize lA c=e at*
 simp(maxDischargeDepth:=6) only[qA,seval,Ns,i7.froz1,i8.froz1,i9.froz1,i10.froz1,i11.froz1,i12.froz1,zk,z6,e0]
 exact⟨_,rfl⟩
theorem KR:fj pE 93 [.agg (fX c a7 a8 a9 a10 fB fA)] []=some (.i .i64 (sO c),[]):=by
 have zk:=abA c a7 a8 a9 a10 fB fA hT vM
 have e0:=xk c a7 a8 a9 a10 fB fA hT vM
 rw[Bu c a7 a8 a9 a10 fB fA hT vM]
 obtain⟨⟨c7,i7,j7⟩,⟨c8,i8,j8⟩,⟨c9,i9,j9⟩,⟨pw,i10,rY⟩,⟨pX,i11,tu⟩,⟨qD,i12,tT⟩⟩:=hT
 unfold fX at zk ⊢
 rw[fx Zn (by simp[Nt])]
 generalize lA c=e at*
 simp(maxDischargeDepth:=6) only[qA,seval,Nt,i7.froz1,i8.froz1,i9.froz1,i10.froz1,i11.froz1,i12.froz1,zk,z7,e0]
end
structure S1 (c:Ct):Prop where
 n7:Q1 c.cs
 n8: ∀u∈c.ru,HC u.x
 n9: ∀u∈c.co,HC u.x
 n10: ∀x∈c.cr,HC x
theorem S1.sm{c:Ct}(h:S1 c)(hs:qW c=true):A8 c:=by
 unfold qW at hs
 simp only[Bool.and_eq_true,decide_eq_true_eq]at hs
 obtain⟨h1,h2,h3,h4,h5,h6⟩:=hs
 exact⟨⟨h.n7,ku (by omega)⟩,⟨h.n8,ku (by omega)⟩,⟨h.n9,ku (by omega)⟩,⟨h.n10,ku (by omega)⟩,ku (by omega),ku (by omega)⟩
end Go.Proofs.YtblcbheipjeoeaaGreat
namespace Go.Proofs.YtblcbheipjeoeaaGreat
open Go Go.Ev
theorem mxI{a b:Int}:(if a>b then a else b)=max b a:=by split <;> omega
theorem mnI{a b:Int}:(if a<b then a else b)=min b a:=by split <;> omega
theorem Dg: ∀L:List (List Nat),vS (L.map T.s)=some L
 | []=>rfl
 |x::L=>by rw[List.map_cons,vS,Dg L];rfl
theorem VZ{s:se}{a:T}(h:mi s a):S6 a=some s.ty:=by
 rcases h with⟨rfl,_,h⟩|⟨ex,rfl⟩
 ·rw[List.map_eq_nil_iff.1 h];rfl
 ·show(if(s.ty.map T.s).length=s.ty.length then vS (s.ty.map T.s)else none)=_
  rw[if_pos (by simp),Dg]
theorem abB{s:se}{a:T}(h:mi s a):fD (slS a s.ty) s.ty.length (s.ty.map T.s):=by
 rcases h with⟨rfl,h1,h⟩|⟨ex,rfl⟩
 ·exact .inl ⟨rfl,h1,h⟩
 ·exact .inr ⟨false,rfl⟩
def Je(s:se):Prop:=(0≤s.lg∧s.lg≤100)∧(0≤s.hd∧s.hd≤100)∧(0≤s.bl∧s.bl≤1099511640000)∧Dz s.ty=true∧s.ty.length≤1000
theorem Jf{n:Nat}{s:se}(h:xi n s=true)(hl:s.ty.length≤1000):Je s:=by
 obtain⟨a1,a2,a3,a4,a5,a6,a7,a8,a9⟩:=nD.1 h
 unfold M5 at*
 exact⟨⟨a3.1,by omega⟩,⟨a4.1,by omega⟩,⟨a6.1,by omega⟩,Ha _ _ a9,hl⟩
theorem abC{s:se}{a:T}(h:mi s a):froz (.agg (gv s a))=true:=by
 rcases h with⟨rfl,_,_⟩|⟨ex,rfl⟩ <;> rfl
section
variable(t:Tt)(c:Ct)(zT aT fT a7 a8 a9 a10 fB fA:T)(vs:List T)
theorem RM(hT:uC t zT aT fT)(vR: ∀f∈t.fl,xV f)(s:se)(a:T)(ha:mi s a)(hs:Je s)(k:Int×Bool)(j:Nat)(hj:j<t.fl.length)(hk:k.1=j):
  ∃a',(∀z fr lh sh,gq pE (fj pE) z ⟨fr,lh,sh⟩ 91 [sI c zT aT fT a7 a8 a9 a10 fB fA vs,.agg (gv s a),.agg [.i .i64 k.1,.b k.2]]=some (.agg (gv (kF t.fl[j] k s) a'),⟨fr,lh,sh⟩))∧mi (kF t.fl[j] k s) a':=by
 obtain⟨fc,f1,f2⟩:=hT.f
 obtain⟨r,fF⟩:=tX f1 f2 j hj
 have hf:=vR _ (List.getElem_mem hj)
 generalize t.fl[j]=f at*
 obtain⟨f0,q1,q2,q3,q4⟩:=hf
 obtain⟨b1,b2,b3,b4,b5⟩:=hs
 obtain⟨kf,kh⟩:=k
 simp only at hk
 subst hk
 have hg: ∀a',ve [sI c zT aT fT a7 a8 a9 a10 fB fA vs,.agg (gv s a),.agg [.i .i64 (j:Int),.b kh]]=some (.agg (gv (kF f ((j:Int),kh) s) a'))→ ∀z fr lh sh,gq pE (fj pE) z ⟨fr,lh,sh⟩ 91 [sI c zT aT fT a7 a8 a9 a10 fB fA vs,.agg (gv s a),.agg [.i .i64 (j:Int),.b kh]]=some (.agg (gv (kF f ((j:Int),kh) s) a'),⟨fr,lh,sh⟩):=by
  intro a' h z fr lh sh
  rw[Gj (g:=ve) rfl rfl,tM (by simp only[List.all_cons,List.all_nil,abC ha];rfl)]
  simp only[Option.bind_some,h]
 have lN:=VZ ha
 have y8:S7 fT (j:Int)=some (f.dp,f.ar,f.ty):=by unfold S7;rw[fF]
 cases kh with
 |true=>
  refine⟨slS a s.ty,hg _ ?_,abB ha⟩
  unfold gv sI kF
  simp only[ve,lN,b4,decide_eq_true b5,Bool.and_self,if_true]
  rw[kM (by omega)]
 |false=>
  refine⟨.sl ((te f.ty s.ty).map T.s) (te f.ty s.ty).length false,hg _ ?_,.inr ⟨false,rfl⟩⟩
  unfold gv sI kF
  simp only[ve,lN,b4,decide_eq_true b5,Bool.and_self,if_true,y8,Bool.false_eq_true,if_false]
  rw[kM (n:=s.lg+1) (by omega),kM (n:=f.ar-f.dp) (by omega),kM (by omega)]
theorem Dh(hT:uC t zT aT fT)(vR: ∀f∈t.fl,xV f)(k:Int×Bool)(j:Nat)(hj:j<t.fl.length)(hk:k.1=j):
  ∃a',fj pE 44 [sI c zT aT fT a7 a8 a9 a10 fB fA vs,.agg [.i .i64 k.1,.b k.2]] []=some (.agg (gv (kF t.fl[j] k (pt k)) a'),[])∧mi (kF t.fl[j] k (pt k)) a':=by
 obtain⟨a',h1,h2⟩:=RM t c zT aT fT a7 a8 a9 a10 fB fA vs hT vR (pt k) .nilsl (.inl ⟨rfl,rfl,rfl⟩) (by unfold Je pt;exact⟨⟨Int.le_refl _,(by decide:(0:Int)≤100)⟩,⟨Int.le_refl _,(by decide:(0:Int)≤100)⟩,⟨Int.le_refl _,(by decide:(0:Int)≤1099511640000)⟩,rfl,Nat.zero_le _⟩) k j hj hk
 have h3:=h2.froz1
 refine⟨a', ?_,h2⟩
 rw[fx afx (by simp[c44])]
 generalize kF t.fl[j] k (pt k)=s' at*
 unfold gv at h1 ⊢
 unfold sI pt at*
 simp(maxDischargeDepth:=6) only[qA,seval,c44,h1,h3]
theorem KS(hT:uC t zT aT fT)(vR: ∀f∈t.fl,xV f)(s:se)(a:T)(ha:mi s a)(hs:Je s)(k:Int×Bool)(i j:Nat)(hi:i<t.fl.length)(hj:j<t.fl.length)(hl:s.lf=i)(hk:k.1=j):
  ∃a',fj pE 50 [sI c zT aT fT a7 a8 a9 a10 fB fA vs,.agg (gv s a),.agg [.i .i64 k.1,.b k.2]] []=some (.agg (gv (sU t.fl[i] t.fl[j] k s) a'),[])∧mi (sU t.fl[i] t.fl[j] k s) a':=by
 obtain⟨fc,f1,f2⟩:=hT.f
 obtain⟨r1,g1⟩:=Ey zT aT fT (fX c a7 a8 a9 a10 fB fA++vs) fc t.fl f1 f2 i hi
 obtain⟨r2,g2⟩:=Ey zT aT fT (fX c a7 a8 a9 a10 fB fA++vs) fc t.fl f1 f2 j hj
 obtain⟨_,p1,p2,p3,p4⟩:=vR _ (List.getElem_mem hi)
 obtain⟨_,q1,q2,q3,q4⟩:=vR _ (List.getElem_mem hj)
 have hw:wr .i64 (t.fl[j].dp-t.fl[i].ar)=t.fl[j].dp-t.fl[i].ar:=kM (by omega)
 obtain⟨a',h1,h2⟩:=RM t c zT aT fT a7 a8 a9 a10 fB fA vs hT vR {s with lo:=max s.lo (t.fl[j].dp-t.fl[i].ar),so:=min s.so (t.fl[j].dp-t.fl[i].ar)} a ha hs k j hj hk
 have h3:=h2.froz1
 have h4:=ha.froz1
 refine⟨a', ?_,h2⟩
 rw[fx afE (by simp[SA])]
 rw[show sU t.fl[i] t.fl[j] k s=kF t.fl[j] k {s with lo:=max s.lo (t.fl[j].dp-t.fl[i].ar),so:=min s.so (t.fl[j].dp-t.fl[i].ar)}from rfl]
 generalize kF t.fl[j] k {s with lo:=max s.lo (t.fl[j].dp-t.fl[i].ar),so:=min s.so (t.fl[j].dp-t.fl[i].ar)}=s' at*
 rw[hk]at h1 ⊢
 unfold gv at h1 ⊢
 rw[hl]at h1 ⊢
 unfold sI at*
 generalize t.fl[i]=f at*
 generalize t.fl[j]=g at*
 simp(maxDischargeDepth:=6) only[qA,seval,gW,fU,SA,g1,g2,Tj,al1,hw,h1,h3,mxI,mnI]
end
end Go.Proofs.YtblcbheipjeoeaaGreat
namespace Go.Proofs.YtblcbheipjeoeaaGreat
open Go Go.Ev
def mQ(t:Tt)(c:Ct):Int:=if Em t≠0 then Em t else sO c
def zG(l:List Fl)(i:Int):Fl:=(l[i.toNat]?).getD ⟨[],[],[],0,0,[],0,0,0⟩
theorem nG{l:List Fl}{i:Nat}(h:i<l.length):zG l i=l[i]:=by
 unfold zG;rw[Int.toNat_natCast,List.getElem?_eq_getElem h];rfl
def oq:se:=⟨0,false,0,false,0,0,0,0,0,[]⟩
def nH(t:Tt)(c:Ct)(k:Int×Bool):se×Int:=if mQ t c≠0 then(oq,mQ t c)else if ry t.fl.length k.1=false then(oq,6)else(kF (zG t.fl k.1) k (pt k),0)
def xZ(t:Tt)(c:Ct)(s:se)(k:Int×Bool):se×Int:=if mQ t c≠0 then(oq,mQ t c)else if xi t.fl.length s=false then(oq,16)else if ry t.fl.length k.1=false then(oq,6)else if tY c t.fl s.lf k.1=false then(oq,14)else if s.lg+s.hd=6 then(oq,5)else(sU (zG t.fl s.lf) (zG t.fl k.1) k s,0)
theorem EE(c:Ct)(zT aT fT a7 a8 a9 a10 fB fA:T)(vs:List T):froz (sI c zT aT fT a7 a8 a9 a10 fB fA vs)=true:=nr rfl
theorem RN(t:Tt)(c:Ct)(zT aT fT a7 a8 a9 a10 fB fA:T)(vs:List T)(hT:uC t zT aT fT)(i:Int):fj pE 43 [sI c zT aT fT a7 a8 a9 a10 fB fA vs,.i .i64 i] []=some (.b (ry t.fl.length i),[]):=by
 obtain⟨fc,f1,f2⟩:=hT.f
 exact I9 zT aT fT (fX c a7 a8 a9 a10 fB fA++vs) fc t.fl.length f1 i
section
variable(t:Tt)(c:Ct)(zT aT fT a7 a8 a9 a10 fB fA:T)(hT:uC t zT aT fT)(hC:xu c a7 a8 a9 a10 fB fA)(hN:S1 c)
include hC hN
theorem aiQ: ∃s,fj pE 87 [.agg (fX c a7 a8 a9 a10 fB fA)] []=some (.i .i64 (sO c),s):=by
 by_cases hr:qu c=false
 ·exact Yz c a7 a8 a9 a10 fB fA hC (.inl hr)
 ·by_cases hs:qW c=false
  ·exact Yz c a7 a8 a9 a10 fB fA hC (.inr hs)
  ·exact KC c a7 a8 a9 a10 fB fA hC (hN.sm (by simpa using hs))
theorem V0:fj pE 93 [.agg (fX c a7 a8 a9 a10 fB fA)] []=some (.i .i64 (sO c),[]):=by
 by_cases hr:qu c=false
 ·exact KR c a7 a8 a9 a10 fB fA hC (.inl hr)
 ·by_cases hs:qW c=false
  ·exact KR c a7 a8 a9 a10 fB fA hC (.inr hs)
  ·exact MW c a7 a8 a9 a10 fB fA hC (hN.sm (by simpa using hs))
omit hN in
theorem M8(h:sO c=0):qW c=true:=by
 cases hs:qW c with
 |true=>rfl
 |false=>
  exfalso
  rw[Bu c a7 a8 a9 a10 fB fA hC (.inr hs)]at h
  exact xk c a7 a8 a9 a10 fB fA hC (.inr hs) h
include hT
theorem RO(h:mQ t c=0): ∃s vs,fj pE 42 [.agg [zT,aT,fT],.agg (fX c a7 a8 a9 a10 fB fA)] []=some (.tup [sI c zT aT fT a7 a8 a9 a10 fB fA vs,.i .i64 0],s):=by
 unfold mQ at h
 by_cases ht:Em t=0
 ·rw[if_neg (by simp[ht])]at h
  obtain⟨s,vs,h1,_⟩:=abj t c zT aT fT a7 a8 a9 a10 fB fA hT hC (hN.sm (M8 c a7 a8 a9 a10 fB fA hC h)) ht h
  exact⟨s,vs,h1⟩
 ·rw[if_pos ht]at h;exact absurd h ht
theorem RP(h:mQ t c≠0): ∃s,fj pE 42 [.agg [zT,aT,fT],.agg (fX c a7 a8 a9 a10 fB fA)] []=some (.tup [.nilptr,.i .i64 (mQ t c)],s):=by
 unfold mQ at h ⊢
 by_cases ht:Em t=0
 ·rw[if_neg (by simp[ht])]at h ⊢
  have hpt:=I1 t zT aT fT hT
  obtain⟨s1,hpc⟩:=aiQ c a7 a8 a9 a10 fB fA hC hN
  rw[ht]at hpt
  obtain⟨⟨zc,z1,z2⟩,⟨ac,b1,b2⟩,⟨fc,f1,f2⟩⟩:=hT
  obtain⟨⟨_,i7,_⟩,⟨_,i8,_⟩,⟨_,i9,_⟩,⟨_,i10,_⟩,⟨_,i11,_⟩,⟨_,i12,_⟩⟩:=hC
  rw[fx Tg (by simp[Ta])]
  unfold fX at hpc ⊢
  simp(maxDischargeDepth:=6) only[qA,seval,Ta,hpt,hpc,h,Zj,afN,z1.froz1,b1.froz1,f1.froz1,i7.froz1,i8.froz1,i9.froz1,i10.froz1,i11.froz1,i12.froz1]
  exact⟨_,rfl⟩
 ·rw[if_pos ht]
  exact VI t c zT aT fT a7 a8 a9 a10 fB fA hT hC ht
theorem EF(hL: ∀f∈t.fl,f.nu.length≤kb):fj pE 45 [.agg [zT,aT,fT],.agg (fX c a7 a8 a9 a10 fB fA)] []=some (.i .i64 (mQ t c),[]):=by
 have h1:=aa3 t zT aT fT hT hL
 have h2:=V0 c a7 a8 a9 a10 fB fA hC hN
 obtain⟨⟨zc,z1,z2⟩,⟨ac,b1,b2⟩,⟨fc,f1,f2⟩⟩:=hT
 obtain⟨⟨_,i7,_⟩,⟨_,i8,_⟩,⟨_,i9,_⟩,⟨_,i10,_⟩,⟨_,i11,_⟩,⟨_,i12,_⟩⟩:=hC
 unfold mQ
 rw[fx afz (by simp[c45])]
 unfold fX at h2 ⊢
 by_cases ht:Em t=0
 all_goals simp(maxDischargeDepth:=6) only[qA,seval,c45,h1,h2,ht,alZ,al0,z1.froz1,b1.froz1,f1.froz1,i7.froz1,i8.froz1,i9.froz1,i10.froz1,i11.froz1,i12.froz1]
theorem vN(h:mQ t c=0):Em t=0∧sO c=0:=by
 have _:=hC;have _:=hN;have _:=hT
 unfold mQ at h
 by_cases ht:Em t=0
 ·rw[if_neg (by simp[ht])]at h;exact⟨ht,h⟩
 ·rw[if_pos ht]at h;exact absurd h ht
theorem KT(k:Int×Bool): ∃a s,fj pE 9 [.agg [zT,aT,fT],.agg (fX c a7 a8 a9 a10 fB fA),.agg [.i .i64 k.1,.b k.2]] []=some (.tup [.agg (gv (nH t c k).1 a),.i .i64 (nH t c k).2],s)∧mi (nH t c k).1 a:=by
 unfold nH
 by_cases h:mQ t c=0
 ·obtain⟨s,vs,kN⟩:=RO t c zT aT fT a7 a8 a9 a10 fB fA hT hC hN h
  obtain⟨ht,hc⟩:=vN t c zT aT fT a7 a8 a9 a10 fB fA hT hC hN h
  obtain⟨fc,f1,f2⟩:=hT.f
  have hi:=RN t c zT aT fT a7 a8 a9 a10 fB fA vs hT k.1
  have M9:=EE c zT aT fT a7 a8 a9 a10 fB fA vs
  rw[if_neg (by simp[h])]
  have VC:=hT
  obtain⟨⟨zc,z1,z2⟩,⟨ac,b1,b2⟩,_⟩:=VC
  obtain⟨⟨_,i7,_⟩,⟨_,i8,_⟩,⟨_,i9,_⟩,⟨_,i10,_⟩,⟨_,i11,_⟩,⟨_,i12,_⟩⟩:=hC
  rw[fx fn9 (by simp[c9])]
  cases hb:ry t.fl.length k.1 with
  |false=>
   rw[hb]at hi
   refine⟨.nilsl,[], ?_,.inl ⟨rfl,rfl,rfl⟩⟩
   unfold fX gv oq at*
   simp(maxDischargeDepth:=6) only[qA,seval,c9,kN,yV,M9,hi,DE,z1.froz1,b1.froz1,f1.froz1,i7.froz1,i8.froz1,i9.froz1,i10.froz1,i11.froz1,i12.froz1]
  |true=>
   rw[hb]at hi
   obtain⟨j,hj,hk⟩:=lV hb
   obtain⟨a',lX,tr⟩:=Dh t c zT aT fT a7 a8 a9 a10 fB fA vs hT (rq t ht).1 k j hj hk
   rw[hk,nG hj]
   refine⟨a',[], ?_,tr⟩
   rw[hk]at hi lX
   have hz:=tr.froz1
   generalize kF t.fl[j] k (pt k)=s' at*
   unfold fX gv at*
   simp(maxDischargeDepth:=6) only[qA,seval,c9,kN,yV,M9,hi,DE,lX,afy,hz,z1.froz1,b1.froz1,f1.froz1,i7.froz1,i8.froz1,i9.froz1,i10.froz1,i11.froz1,i12.froz1]
 ·obtain⟨s,kN⟩:=RP t c zT aT fT a7 a8 a9 a10 fB fA hT hC hN h
  obtain⟨⟨zc,z1,z2⟩,⟨ac,b1,b2⟩,⟨fc,f1,f2⟩⟩:=hT
  obtain⟨⟨_,i7,_⟩,⟨_,i8,_⟩,⟨_,i9,_⟩,⟨_,i10,_⟩,⟨_,i11,_⟩,⟨_,i12,_⟩⟩:=hC
  rw[if_pos h]
  generalize mQ t c=e at*
  refine⟨.nilsl,[], ?_,.inl ⟨rfl,rfl,rfl⟩⟩
  rw[fx fn9 (by simp[c9])]
  unfold fX gv oq at*
  simp(maxDischargeDepth:=6) only[qA,seval,c9,kN,yV,h,z1.froz1,b1.froz1,f1.froz1,i7.froz1,i8.froz1,i9.froz1,i10.froz1,i11.froz1,i12.froz1]
end
end Go.Proofs.YtblcbheipjeoeaaGreat
namespace Go.Proofs.YtblcbheipjeoeaaGreat
open Go Go.Ev
section
variable(t:Tt)(c:Ct)(zT aT fT a7 a8 a9 a10 fB fA:T)(hT:uC t zT aT fT)(hC:xu c a7 a8 a9 a10 fB fA)(hN:S1 c)
theorem V1(hT:uC t zT aT fT)(hC:xu c a7 a8 a9 a10 fB fA):(froz1 zT=true∧froz1 aT=true∧froz1 fT=true∧froz1 a7=true∧froz1 a8=true∧froz1 a9=true∧froz1 a10=true∧froz1 fB=true∧froz1 fA=true)∧cellsOf zT= [zT]∧cellsOf aT= [aT]∧cellsOf fT= [fT]∧cellsOf a7= [a7]∧cellsOf a8= [a8]∧cellsOf a9= [a9]∧cellsOf a10= [a10]∧cellsOf fB= [fB]∧cellsOf fA= [fA]:=by
 obtain⟨⟨_,z1,_⟩,⟨_,b1,_⟩,⟨_,f1,_⟩⟩:=hT
 obtain⟨⟨_,i7,_⟩,⟨_,i8,_⟩,⟨_,i9,_⟩,⟨_,i10,_⟩,⟨_,i11,_⟩,⟨_,i12,_⟩⟩:=hC
 exact⟨⟨z1.froz1,b1.froz1,f1.froz1,i7.froz1,i8.froz1,i9.froz1,i10.froz1,i11.froz1,i12.froz1⟩,z1.cells,b1.cells,f1.cells,i7.cells,i8.cells,i9.cells,i10.cells,i11.cells,i12.cells⟩
include hC hN hT
theorem V2(s:se)(a:T)(ha:mi s a)(hlen:s.ty.length≤1000)(k:Int×Bool): ∃a' r,fj pE 11 [.agg [zT,aT,fT],.agg (fX c a7 a8 a9 a10 fB fA),.agg (gv s a),.agg [.i .i64 k.1,.b k.2]] []=some (.tup [.agg (gv (xZ t c s k).1 a'),.i .i64 (xZ t c s k).2],r)∧mi (xZ t c s k).1 a':=by
 have hz:=V1 t c zT aT fT a7 a8 a9 a10 fB fA hT hC
 have E2:=ha.froz1
 have hyc:=ha.cells
 unfold xZ
 by_cases h:mQ t c=0
 ·obtain⟨s0,vs,kN⟩:=RO t c zT aT fT a7 a8 a9 a10 fB fA hT hC hN h
  obtain⟨ht,hc⟩:=vN t c zT aT fT a7 a8 a9 a10 fB fA hT hC hN h
  obtain⟨fc,f1,f2⟩:=hT.f
  have hval:=VN zT aT fT (fX c a7 a8 a9 a10 fB fA++vs) fc t.fl.length f1 s a ha hlen
  rw[show T.vp (zT::aT::fT::(fX c a7 a8 a9 a10 fB fA++vs))=sI c zT aT fT a7 a8 a9 a10 fB fA vs from rfl]at hval
  have hi:=RN t c zT aT fT a7 a8 a9 a10 fB fA vs hT k.1
  have M9:=EE c zT aT fT a7 a8 a9 a10 fB fA vs
  rw[if_neg (by simp[h])]
  rw[fx Zd (by simp[pX])]
  cases hb:xi t.fl.length s with
  |false=>
   rw[hb]at hval
   refine⟨.nilsl,[], ?_,.inl ⟨rfl,rfl,rfl⟩⟩
   unfold fX gv oq at*
   simp(maxDischargeDepth:=6) only[qA,seval,pX,kN,yV,M9,hval,Om,hz,E2]
  |true=>
  rw[hb]at hval
  cases oS:ry t.fl.length k.1 with
  |false=>
   rw[oS]at hi
   refine⟨.nilsl,[], ?_,.inl ⟨rfl,rfl,rfl⟩⟩
   unfold fX gv oq at*
   simp(maxDischargeDepth:=6) only[qA,seval,pX,kN,yV,M9,hval,Om,hi,DE,hz,E2]
  |true=>
  rw[oS]at hi
  have Nr:=(nD.1 hb).2.1
  have hj:=He t c zT aT fT a7 a8 a9 a10 fB fA vs hT Nr oS
  cases hb3:tY c t.fl s.lf k.1 with
  |false=>
   rw[hb3]at hj
   refine⟨.nilsl,[], ?_,.inl ⟨rfl,rfl,rfl⟩⟩
   unfold fX gv oq at*
   simp(maxDischargeDepth:=6) only[qA,seval,pX,kN,yV,M9,hval,Om,hi,DE,hj,Th,hz,E2]
  |true=>
  rw[hb3]at hj
  have hw6:wr .i64 (s.lg+s.hd)=s.lg+s.hd:=by
   obtain⟨_,_,a3,a4,_⟩:=nD.1 hb
   exact kM (by omega)
  rw[if_neg (by decide),if_neg (by decide),if_neg (by decide)]
  by_cases h6:s.lg+s.hd=6
  ·rw[if_pos h6]
   refine⟨.nilsl,[], ?_,.inl ⟨rfl,rfl,rfl⟩⟩
   unfold fX gv oq at*
   simp(maxDischargeDepth:=6) only[qA,seval,pX,kN,yV,M9,hval,Om,hi,DE,hj,Th,h6,hz,E2]
  ·rw[if_neg h6]
   obtain⟨i,qi,ei⟩:=lV Nr
   obtain⟨j,qj,ej⟩:=lV oS
   obtain⟨a',lX,tr⟩:=KS t c zT aT fT a7 a8 a9 a10 fB fA vs hT (rq t ht).1 s a ha (Jf hb hlen) k i j qi qj ei ej
   have hx:=tr.froz1
   refine⟨a',[], ?_,by rw[ei,ej,nG qi,nG qj];exact tr⟩
   rw[ei,ej,nG qi,nG qj]
   rw[ei,ej]at hj
   rw[ej]at hi lX
   generalize sU t.fl[i] t.fl[j] k s=s' at*
   unfold fX gv at*
   rw[ei]at hval lX ⊢
   simp(maxDischargeDepth:=6) only[qA,seval,pX,kN,yV,M9,hval,Om,hi,DE,hj,Th,hw6,h6,lX,afF,hx,hz,E2]
 ·obtain⟨s,kN⟩:=RP t c zT aT fT a7 a8 a9 a10 fB fA hT hC hN h
  rw[if_pos h]
  generalize mQ t c=e at*
  refine⟨.nilsl,[], ?_,.inl ⟨rfl,rfl,rfl⟩⟩
  rw[fx Zd (by simp[pX])]
  unfold fX gv oq at*
  simp(maxDischargeDepth:=6) only[qA,seval,pX,kN,yV,h,hz]
end
end Go.Proofs.YtblcbheipjeoeaaGreat
