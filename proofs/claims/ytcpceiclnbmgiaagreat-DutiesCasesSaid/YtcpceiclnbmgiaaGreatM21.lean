/- Walks of functions of the program and of the reference, and their plain laws, part 21. Conditions: the theorems' own. -/
import Derived.Test.YtcpceiclnbmgiaaGreatGS
import Derived.Test.YtcpceiclnbmgiaaGreatM12
import Derived.Test.YtcpceiclnbmgiaaGreatM14
import Derived.Test.YtcpceiclnbmgiaaGreatM19
import Derived.Test.YtcpceiclnbmgiaaGreatM20
import Derived.KernelRfl
set_option maxRecDepth 100000
set_option linter.unusedSimpArgs false
set_option linter.unusedVariables false
set_option maxHeartbeats 16000000
namespace Go.Proofs.YtcpceiclnbmgiaaGreat
open Go Go.Ev
def ZO(N H:Nat)(aH:Nat→Bool)(nx:Nat→List Nat):Int:=(Mz N H aH nx 5 (Cp H aH (List.range N) (fun _ _=>0,0))).2
def fN(ops:List Int)(f:Nat):Bool:=decide ((f:Int)∈ops)
theorem GP(N:Nat)(ops:List Int)(f:Nat)(hf:f<N): ∃q,∀kk,dV (.sl (mF (inB N ops)) N false) (.i kk (f:Int)) 1=some (.vp (.b (fN ops f)::q)):=by
 refine⟨(mF (inB N ops)).drop (f+1),fun kk=> ?_⟩
 rw[di,if_pos ⟨by omega,by simpa using hf,by rw[pP];simp;omega⟩,Int.toNat_natCast,Nat.mul_one,List.drop_eq_getElem_cons (by rw[pP];exact hf)]
 refine congrArg some (congrArg T.vp (congrArg (· ::_) ?_))
 simp[mF,inB,fN]
theorem MA(N:Nat)(J:Nat→Nat→Bool)(hN:N≤1000)(f:Nat)(hf:f<N): ∃gT q,(∀kk,dV (HJ N J) (.i kk (f:Int)) 1=some (.vp (gT::q)))∧IsSl gT (dM N J f).length (ints ((dM N J f).map Int.ofNat))∧(dM N J f).length≤1000∧ ∀g∈dM N J f,g<N:=by
 have hl:(((List.range N).map (dM N J)).map kS).length=N:=xv
 refine⟨kS (dM N J f),(((List.range N).map (dM N J)).map kS).drop (f+1),fun kk=> ?_, ?_, ?_,fun g D=>List.mem_range.1 (List.mem_filter.1 D).1⟩
 ·unfold HJ
  rw[di,if_pos ⟨by omega,by simpa using hf,by rw[hl];simp;omega⟩,Int.toNat_natCast,Nat.mul_one,List.drop_eq_getElem_cons (by rw[hl];exact hf)]
  refine congrArg some (congrArg T.vp (congrArg (· ::_) ?_))
  simp
 ·unfold kS
  split
  ·rename_i h;rw[h];exact .inl ⟨rfl,rfl,rfl⟩
  ·exact .inr ⟨_,rfl⟩
 ·exact Nat.le_trans (xu (J f) N) hN
section
variable(zT aT fT a7 a8 a9 a10 aw av:T)(c:Ct)(lN fc:List T)(l:List Fl)(hf:IsSl fT l.length fc)(hr:aA RB l fc)(hN:l.length≤1000)
include hf hr hN
theorem O5(ops:List Int)(oT:T)(ho:IsSl oT ops.length (ints ops))(hl:ops.length≤1000)(bA: ∀x∈ops,0≤x∧x<(l.length:Int))(H:Nat)(Y:H≤6):
  ∃s,ae pE 55 [.vp (zT::aT::fT::(aR c a7 a8 a9 a10 aw av++lN)),oT,.i .i64 (H:Int)] []=some (.i .i64 (ZO l.length H (fN ops) (dM l.length (jn c l))),s):=by
 have Z:=hf.lenI
 have tM:=ho.froz
 have MB:=ho.froz1
 have e1:=Cl zT aT fT (aR c a7 a8 a9 a10 aw av++lN) l.length Z hN ops oT ho hl bA
 obtain⟨s0,e2⟩:=Cq zT aT fT a7 a8 a9 a10 aw av c lN fc l hf hr hN
 have e3:=fun sh=>azf l.length hN sh
 have eK:=GP l.length ops
 have fO:=MA l.length (jn c l) hN
 have z1:froz1 (.sl (mF (inB l.length ops)) l.length false)=true:=rfl
 have z2:froz1 (HJ l.length (jn c l))=true:=rfl
 have z3:froz (HJ l.length (jn c l))=true:=rfl
 have z4:froz (.sl (mF (inB l.length ops)) l.length false)=true:=rfl
 have z5:cellsOf (.sl (mF (inB l.length ops)) l.length false)= [.sl (mF (inB l.length ops)) l.length false]:=rfl
 have z6:noTup (.sl (mF (inB l.length ops)) l.length false)=true:=rfl
 generalize hI:T.sl (mF (inB l.length ops)) l.length false=eE at*
 generalize hX:HJ l.length (jn c l)=nT at*
 rw[an auq (by simp[c55])]
 have U: ∀x:ah,List.replicate 7 x= [x,x,x,x,x,x,x]:=fun _=>rfl
 have gn: ∀(lh:aB ah) (V e1 r:ah),Ev.stV lh [V,e1,r,r,r,r,r,r,r,⟨1,.cells [.nilsl,.nilsl,.nilsl,.nilsl,.nilsl,.nilsl,.nilsl] 0 true⟩] (.ptr .S 9 1 0) (.agg (tP 2 l.length)) 7=some (lh,[V,e1,r,r,r,r,r,r,r,⟨1,.cells (tP 2 l.length) 0 true⟩]):=fun lh V e1 r=>ano rfl rfl 2 l.length
 simp(maxDischargeDepth:=6) only[qA,eh,dL,U,seval,c55,Z,e1,e2,e3,aDe,aDg,auY,tM,z4,z5,z6,gn]
 generalize O:DC pE 82 (.loop AI) _=D
 obtain⟨K,l2,s2,rfl,⟨rfl,hC,jY,eD⟩,F⟩:=sZ ZJ O (cd0 l.length H 2 9 10 eE (fN ops) eK Y hN ⟨by omega,by omega,by omega,by omega,by omega,by omega⟩ (fun _ _=>0) 0 _ _ _ wL wL wL wL ⟨rfl,rfl,rfl,rfl,fun i hi=>by
  have:i=0∨i=1∨i=2∨i=3∨i=4∨i=5∨i=6:=zO
  rcases this with rfl|rfl|rfl|rfl|rfl|rfl|rfl <;> rfl,by simp,by simp⟩)
 have f5:aa K 5= .ptr .S 0 1 0:=by rw[F 5 yv];simp only[qA,seval]
 have f7:aa K 7= .i .i64 (l.length:Int):=by rw[F 7 yv];simp only[qA,seval]
 have f9:aa K 9=nT:=by rw[F 9 yv];simp only[qA,seval]
 have W:aa K 10= .ptr .S 9 1 0:=by rw[F 10 yv];simp only[qA,seval]
 have I:aa K 11= .ptr .S 10 1 0:=by rw[F 11 yv];simp only[qA,seval]
 have X:aa K 12= .fn 96 [] [.ptr .S 1 1 0,.ptr .S 10 1 0,.ptr .S 0 1 0]:=by rw[F 12 yv];simp only[qA,seval]
 clear F O
 simp(maxDischargeDepth:=6) only[qA,seval]
 generalize O:DC pE 82 (.loop AH) _=D
 obtain⟨c0,c1,cA,cT,cR,cb1,cb2⟩:=hC
 have KH:s2.length=11:=jY
 obtain⟨f3,l3,s3,rfl,⟨rfl,hT⟩,CX⟩:=sZ ZK O (cd4 l.length H eE nT (fN ops) (dM l.length (jn c l)) eK fO Y hN (Cp H (fN ops) (List.range l.length) (fun _ _=>0,0)) _ _ _ (by simp only[qA,seval,f5]) (by simp only[qA,seval,f7]) (by simp only[qA,seval,f9]) (by simp only[qA,seval,W]) (by simp only[qA,seval,X]) wL ⟨c0,c1,cA,cT,cR,by omega,by omega,.inl rfl⟩)
 have I:aa f3 11= .ptr .S 10 1 0:=by rw[CX 11 yv];simp only[qA,seval,I]
 simp(maxDischargeDepth:=6) only[qA,seval,I,hT]
 exact⟨_,rfl⟩
end
def fJ(n:Nat):Int:=wr .i64 (n:Int)
theorem wrap64(n:Int):IntKind.i64.wrap n=if 9223372036854775808≤n%18446744073709551616 then n%18446744073709551616-18446744073709551616 else n%18446744073709551616:=by
 unfold IntKind.wrap
 simp[IntKind.bits,IntKind.signed]
theorem GQ(n:Nat): ∃k:Int,fJ n=n+18446744073709551616*k∧ -9223372036854775808≤fJ n∧fJ n<9223372036854775808:=by
 unfold fJ
 rw[A6,wrap64]
 split
 ·exact⟨-((n:Int)/18446744073709551616)-1,by omega,by omega,by omega⟩
 ·exact⟨-((n:Int)/18446744073709551616),by omega,by omega,by omega⟩
theorem ZP{a b:Int}(h: ∃k:Int,a=b+18446744073709551616*k):wr .i64 a=wr .i64 b:=by
 obtain⟨k,rfl⟩:=h
 rw[A6,A6,wrap64,wrap64,show(b+18446744073709551616*k)%18446744073709551616=b%18446744073709551616 by omega]
theorem nE(a b:Nat):wr .i64 (fJ a+fJ b)=fJ (a+b):=by
 obtain⟨k,h,_⟩:=GQ a
 obtain⟨m,D,_⟩:=GQ b
 exact ZP ⟨k+m,by rw[h,D];push_cast;omega⟩
theorem mz:fJ 0=0:=yv
theorem O6:fJ 1=1:=yv
theorem rk{a b:Nat}(h:fJ b=0):fJ (a+b)=fJ a:=by
 obtain⟨k,D,_⟩:=GQ b
 exact ZP ⟨-k,by rw[h]at D;push_cast;omega⟩
theorem ZQ(a:Nat):wr .i64 (fJ a)=fJ a:=by
 obtain⟨k,h,h1,h2⟩:=GQ a
 exact bo ⟨by omega,by omega⟩
section
variable(N H:Nat)(J:Nat→Nat→Bool)(aH:Nat→Bool)
def Rl(p:(Nat→Nat→Int)×Int)(q:(Nat→Nat→Nat)×Nat):Prop:=(∀h g,p.1 h g=fJ (q.1 h g))∧p.2=fJ q.2
theorem afP(h f w:Nat)(p:(Nat→Nat→Int)×Int)(q:(Nat→Nat→Nat)×Nat)(I:Rl p q):Rl (tQ H (aH f) h f (fJ w) p.1,Cm H (aH f) h (fJ w) p.2) (Ck H aH h f w q.1,q.2+Dw H aH h f w):=by
 obtain⟨h1,h2⟩:=I
 constructor
 ·intro D g
  show tQ _ _ _ _ _ _ _ _=fJ (Ck _ _ _ _ _ _ _ _)
  unfold tQ Ck
  by_cases F:g=f
  ·subst F
   by_cases e1:D=h
   ·subst e1
    cases hi:aH g <;> simp[lA,h1,nE]
   ·by_cases e2:D=h+1∧h<H
    ·simp[e2,h1,nE]
    ·simp[e1,e2,h1]
  ·simp[F,h1]
 ·show Cm _ _ _ _ _=fJ (q.2+Dw _ _ _ _ _)
  unfold Cm Dw
  by_cases hl:h<H
  ·cases hi:aH f <;> simp[hl,h2,nE,lA,Nat.add_assoc]
  ·cases hi:aH f <;> simp[hl,h2,nE,lA]
theorem GR(h w:Nat): ∀(D:List Nat) (p:(Nat→Nat→Int)×Int) (q:(Nat→Nat→Nat)×Nat),Rl p q→Rl (yM H aH h (fJ w) D p) (rnG H aH h w D q.1,tnG H aH h w D q.2)
 | [],p,q,F=>F
 |g::D,p,q,F=>GR h w D _ _ (afP H aH h g w p q F)
theorem ZR(h w:Nat)(D:fJ w=0)(F:List Nat)(p:(Nat→Nat→Int)×Int)(q:(Nat→Nat→Nat)×Nat)(K:Rl p q):Rl p (rnG H aH h w F q.1,tnG H aH h w F q.2):=by
 induction F generalizing q with
 |nil=>exact K
 |cons g F ih=>
  refine ih (Ck H aH h g w q.1,q.2+Dw H aH h g w) ⟨fun O V=> ?_, ?_⟩
  ·rw[K.1]
   show _=fJ (Ck _ _ _ _ _ _ _ _)
   unfold Ck
   have I: ∀b,fJ (lA b*w)=0:=fun b=>by cases b <;> simp[lA,D,mz]
   by_cases U:V=g
   ·rw[if_pos U,←Nat.add_assoc]
    by_cases e1:O=h
    ·rw[if_pos e1]
     by_cases e2:O=h+1∧h<H
     ·omega
     ·rw[if_neg e2,Nat.add_zero,rk (I _)]
    ·rw[if_neg e1,Nat.add_zero]
     by_cases e2:O=h+1∧h<H
     ·rw[if_pos e2,rk D]
     ·rw[if_neg e2,Nat.add_zero]
   ·rw[if_neg U,Nat.add_zero]
  ·rw[K.2]
   show _=fJ (_+Dw _ _ _ _ _)
   unfold Dw
   have I: ∀b,fJ (lA b*w)=0:=fun b=>by cases b <;> simp[lA,D,mz]
   rw[←Nat.add_assoc]
   by_cases hl:h<H
   ·rw[if_pos hl,rk D,rk (I _)]
   ·rw[if_neg hl,Nat.add_zero,rk (I _)]
theorem EB(nx:Nat→List Nat)(h:Nat)(r:Nat→Int): ∀(l:List Nat) (f:Nat) (p:(Nat→Nat→Int)×Int),tR H aH nx h r (l++ [f]) p=if r f=0 then tR H aH nx h r l p else yM H aH h (r f) (nx f) (tR H aH nx h r l p)
 | [],f,p=>rfl
 |x::l,f,p=>by rw[List.cons_append,tR,tR,EB nx h r l f]
theorem O7(h:Nat)(r:Nat→Int)(D:Nat→Nat→Nat)(hr: ∀f,r f=fJ (D h f))(p:(Nat→Nat→Int)×Int)(q:(Nat→Nat→Nat)×Nat)(F:Rl p q): ∀k,Rl (tR H aH (dM N J) h r (List.range k) p) (rnF N H J aH D h k q.1,tnF N H J aH D h k q.2)
 |0=>F
 |k+1=>by
  rw[List.range_succ,EB,hr]
  have ih:=O7 h r D hr p q F k
  split
  ·rename_i h0
   exact ZR H aH h _ h0 _ _ (_,_) ih
  ·exact GR H aH h _ _ _ (_,_) ih
theorem EC(nx:Nat→List Nat)(D:Nat→Nat→Int): ∀(l:List Nat) (h:Nat) (p:(Nat→Nat→Int)×Int),xt N H aH nx D (l++ [h]) p=tR H aH nx h (D h) (List.range N) (xt N H aH nx D l p)
 | [],h,p=>rfl
 |x::l,h,p=>by rw[List.cons_append,xt,xt,EC nx D l h]
theorem O8(D:Nat→Nat→Int)(ZS:Nat→Nat→Nat)(I: ∀h f,D h f=fJ (ZS h f))(t:Int)(F:Nat)(K:t=fJ F): ∀k,Rl (xt N H aH (dM N J) D (List.range k) (fun _ _=>0,t)) (Zy N H J aH ZS k,tnH N H J aH ZS k F)
 |0=>⟨fun _ _=>mz.symm,K⟩
 |k+1=>by
  rw[List.range_succ,EC]
  exact O7 N H J aH k (D k) ZS (I k) _ (_,_) (O8 D ZS I t F K k) N
theorem O9: ∀(l:List Nat) (p:(Nat→Nat→Int)×Int),Cp H aH l p=yM H aH 0 1 l p
 | [],p=>rfl
 |f::l,p=>by rw[Cp,yM,O9 l]
def rN(p:(Nat→Nat→Nat)×Nat):(Nat→Nat→Nat)×Nat:=(Zy N H J aH p.1 (H+1),tnH N H J aH p.1 (H+1) p.2)
def rsN:Nat→(Nat→Nat→Nat)×Nat→(Nat→Nat→Nat)×Nat
 |0,p=>p
 |k+1,p=>rsN k (rN N H J aH p)
theorem Pa: ∀(k:Nat) (p:(Nat→Nat→Int)×Int) (q:(Nat→Nat→Nat)×Nat),Rl p q→Rl (Mz N H aH (dM N J) k p) (rsN N H J aH k q)
 |0,p,q,h=>h
 |k+1,p,q,h=>Pa k _ _ (O8 N H J aH p.1 q.1 h.1 p.2 q.2 h.2 (H+1))
def sH(c:Nat→Nat→Nat→Nat):Nat→Nat
 |0=>0
 |k+1=>sH c k+O2 N H (fun h g=>c (k+1) g h)
theorem ED{n m:Nat→Nat→Nat}(h: ∀D g,D≤H→g<N→n D g=m D g):O2 N H n=O2 N H m:=
 bH fun D I=>bH fun g F=>h D g zO F
theorem anp(m k:Nat)(q:(Nat→Nat→Nat)×Nat)(h1: ∀h g,h≤H→g<N→q.1 h g=cA N J aH (m+1) g h)(h2:q.2=sH N H (cA N J aH) (m+1)):(rsN N H J aH k q).2=sH N H (cA N J aH) (m+k+1):=by
 induction k generalizing m q with
 |zero=>exact h2
 |succ k ih=>
  have e: ∀h g,h≤H→g<N→Zy N H J aH q.1 (H+1) h g=cA N J aH (m+2) g h:=fun h g F I=>by
   rw[ZB N H J aH q.1 h g F I]
   show EA aH g _ h=EA aH g _ h
   unfold EA
   have e1: ∀D,D≤H→(Sm N fun f=>lA (J f g)*q.1 D f)=Sm N fun f=>lA (J f g)*cA N J aH (m+1) f D:=fun D K=>bH fun f hf=>by rw[h1 D f K hf]
   dsimp only
   rw[e1 h F]
   congr 1
   cases h with
   |zero=>rfl
   |succ h=>exact e1 h zO
  rw[rsN,ih (m+1) (rN N H J aH q) (fun h g F I=>e h g F I) ?_]
  ·rw[show m+1+k+1=m+(k+1)+1 by omega]
  ·show tnH N H J aH q.1 (H+1) q.2=_
   rw[ZD N H J aH q.1 q.2 (H+1) (Nat.le_refl _),h2,ED N H e]
   rfl
theorem Pb:ZO N H aH (dM N J)=fJ (sH N H (cB N J aH) 6):=by
 unfold ZO
 rw[O9]
 have h0:Rl ((fun _ _=>0,0):(Nat→Nat→Int)×Int) ((fun _ _=>0,0):(Nat→Nat→Nat)×Nat):=⟨fun _ _=>mz.symm,mz.symm⟩
 have h1:=GR H aH 0 1 (List.range N) _ _ h0
 rw[O6]at h1
 rw[(Pa N H J aH 5 _ _ h1).2]
 have e1: ∀h g,h≤H→g<N→rnG H aH 0 1 (List.range N) (fun _ _=>0) h g=cA N J aH 1 g h:=fun h g F D=>by
  rw[Mx,xq D]
  show _=EA aH g pO h
  unfold EA
  rcases h with _|_|h
  ·simp[pO,sf]
  ·have:0<H:=zO
   simp[pO,sf,this]
  ·simp[pO,sf]
 have e2:tnG H aH 0 1 (List.range N) 0=sH N H (cA N J aH) 1:=by
  have:=My N H aH 0 1 (Nat.zero_le _) (List.range N) (fun _ _=>0) 0 fun g D=>List.mem_range.1 D
  rw[ED N H e1,show O2 N H (fun _ _=>0)=0 by unfold O2;simp only[kF],Nat.add_zero]at this
  rw[this]
  rfl
 rw[anp N H J aH 0 5 (_,_) e1 e2]
 congr 1
 have: ∀k,sH N H (cA N J aH) k=sH N H (cB N J aH) k:=by
  intro k
  induction k with
  |zero=>rfl
  |succ k ih=>
   rw[sH,sH,ih]
   congr 1
   exact bH fun h _=>cAB N J aH k h
 exact this _
end
def pQ(N:Nat):Option Int→List Int→Int
 |_,[]=>0
 |p,x::l=>if 0≤x∧x<(N:Int)then match p with
    |some q=>if x≤q then 8 else pQ N (some x) l
    |none=>pQ N (some x) l
  else 6
def J2(l:List Int)(k:Nat):Option Int:=if k=0 then none else l[k-1]?
theorem EF(l:List Int)(k:Nat)(hk:k<l.length):J2 l (k+1)=some l[k]:=by
 unfold J2;rw[if_neg zO,Nat.add_sub_cancel,List.getElem?_eq_getElem hk]
theorem J3(l:List Int)(k:Nat)(hk:k<l.length)(h0:k≠0):J2 l k=some l[k-1]:=by
 unfold J2;rw[if_neg h0,List.getElem?_eq_getElem zO]
theorem Cu(N:Nat)(p:Option Int)(x:Int)(l:List Int):pQ N p (x::l)=if 0≤x∧x<(N:Int)then(match p with|some q=>if x≤q then 8 else pQ N (some x) l|none=>pQ N (some x) l)else 6:=by cases p <;> rfl
theorem Pc(N:Nat)(p:Option Int):pQ N p []=0:=by cases p <;> rfl
section
variable(zT aT fT:T)(r fc:List T)(N:Nat)(hf:IsSl fT N fc)(hN:N≤1000)(ops:List Int)(oT:T)(ho:IsSl oT ops.length (ints ops))(hl:ops.length≤1000)
include hf hN ho hl
theorem aGT(fr:Fr)(lh:aB ah)(sh:List ah)(h0:aa fr 0= .vp (zT::aT::fT::r))(h1:aa fr 1=oT)(h9:aa fr 9=oT)(F:aa fr 10= .i .i64 (ops.length:Int))(V:aa fr 11= .i .i64 0):
  py pE 38 As fr lh sh 0 6 (pQ N none ops) (fun W X=>X=sh):=by
 have _:=hN
 refine cm ZT (fun k f W X=>aa f 11= .i .i64 (k:Int)∧X=sh∧pQ N none ops=pQ N (J2 ops k) (ops.drop k)) ops.length ⟨V,rfl,rfl⟩ ?_ ?_
 ·rintro k f W _ hk I ⟨D,rfl,K⟩
  have aN:(k:Int)<ops.length:=zO
  have hw:wr .i64 ((k:Int)+1)=((k+1:Nat):Int):=by rw[bo zO];omega
  have U:=fun kk=>ho.ia (sz:=1) (k:=k) (kk:=kk) (by rw[cD];omega) hk
  simp only[Nat.mul_one]at U
  rw[iw ops k hk]at U
  have e1:=cO (amJ zT aT fT r fc N hf ops[k])
  simp only[decide_eq_true_eq]at e1
  rw[List.drop_eq_getElem_cons hk,Cu]at K
  rw[EF ops k hk]
  by_cases O:k=0
  ·subst O
   have Y:J2 ops 0=none:=rfl
   rw[Y]at K
   have rj: ∀kk,dV oT (.i kk 0) 1=some (.vp (.i .i64 ops[0]::(ints ops).drop (0+1))):=fun kk=>U kk
   have Z:aa f 11= .i .i64 0:=D
   have wZ:(0:Int)<ops.length:=aN
   simp(maxDischargeDepth:=6) only[qB,seval,gd,As,I,h0,h9,F,Z,wZ,rj,e1,aup]
   clear I
   grind
  ·rw[J3 ops k hk O]at K
   have tN:=fun kk=>ho.ia (sz:=1) (k:=k-1) (kk:=kk) (by rw[cD];omega) zO
   simp only[Nat.mul_one]at tN
   rw[iw ops (k-1) zO]at tN
   have Gw:=iA (k:=k) zO zO
   have JN:(0:Int)<(k:Int):=zO
   simp(maxDischargeDepth:=6) only[qB,seval,gd,As,I,h0,h1,h9,F,D,aN,hw,Gw,JN,U,tN,e1,aup]
   clear I
   grind
 ·rintro f W _ I ⟨D,rfl,K⟩
  rw[List.drop_length,Pc]at K
  simp only[qB,seval,gd,As,I,F,D,Int.lt_irrefl,K]
theorem ZU(H:Int):ae pE 24 [.vp (zT::aT::fT::r),oT,.i .i64 H] []=some (.i .i64 (if pQ N none ops=0 then(if H<0∨6<H then 5 else 0)else pQ N none ops),[]):=by
 have D:=fun fr lh sh=>aGT zT aT fT r fc N hf hN ops oT ho hl fr lh sh
 have F:=ho.lenI
 rw[an at5 (by simp[c24])]
 simp(maxDischargeDepth:=6) only[qB,seval,c24,ZT,F,D]
 clear D
 grind
end
def Sg(H:Nat)(w:Nat→Int):T:= .sl (db (H+1) w) (H+1) false
def ZV(N H:Nat)(w:Nat→Nat→Int):T:= .sl ((List.range N).map fun i=>Sg H (w i)) N false
def GS(r:List Nat)(f:Nat→Nat):Nat:=(r.map f).sum
theorem afQ(N:Nat)(J:Nat→Bool)(f:Nat→Nat):GS ((List.range N).filter J) f=Sm N fun j=>lA (J j)*f j:=by
 induction N with
 |zero=>rfl
 |succ n ih=>
  rw[GO,Sm,←ih]
  cases h:J n
  ·simp[lA]
  ·simp[lA,GS]
theorem anq(N H:Nat)(w:Nat→Nat→Int)(i:Nat)(hi:i<N): ∃q,∀kk,dV (ZV N H w) (.i kk (i:Int)) 1=some (.vp (Sg H (w i)::q)):=by
 refine⟨((List.range N).map fun i=>Sg H (w i)).drop (i+1),fun kk=> ?_⟩
 unfold ZV
 rw[di,if_pos ⟨by omega,by simpa using hi,by simp;omega⟩,Int.toNat_natCast,Nat.mul_one,List.drop_eq_getElem_cons (by simpa using hi)]
 simp
theorem afR(H:Nat)(w:Nat→Int)(h:Nat)(D:h≤H): ∃q,∀kk,dV (Sg H w) (.i kk (h:Int)) 1=some (.vp (.i .i64 (w h)::q)):=by
 refine⟨(db (H+1) w).drop (h+1),fun kk=> ?_⟩
 unfold Sg
 rw[di,if_pos ⟨by omega,by simp;omega,by rw[iq];simp;omega⟩,Int.toNat_natCast,Nat.mul_one,List.drop_eq_getElem_cons (by rw[iq];omega)]
 simp[db]
theorem azh(N H:Nat)(w:Nat→Nat→Nat)(r:List Nat)(hr: ∀j∈r,j<N)(U:r.length≤1000)(V:T)(D:IsSl V r.length (ints (r.map Int.ofNat)))(h:Nat)(X:h≤H)(fr:Fr)(lh:aB ah)(sh:List ah)(h0:aa fr 0=ZV N H fun i g=>fJ (w i g))(h1:aa fr 1=V)(h3:aa fr 3= .i .i64 (h:Int))(Y:aa fr 9= .i .i64 0)(I:aa fr 10= .i .i64 0):
  Lp pE 34 AM fr lh sh (.ext 0) fun f l s=>aa f 9= .i .i64 (fJ (GS r fun j=>w j h))∧l=lh∧s=sh:=by
 refine bV ZW (fun k f l s=>aa f 9= .i .i64 (fJ (GS (r.take k) fun j=>w j h))∧aa f 10= .i .i64 (k:Int)∧l=lh∧s=sh) r.length ⟨Y,I,rfl,rfl⟩ ?_ ?_
 ·rintro k f _ _ hk K ⟨g9,F,rfl,rfl⟩
  have Z:(k:Int)<r.length:=zO
  have hw:=aI (k:=k) zO
  have W:=fun kk=>D.ia (sz:=1) (k:=k) (kk:=kk) (by rw[cD,List.length_map];omega) hk
  have hd:(ints (r.map Int.ofNat)).drop (k*1)= .i .i64 (r[k]:Int)::(ints (r.map Int.ofNat)).drop (k+1):=by
   rw[Nat.mul_one,List.drop_eq_getElem_cons (by simpa[ints]using hk)]
   simp[ints]
  rw[hd]at W
  have fO:GS (r.take (k+1)) (fun j=>w j h)=GS (r.take k) (fun j=>w j h)+w r[k] h:=by
   unfold GS;rw[List.take_succ_eq_append_getElem hk,List.map_append,List.sum_append];simp
  obtain⟨q1,e1⟩:=anq N H (fun i g=>fJ (w i g)) r[k] (hr _ (List.getElem_mem hk))
  obtain⟨q2,e2⟩:=afR H (fun g=>fJ (w r[k] g)) h X
  have O:=D.lenI
  rw[fO]
  generalize r[k]=x at*
  simp(maxDischargeDepth:=6) only[qA,seval,gd,AM,K,h0,h1,h3,g9,F,Z,hw,W,O,e1,e2,nE]
 ·rintro f _ _ K ⟨g9,F,rfl,rfl⟩
  rw[List.take_length]at g9
  have O:=D.lenI
  simp only[qA,seval,gd,AM,K,h1,g9,F,O,Int.lt_irrefl]
theorem afS(N H:Nat)(w:Nat→Nat→Nat)(r:List Nat)(hr: ∀j∈r,j<N)(I:r.length≤1000)(K:T)(O:IsSl K r.length (ints (r.map Int.ofNat)))(h:Nat)(U:h≤H)(F:Int)(hs:F≠1):ae pE 65 [ZV N H fun i g=>fJ (w i g),K,.i .i64 F,.i .i64 (h:Int)] []=some (.i .i64 (fJ (GS r fun j=>w j h)),[]):=by
 rw[an Qa (by simp[c65])]
 simp(maxDischargeDepth:=6) only[qA,seval,c65,hs]
 generalize V:DC pE 34 (.loop AM) _=D
 obtain⟨W,X,s2,rfl,⟨g9,rfl,rfl⟩,Y⟩:=sZ ZW V (azh N H w r hr I K O h U _ _ _ wL wL wL wL wL)
 simp(maxDischargeDepth:=6) only[qA,seval,g9]
theorem ZX(F I:T)(h:Nat):ae pE 65 [F,I,.i .i64 1,.i .i64 (h:Int)] []=some (.i .i64 (fJ (pO h)),[]):=by
 rw[an Qa (by simp[c65])]
 cases h with
 |zero=>
  have D:((0:Nat):Int)=0:=rfl
  simp(maxDischargeDepth:=6) only[qA,seval,c65,pO,O6,D]
 |succ h=>
  have h0: ¬((h+1:Nat):Int)=0:=zO
  simp(maxDischargeDepth:=6) only[qA,seval,c65,pO,mz,h0]
section
variable(t:Tt)(c:Ct)(zT aT fT a7 a8 a9 a10 aw av:T)(hT:ow t zT aT fT)(hC:oP c a7 a8 a9 a10 aw av)(hN:t.fl.length≤1000)
include hT hC hN
theorem rj1(i:Nat)(hi:i<t.fl.length)(fr:Fr)(lh:aB ah)(sh:List ah)(h2:aa fr 2= .ptr .L 2 1 0)(h3:aa fr 3= .ptr .L 3 1 0)(h6:aa fr 6= .i .i64 (i:Int))(h7:aa fr 7= .nilsl)(h8:aa fr 8= .i .i64 0)(Y:ab lh 2=⟨1,.cells [zT,aT,fT] 0 true⟩)(o3:ab lh 3=⟨1,.cells (aR c a7 a8 a9 a10 aw av) 0 true⟩):
  Lp pE 37 wu fr lh sh (.ext 2) fun f l s=>s=sh∧bt l (aa f 7) 31 1 (dM t.fl.length (jn c t.fl) i).length (ints ((dM t.fl.length (jn c t.fl) i).map Int.ofNat))∧(∀j,j≠31→ab l j=ab lh j):=by
 have U:=hT.f
 obtain⟨fc,f1,f2⟩:=U
 have V:=f1.lenI
 have W:=fun k (hk:k<t.fl.length)=>JC t c zT aT fT a7 a8 a9 a10 aw av hT hC (i:=(i:Int)) (j:=(k:Int)) (by unfold sW;simpa using hi) (by unfold sW;simpa using hk)
 have Z:=zX t c zT aT fT a7 a8 a9 a10 aw av hT hC
 unfold aR at*
 refine bV ZY (fun k f l s=>aa f 8= .i .i64 (k:Int)∧s=sh∧bt l (aa f 7) 31 1 ((List.range k).filter fun j=>jn c t.fl i j).length (ints (((List.range k).filter fun j=>jn c t.fl i j).map Int.ofNat))∧(∀j,j≠31→ab l j=ab lh j)) t.fl.length ⟨h8,rfl,by rw[h7];exact bt.nil,fun _ _=>rfl⟩ ?_ ?_
 ·rintro k f l _ hk K ⟨g8,rfl,F,D⟩
  have aN:(k:Int)<t.fl.length:=zO
  have hw:=aI (k:=k) zO
  have e1:=W k hk
  rw[show sX c t.fl (i:Int) (k:Int)=jn c t.fl i k by rw[JB c t.fl hi hk,ajr hi hk]]at e1
  have O:=(D 2 yv).trans Y
  have q3:=(D 3 yv).trans o3
  have hlen:((List.range k).filter fun j=>jn c t.fl i j).length≤k:=xu (jn c t.fl i) k
  have X:=fun(aZ:aB ah) (aY:List ah) (e:ab aZ 31=ab l 31)=>fk (sh:=aY) (F.congr e) [.i .i64 (k:Int)] rfl (bytes:=8) (by unfold roomy;omega) true
  have qe:=F.notS
  rw[GO]
  generalize (List.range k).filter (fun j=>jn c t.fl i j)=r at*
  generalize I:aa f 7=v7 at F X qe
  cases hb:jn c t.fl i k
  ·simp(maxDischargeDepth:=6) only[qA,seval,gd,wu,K,h2,h3,h6,g8,O,q3,V,aN,hw,e1,hb,aj8,I,Z]
   exact⟨F,D⟩
  ·simp(maxDischargeDepth:=6) only[qA,seval,gd,wu,K,h2,h3,h6,g8,O,q3,V,aN,hw,e1,hb,aj8,I,Z,X,qe,repl]
   obtain⟨_,k1,k2⟩:=X l _ rfl
   rw[show ints ((r++ [k]).map Int.ofNat)=ints (r.map Int.ofNat)++ [.i .i64 (k:Int)]by simp[ints],show(r++ [k]).length=r.length+1 by simp]
   exact⟨k1,fun j hj=>(k2 j hj).trans (D j hj)⟩
 ·rintro f l _ K ⟨g8,rfl,F,D⟩
  have O:=(D 2 yv).trans Y
  simp only[qA,seval,gd,wu,K,h2,O,g8,V,Int.lt_irrefl]
  exact⟨F,D⟩
theorem rj2(fr:Fr)(lh:aB ah)(sh:List ah)(h2:aa fr 2= .ptr .L 2 1 0)(h3:aa fr 3= .ptr .L 3 1 0)(h5:aa fr 5= .nilsl)(h6:aa fr 6= .i .i64 0)(o2:ab lh 2=⟨1,.cells [zT,aT,fT] 0 true⟩)(o3:ab lh 3=⟨1,.cells (aR c a7 a8 a9 a10 aw av) 0 true⟩):
  Lp pE 37 AL fr lh sh (.ext 0) fun f l s=>s=sh∧bt l (aa f 5) 35 1 t.fl.length (((List.range t.fl.length).map (dM t.fl.length (jn c t.fl))).map kS):=by
 have hf0:=hT.f
 obtain⟨fc,f1,f2⟩:=hf0
 have dm:=f1.lenI
 refine bV ZZ (fun k f l s=>aa f 6= .i .i64 (k:Int)∧s=sh∧bt l (aa f 5) 35 1 k (((List.range k).map (dM t.fl.length (jn c t.fl))).map kS)∧(∀j,j≠31→j≠35→ab l j=ab lh j)) t.fl.length ⟨h6,rfl,by rw[h5];exact bt.nil,fun _ _ _=>rfl⟩ ?_ ?_
 ·rintro k f l s hk K ⟨O,rfl,hO,U⟩
  have aN:(k:Int)<t.fl.length:=zO
  have hw:=aI (k:=k) zO
  have X:=(U 2 yv yv).trans o2
  have q3:=(U 3 yv yv).trans o3
  simp(maxDischargeDepth:=6) only[qA,seval,AL,K,h2,O,X,dm,aN]
  generalize hD:DC pE 37 (.loop wu) _=D
  obtain⟨F,l2,s2,rfl,⟨rfl,V,MC⟩,iH⟩:=sZ ZY hD (rj1 t c zT aT fT a7 a8 a9 a10 aw av hT hC hN k hk _ _ _ (by simp only[qA,seval,K,h2]) (by simp only[qA,seval,K,h3]) (by simp only[qA,seval,O]) wL wL X q3)
  have e6:aa F 6= .i .i64 (k:Int):=by rw[iH 6 yv];simp only[qA,seval,O]
  have e5:aa F 5=aa f 5:=by rw[iH 5 yv];simp only[qA,seval]
  have S2:=hO.congr (MC 35 yv)
  rw[←e5]at S2
  obtain⟨v7,e7⟩: ∃v,aa F 7=v:=⟨_,rfl⟩
  obtain⟨v5,I⟩: ∃v,aa F 5=v:=⟨_,rfl⟩
  rw[e7]at V
  rw[I]at S2
  have ht:kS (dM t.fl.length (jn c t.fl) k)=cE (dM t.fl.length (jn c t.fl) k).length (ints ((dM t.fl.length (jn c t.fl) k).map Int.ofNat)):=by
   unfold cE kS
   simp only[List.length_eq_zero_iff]
  have qe:=S2.notS
  have Y:=fun(v:T) (aZ:aB ah) (aY:List ah) (e:ab aZ 35=ab l2 35)=>fk (sh:=aY) (S2.congr e) [v] rfl (bytes:=24) (by unfold roomy;omega) true
  have qU:((List.range (k+1)).map (dM t.fl.length (jn c t.fl))).map kS=((List.range k).map (dM t.fl.length (jn c t.fl))).map kS++ [kS (dM t.fl.length (jn c t.fl) k)]:=by rw[List.range_succ,List.map_append,List.map_append];rfl
  rw[qU,ht]
  have MD: ∀j,j≠31→j≠35→ab l2 j=ab lh j:=fun j h1 h2=>(MC j h1).trans (U j h1 h2)
  rcases V with⟨h1,rfl,h3⟩|⟨g,wm,rfl,ho,hl,hp⟩
  ·simp(maxDischargeDepth:=6) only[qA,seval,gd,I,e6,e7,qe,Y,hw,repl,h1,cE]
   exact fun j Z W=>((Y .nilsl l2 _ rfl).2.2 j W).trans (MD j Z W)
  ·have hp': ¬(dM t.fl.length (jn c t.fl) k).length=0:=zO
   have hl':(dM t.fl.length (jn c t.fl) k).length≤(ints ((dM t.fl.length (jn c t.fl) k).map Int.ofNat)).length:=zO
   have Af:(ints ((dM t.fl.length (jn c t.fl) k).map Int.ofNat)).take (dM t.fl.length (jn c t.fl) k).length=ints ((dM t.fl.length (jn c t.fl) k).map Int.ofNat):=List.take_of_length_le zO
   simp(maxDischargeDepth:=6) only[qA,seval,gd,I,e6,e7,qe,Y,hw,repl,ho,hl',Af,hp',cE]
   exact fun j Z W=>((Y _ _ _ wL).2.2 j W).trans ((bK _ _ Z).trans (MD j Z W))
 ·rintro f l _ K ⟨O,rfl,hO,U⟩
  have X:=(U 2 yv yv).trans o2
  simp only[qA,seval,gd,AL,K,h2,X,O,dm,Int.lt_irrefl]
  exact hO
theorem xw:ae pE 63 [.agg [zT,aT,fT],.agg (aR c a7 a8 a9 a10 aw av)] []=some (cE t.fl.length (((List.range t.fl.length).map (dM t.fl.length (jn c t.fl))).map kS),[]):=by
 have W:=zX t c zT aT fT a7 a8 a9 a10 aw av hT hC
 have F:=fun fr lh sh h2 h3 h5 h6 I K=>rj2 t c zT aT fT a7 a8 a9 a10 aw av hT hC hN fr lh sh h2 h3 h5 h6 I K
 unfold aR at*
 rw[an akp (by simp[c63])]
 simp(maxDischargeDepth:=6) only[qA,seval,c63]
 generalize O:DC pE 37 (.loop AL) _=D
 obtain⟨U,X,s2,rfl,⟨rfl,V⟩,Y⟩:=sZ ZZ O (F _ _ _ wL wL wL wL wL wL)
 have KI:=fun sh=>V.fzV (keep:=false) (sh:=sh)
 obtain⟨Z,e5⟩: ∃v,aa U 5=v:=⟨_,rfl⟩
 rw[e5]at KI
 simp(maxDischargeDepth:=6) only[qA,yG,seval,e5,KI]
theorem aGW(ops:List Int)(oT:T)(ho:IsSl oT ops.length (ints ops))(hl:ops.length≤1000)(fr:Fr)(lh:aB ah)(sh:List ah)(h1:aa fr 1=oT)(h2:aa fr 2= .ptr .L 2 1 0)(h4:aa fr 4= .nilsl)(h6:aa fr 6= .isl .L 11 1 0 t.fl.length 1)(h7:aa fr 7= .i .i64 0)(O:ab lh 2=⟨1,.cells [zT,aT,fT] 0 true⟩)(D:ab lh 11=⟨1,.cells (mF (inB t.fl.length [])) 0 false⟩):
  Lp pE 54 oQ fr lh sh (if pQ t.fl.length none ops=0 then .ext 0 else .ret) fun f l s=>s=sh∧(pQ t.fl.length none ops=0→ab l 11=⟨1,.cells (mF (inB t.fl.length ops)) 0 false⟩)∧(pQ t.fl.length none ops≠0→aa f 4= .nilsl∧aa f 5= .i .i64 (pQ t.fl.length none ops)):=by
 have _:=hC
 have _:=hN
 have hf0:=hT.f
 obtain⟨fc,f1,f2⟩:=hf0
 have I:=f1.lenI
 have Z:=ho.lenI
 generalize hR:pQ t.fl.length none ops=R
 refine bV Z0 (fun k f l s=>aa f 7= .i .i64 (k:Int)∧aa f 4= .nilsl∧s=sh∧ab l 2=⟨1,.cells [zT,aT,fT] 0 true⟩∧ab l 11=⟨1,.cells (mF (inB t.fl.length (ops.take k))) 0 false⟩∧R=pQ t.fl.length (J2 ops k) (ops.drop k)) ops.length ⟨h7,h4,rfl,O,D,hR.symm⟩ ?_ ?_
 ·rintro k f l _ hk U ⟨V,g4,rfl,O,D,F⟩
  have aN:(k:Int)<ops.length:=zO
  have hw:wr .i64 ((k:Int)+1)=((k+1:Nat):Int):=by rw[bo zO];omega
  have W:=fun kk=>ho.ia (sz:=1) (k:=k) (kk:=kk) (by rw[cD];omega) hk
  simp only[Nat.mul_one]at W
  rw[iw ops k hk]at W
  rw[List.drop_eq_getElem_cons hk,Cu]at F
  rw[EF ops k hk]
  have qU:=J0 t.fl.length (ops.take k) ops[k]
  rw[←List.take_succ_eq_append_getElem hk]at qU
  have jY:=pP t.fl.length (ops.take k)
  by_cases hx:0≤ops[k]∧ops[k]<(t.fl.length:Int)
  ·obtain⟨x0,xN⟩:=hx
   have X: ¬ops[k]<0:=zO
   have Y: ¬(t.fl.length:Int)≤ops[k]:=zO
   have qU:=qU x0 xN
   rw[if_pos ⟨x0,xN⟩]at F
   have xn:ops[k].toNat<t.fl.length:=zO
   have xn2:ops[k].toNat+1≤t.fl.length:=zO
   by_cases h0':k=0
   ·subst h0'
    have hp0:J2 ops 0=none:=rfl
    rw[hp0]at F
    have rj: ∀kk,dV oT (.i kk 0) 1=some (.vp (.i .i64 ops[0]::(ints ops).drop (0+1))):=fun kk=>W kk
    have g70:aa f 7= .i .i64 0:=V
    have wZ:(0:Int)<ops.length:=aN
    generalize mF (inB t.fl.length (ops.take 0))=B at*
    generalize hB:mF (inB t.fl.length (ops.take (0+1)))=B' at*
    simp(maxDischargeDepth:=6) only[qA,seval,gd,oQ,U,h1,h2,h6,g70,g4,Z,I,wZ,rj,O,D,x0,X,Y,xn,xn2,jY,qU]
    exact F
   ·rw[J3 ops k hk h0']at F
    have tN:=fun kk=>ho.ia (sz:=1) (k:=k-1) (kk:=kk) (by rw[cD];omega) zO
    simp only[Nat.mul_one]at tN
    rw[iw ops (k-1) zO]at tN
    have Gw:=iA (k:=k) zO zO
    have JN:(0:Int)<(k:Int):=zO
    generalize mF (inB t.fl.length (ops.take k))=B at*
    generalize hB:mF (inB t.fl.length (ops.take (k+1)))=B' at*
    dsimp only at F
    by_cases K:ops[k]≤ops[k-1]
    ·rw[if_pos K]at F
     subst F
     simp(maxDischargeDepth:=6) only[qA,seval,gd,oQ,U,h1,h2,V,Z,I,aN,Gw,JN,W,tN,O,D,X,Y,K]
     exact⟨False.elim,fun _=>trivial⟩
    ·rw[if_neg K]at F
     simp(maxDischargeDepth:=6) only[qA,seval,gd,oQ,U,h1,h2,h6,V,g4,Z,I,aN,hw,Gw,JN,W,tN,O,D,x0,X,Y,xn,xn2,jY,qU,K]
     exact F
  ·rw[if_neg hx]at F
   subst F
   by_cases x0:ops[k]<0
   ·simp(maxDischargeDepth:=6) only[qA,seval,gd,oQ,U,h1,V,Z,aN,W,D,x0]
    exact⟨False.elim,fun _=>trivial⟩
   ·have xN:(t.fl.length:Int)≤ops[k]:=zO
    simp(maxDischargeDepth:=6) only[qA,seval,gd,oQ,U,h1,h2,V,Z,I,aN,W,O,D,x0,xN]
    exact⟨False.elim,fun _=>trivial⟩
 ·rintro f l _ U ⟨V,g4,rfl,O,D,F⟩
  rw[List.drop_length,Pc]at F
  rw[List.take_length]at D
  subst F
  simp only[qA,seval,gd,oQ,U,h1,Z,V,Int.lt_irrefl,D]
  exact⟨fun _=>trivial,False.elim⟩
theorem Z1(ops:List Int)(oT:T)(ho:IsSl oT ops.length (ints ops))(hl:ops.length≤1000):ae pE 64 [.agg [zT,aT,fT],oT] []=some (if pQ t.fl.length none ops=0 then .tup [.sl (mF (inB t.fl.length ops)) t.fl.length false,.i .i64 0]else .tup [.nilsl,.i .i64 (pQ t.fl.length none ops)],[]):=by
 have hz:=zX t c zT aT fT a7 a8 a9 a10 aw av hT hC
 have V:=fun fr lh sh=>aGW t c zT aT fT a7 a8 a9 a10 aw av hT hC hN ops oT ho hl fr lh sh
 have F:=hT.f
 obtain⟨fc,W,f2⟩:=F
 have I:=W.lenI
 have r1:t.fl.length*1≤roomy:=by unfold roomy;omega
 have K:t.fl.length≤roomy:=by unfold roomy;omega
 have X:repl [T.b false] t.fl.length=mF (inB t.fl.length []):=by
  rw[O4]
  generalize t.fl.length=N
  induction N with
  |zero=>rfl
  |succ n ih=>rw[repl,ih,List.replicate_succ];rfl
 have jY:=pP t.fl.length ops
 have Af:(mF (inB t.fl.length ops)).take t.fl.length=mF (inB t.fl.length ops):=List.take_of_length_le zO
 rw[an auz (by simp[c64])]
 simp(maxDischargeDepth:=6) only[qA,seval,c64,I,K,X]
 generalize Y:DC pE 54 (.loop oQ) _=D
 obtain⟨O,l2,s2,rfl,⟨rfl,U,Z⟩,iH⟩:=sZ Z0 Y (V _ _ _ wL wL wL wL wL wL wL)
 have e6:aa O 6= .isl .L 11 1 0 t.fl.length 1:=by rw[iH 6 yv];simp only[qA,seval]
 by_cases h0:pQ t.fl.length none ops=0
 ·have U:=U h0
  simp(maxDischargeDepth:=6) only[qA,yG,seval,h0,e6,U,jY,Af]
 ·obtain⟨b1,b2⟩:=Z h0
  simp(maxDischargeDepth:=6) only[qA,yG,seval,h0,b1,b2]
end
end Go.Proofs.YtcpceiclnbmgiaaGreat
namespace Go.Ev
open Go
def nO(bw:List FP)(i:Nat):Bool:=match aJ ⟨true,[],[]⟩ bw i with
 |⟨false,_,[]⟩=>true
 |_=>false
theorem GU{bw:List FP}{i:Nat}{r:List (Sp×Nat)}(h:nO bw i=true):apart (aJ ⟨true,[],[]⟩ bw i) ⟨false,r,[]⟩=true:=by
 unfold nO at h
 split at h
 ·rename_i q D
  rw[D]
  have:eZ q []=true:=by unfold eZ;rw[List.all_eq_true];intro x _;rfl
  unfold apart
  simp only[this]
  rfl
 ·cases h
theorem GV{E:Env}{call:kg}{n:Nat}{fr:Fr}{lh:aB ah}{sh:List ah}{ds:List (List Nat×aF)}{bw:List FP}{u:List Nat}{d:Option Nat}{f:Nat}{af:ai}{D:List aX}(hf:E.fn f=some af)(O:af.eff=false)(U:af.own=none){q:List T×List Up}(F:zD lh sh false (D.map (rd fr))=some q){v:T}{s:List ah}(hc:call f q.1 []=some (v,s))(V:scalar v=true)(W:SR ds=true)(K:u.all (nO bw)=true):
  aM E call n ((u,⟨d,.callf f D,none⟩)::ds) bw ⟨fr,lh,sh⟩=ke E call n ds (bw++ [gG]) (aj E call n [⟨d,.callf f D,none⟩] ⟨fr,lh,sh⟩):=by
 have I:br E call n ⟨d,.callf f D,none⟩ ⟨fr,lh,sh⟩≠none→ch E call ⟨d,.callf f D,none⟩ ⟨fr,lh,sh⟩=some ⟨false,(bn (fz false aL) (D.map (rd fr))).log (St.mk fr lh sh).get sh.length,[]⟩:=by
  intro Z
  unfold ch fb
  have X:bI (St.mk fr lh sh).rho (.callf f D)=some (some (f,D.map (rd fr))):=by rw[dC];rfl
  unfold zD at F
  rw[←l8 (fr:=fr)]at F
  simp only[X,hf,O,F]
  have Y:inB (St.mk fr lh sh) q.2=true:=uZ (fun t p h=>LU _ _ t p h) _ _ F
  simp only[Y,Bool.not_true,Bool.false_eq_true,if_false,U,hc,V,if_true]
 rw[nM I,if_pos]
 ·unfold ke
  cases aj E call n [⟨d,.callf f D,none⟩] ⟨fr,lh,sh⟩with
  |none=>rfl
  |some s=>exact BH ds _ _ s W
 ·unfold meets
  rw[List.all_eq_true]at K ⊢
  exact fun i hi=>GU (K i hi)
end Go.Ev
namespace Go.Proofs.YtcpceiclnbmgiaaGreat
open Go Go.Ev
def qx(b:Bool)(p:Nat→Nat)(h:Nat):Nat:=lA b*p h+sf p h
theorem ME(a:Nat):wr .i64 (0+fJ a)=fJ a:=by rw[Int.zero_add,ZQ]
theorem rc1(N H i:Nat)(hi:i<N)(hN:N≤1000)(hH:H≤6)(B P:Nat)(hP:P=B+1+i)(eE nT K wT:T)(b:Bool)(q1 q2:List T)(eK: ∀kk,dV eE (.i kk (i:Int)) 1=some (.vp (.b b::q1)))(fO: ∀kk,dV nT (.i kk (i:Int)) 1=some (.vp (K::q2)))(F:froz K=true)(C:Nat→Nat)(D:Int)(EG: ∀h,h≤H→ae pE 65 [wT,K,.i .i64 D,.i .i64 (h:Int)] []=some (.i .i64 (fJ (C h)),[]))
  (cb:List T) (W:cb[i]? =some (.isl .S P 1 0 (H+1) 1)) (ee:cb.length=N) (kw:Nat) (T0:Nat) (O:List ah) (hwz: ∀s,(∀k,k<B→aE s k=aE O k)→ ∃us,∀lh,fzV lh s false (.isl .S kw 1 0 N 1)=some (wT,us))
  (fr:Fr) (lh:aB ah) (h3:aa fr 3= .i .i64 (H:Int)) (X:aa fr 11=eE) (iN:aa fr 13=nT) (je:aa fr 15= .isl .S kw 1 0 N 1) (mD:aa fr 16= .i .i64 (fJ T0)) (j4:aa fr 17= .i .i64 D) (fq:aa fr 18= .isl .S B 1 0 N 1) (sj:aa fr 19= .i .i64 (i:Int)) (h20:aa fr 20= .i .i64 0) (hB:aE O B=⟨1,.cells cb 0 true⟩) (hR:aE O P=⟨1,.cells (db (H+1) fun _=>0) 0 false⟩) (hlen:P<O.length):
  Lp pE 134 qy fr lh O (.ext 4) fun f l s=>l=lh∧s.length=O.length∧aE s P=⟨1,.cells (db (H+1) fun h=>fJ (qx b C h)) 0 false⟩∧(∀k,k≠P→aE s k=aE O k)∧aa f 16= .i .i64 (fJ (T0+Sm (H+1) (qx b C))):=by
 refine bV Z2 (fun k f l s=>aa f 20= .i .i64 (k:Int)∧l=lh∧s.length=O.length∧aE s P=⟨1,.cells (db (H+1) fun h=>if h<k then fJ (qx b C h)else 0) 0 false⟩∧(∀k,k≠P→aE s k=aE O k)∧aa f 16= .i .i64 (fJ (T0+Sm k (qx b C)))) (H+1) ⟨h20,rfl,rfl,by rw[hR];rfl,fun _ _=>rfl,mD⟩ ?_ ?_
 ·rintro k f l s hk pr ⟨ZM,rfl,hl,hr,Y,Ad⟩
  have aN:(k:Int)≤(H:Int):=zO
  have hw:=aI (k:=k) zO
  have Z: ¬B=P:=zO
  have I:aE s B=⟨1,.cells cb 0 true⟩:=(Y B Z).trans hB
  obtain⟨u1,z1⟩:=hwz s fun j hj=>Y j zO
  have e1:=EG k zO
  have Dt:i+1≤N:=hi
  have hk1:k+1≤H+1:=hk
  generalize hr0:(fun h=>if h<k then fJ (qx b C h)else 0)=r0 at hr
  have U:=jH (H+1) r0 hk
  have azj:r0 k=0:=by rw[←hr0];simp
  rw[azj]at U
  have hlr:=iq (H+1)
  have qI:=fun v=>oG (H+1) r0 k v hk
  have hd1: ∀fr ds bw (u:List Nat),aa fr 88= .isl .S kw 1 0 N 1→aa fr 92=K→aa fr 93= .i .i64 D→aa fr 94= .i .i64 (k:Int)→SR ds=true→u.all (nO bw)=true→aM pE (ae pE) 134 ((u,⟨some 95,.callf 65 [.t 88,.t 92,.t 93,.t 94],none⟩)::ds) bw ⟨fr,l,s⟩=ke pE (ae pE) 134 ds (bw++ [gG]) (aj pE (ae pE) 134 [⟨some 95,.callf 65 [.t 88,.t 92,.t 93,.t 94],none⟩] ⟨fr,l,s⟩):=by
   intro fr ds bw u g1 g2 g3 g4 hu hq
   refine GV Qa rfl rfl (q:=([wT,K,.i .i64 D,.i .i64 (k:Int)],u1)) ?_ e1 rfl hu hq
   simp(maxDischargeDepth:=6) only[qA,seval,g1,g2,g3,g4,z1,F]
  have azk: ∀(v:Int),v=fJ (qx b C k)→db (H+1) (fun g=>if g=k then v else r0 g)=db (H+1) fun g=>if g<k+1 then fJ (qx b C g)else 0:=by
   intro v hv
   refine fV fun g=> ?_
   rw[←hr0]
   by_cases e:g=k
   ·subst e;simp[hv]
   ·by_cases e2:g<k
    ·simp[e,e2,Nat.lt_succ_of_lt e2]
    ·have: ¬g<k+1:=zO
     simp[e,e2,this]
  have vJ:Sm (k+1) (qx b C)=Sm k (qx b C)+qx b C k:=rfl
  have ant: ∀(v:Int),v=fJ (qx b C k)→(aK s P ⟨1,.cells (db (H+1) fun g=>if g=k then v else r0 g) 0 false⟩).length=O.length∧ah.mk 1 (.cells (db (H+1) fun g=>if g=k then v else r0 g) 0 false)=⟨1,.cells (db (H+1) fun h=>if h<k+1 then fJ (qx b C h)else 0) 0 false⟩∧(∀(j:Nat),¬j=P→aE (aK s P ⟨1,.cells (db (H+1) fun g=>if g=k then v else r0 g) 0 false⟩) j=aE O j)∧T.i .i64 (fJ (T0+Sm k (qx b C)+qx b C k))= .i .i64 (fJ (T0+(Sm k (qx b C)+qx b C k))):=fun v hv=>⟨by rw[bU _ _ _ zO];exact hl,by rw[azk v hv],fun j hj=>by rw[dS,if_neg hj];exact Y j hj,by rw[Nat.add_assoc]⟩
  by_cases wZ:k=0
  ·subst wZ
   have azl:(0:Int)≤(H:Int):=aN
   have azm:aa f 20= .i .i64 0:=ZM
   have e10:ae pE 65 [wT,K,.i .i64 D,.i .i64 0] []=some (.i .i64 (fJ (C 0)),[]):=e1
   have sC: ∀v,aE (aK s P ⟨1,.cells v 0 false⟩) P=⟨1,.cells v 0 false⟩:=fun v=>by rw[dS,if_pos rfl]
   have gn: ∀v,aE (aK s P ⟨1,.cells v 0 false⟩) B=⟨1,.cells cb 0 true⟩:=fun v=>by rw[dS,if_neg Z];exact I
   have V:=fun v=>jH (H+1) (fun g=>if g=0 then v else r0 g) hk
   cases b
   ·have hv:(0:Int)=fJ (qx false C 0):=by simp[qx,lA,sf,mz]
    have wH:qx false C 0=0:=by simp[qx,lA,sf]
    simp(maxDischargeDepth:=6) only[qA,seval,gd,qy,pr,h3,X,fq,sj,azm,Ad,azl,eK,hi,W,I,hr,hk,U]
    refine⟨hl, ?_,Y, ?_⟩
    ·rw[←azk _ hv]
     refine congrArg (fun c=>ah.mk 1 (.cells c 0 false)) (fV fun g=> ?_)
     by_cases e:g=0
     ·rw[if_pos e,e,azj]
     ·rw[if_neg e]
    ·rw[vJ,wH,Int.add_zero,ZQ];rfl
   ·have Fv:wr .i64 (0+fJ (C 0))=fJ (qx true C 0):=by rw[ME];simp[qx,lA,sf]
    have aG2: ∀fr ds bw (u:List Nat),aa fr 88= .isl .S kw 1 0 N 1→aa fr 92=K→aa fr 93= .i .i64 D→aa fr 94= .i .i64 0→SR ds=true→u.all (nO bw)=true→aM pE (ae pE) 134 ((u,⟨some 95,.callf 65 [.t 88,.t 92,.t 93,.t 94],none⟩)::ds) bw ⟨fr,l,s⟩=ke pE (ae pE) 134 ds (bw++ [gG]) (aj pE (ae pE) 134 [⟨some 95,.callf 65 [.t 88,.t 92,.t 93,.t 94],none⟩] ⟨fr,l,s⟩):=fun fr ds bw u g1 g2 g3 g4=>hd1 fr ds bw u g1 g2 g3 g4
    simp(maxDischargeDepth:=6) only[qA,bp,eh,aJ,seval,gd,qy,pr,h3,X,iN,je,j4,fq,sj,azm,Ad,azl,eK,fO,hi,W,I,hr,hk,hk1,U,hlr,qI,aG2,e10,z1,F,akr,gn,sC,V,qZ,il,Dn,nO,Fv,nE]
    exact ant _ rfl
  ·obtain⟨m,rfl⟩: ∃m,k=m+1:=⟨k-1,by omega⟩
   have JN:(0:Int)<((m+1:Nat):Int):=zO
   have hwp:wr .i64 (((m+1:Nat):Int)-1)=(m:Int):=by rw[bo zO];omega
   have e2:=EG m zO
   have gn: ∀v,aE (aK s P ⟨1,.cells v 0 false⟩) B=⟨1,.cells cb 0 true⟩:=fun v=>by rw[dS,if_neg Z];exact I
   have sC: ∀v,aE (aK s P ⟨1,.cells v 0 false⟩) P=⟨1,.cells v 0 false⟩:=fun v=>by rw[dS,if_pos rfl]
   cases b
   ·have wH:wr .i64 (0+fJ (C m))=fJ (qx false C (m+1)):=by rw[ME];simp[qx,lA,sf]
    have hd2: ∀fr ds bw (u:List Nat),aa fr 112= .isl .S kw 1 0 N 1→aa fr 116=K→aa fr 117= .i .i64 D→aa fr 119= .i .i64 (m:Int)→SR ds=true→u.all (nO bw)=true→aM pE (ae pE) 134 ((u,⟨some 120,.callf 65 [.t 112,.t 116,.t 117,.t 119],none⟩)::ds) bw ⟨fr,l,s⟩=ke pE (ae pE) 134 ds (bw++ [gG]) (aj pE (ae pE) 134 [⟨some 120,.callf 65 [.t 112,.t 116,.t 117,.t 119],none⟩] ⟨fr,l,s⟩):=by
     intro fr ds bw u g1 g2 g3 g4 hu hq
     refine GV Qa rfl rfl (q:=([wT,K,.i .i64 D,.i .i64 (m:Int)],u1)) ?_ e2 rfl hu hq
     simp(maxDischargeDepth:=6) only[qA,seval,g1,g2,g3,g4,z1,F]
    have V:=fun v=>jH (H+1) (fun g=>if g=m+1 then v else r0 g) hk
    simp(maxDischargeDepth:=6) only[qA,bp,eh,aJ,seval,gd,qy,pr,h3,X,iN,je,j4,fq,sj,ZM,Ad,aN,hw,eK,fO,hi,W,I,hr,hk,hk1,U,hlr,qI,hd2,JN,hwp,e2,z1,F,akr,gn,sC,V,qZ,il,Dn,nO,wH,nE,vJ]
    exact ant _ rfl
   ·have Fv:wr .i64 (0+fJ (C (m+1)))=fJ (C (m+1)):=ME _
    have wH:fJ (C (m+1)+C m)=fJ (qx true C (m+1)):=by simp[qx,lA,sf]
    obtain⟨u2,z2⟩:=hwz (aK s P ⟨1,.cells (db (H+1) fun g=>if g=m+1 then fJ (C (m+1))else r0 g) 0 false⟩) fun j hj=>by rw[dS,if_neg zO];exact Y j zO
    have hd2: ∀fr ds bw (u:List Nat),aa fr 112= .isl .S kw 1 0 N 1→aa fr 116=K→aa fr 117= .i .i64 D→aa fr 119= .i .i64 (m:Int)→SR ds=true→u.all (nO bw)=true→aM pE (ae pE) 134 ((u,⟨some 120,.callf 65 [.t 112,.t 116,.t 117,.t 119],none⟩)::ds) bw ⟨fr,l,aK s P ⟨1,.cells (db (H+1) fun g=>if g=m+1 then fJ (C (m+1))else r0 g) 0 false⟩⟩=ke pE (ae pE) 134 ds (bw++ [gG]) (aj pE (ae pE) 134 [⟨some 120,.callf 65 [.t 112,.t 116,.t 117,.t 119],none⟩] ⟨fr,l,aK s P ⟨1,.cells (db (H+1) fun g=>if g=m+1 then fJ (C (m+1))else r0 g) 0 false⟩⟩):=by
     intro fr ds bw u g1 g2 g3 g4 hu hq
     refine GV Qa rfl rfl (q:=([wT,K,.i .i64 D,.i .i64 (m:Int)],u2)) ?_ e2 rfl hu hq
     simp(maxDischargeDepth:=6) only[qA,seval,g1,g2,g3,g4,z2,F]
    have V:=fun v=>jH (H+1) (fun g=>if g=m+1 then v else r0 g) hk
    have Hv:=fun v1 v2=>oG (H+1) (fun g=>if g=m+1 then v1 else r0 g) (m+1) v2 hk
    have hmg: ∀(v1 v2:Int),(fun g=>if g=m+1 then v2 else if g=m+1 then v1 else r0 g)=fun g=>if g=m+1 then v2 else r0 g:=fun v1 v2=>funext fun g=>by by_cases e:g=m+1 <;> simp[e]
    simp(maxDischargeDepth:=6) only[qA,bp,eh,aJ,seval,gd,qy,pr,h3,X,iN,je,j4,fq,sj,ZM,Ad,aN,hw,eK,fO,hi,W,I,hr,hk,hk1,U,hlr,qI,hd1,hd2,JN,hwp,e1,e2,z1,z2,F,akr,gn,sC,V,Hv,qZ,il,Dn,nO,Fv,wH,nE,vJ,cY,hmg]
    exact ant _ rfl
 ·rintro f _ s pr ⟨ZM,rfl,hl,hr,Y,Ad⟩
  have aN: ¬((H+1:Nat):Int)≤(H:Int):=zO
  have e:db (H+1) (fun h=>if h<H+1 then fJ (qx b C h)else 0)=db (H+1) fun h=>fJ (qx b C h):=by
   unfold db
   refine List.map_congr_left fun g hg=> ?_
   dsimp only
   rw[if_pos (List.mem_range.1 hg)]
  rw[e]at hr
  simp only[qA,seval,gd,qy,pr,h3,ZM,aN]
  exact⟨hl,hr,Y,Ad⟩
end Go.Proofs.YtcpceiclnbmgiaaGreat
