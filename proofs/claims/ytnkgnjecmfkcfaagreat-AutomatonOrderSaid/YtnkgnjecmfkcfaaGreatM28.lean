/- Walks of functions of the program and of the reference, and their plain laws, part 28. Conditions: the theorems' own. -/
import Derived.Test.YtnkgnjecmfkcfaaGreatGS
import Derived.Test.YtnkgnjecmfkcfaaGreatM1
import Derived.Test.YtnkgnjecmfkcfaaGreatM27
import Derived.KernelRfl
set_option maxRecDepth 100000
set_option linter.unusedSimpArgs false
set_option linter.unusedVariables false
set_option maxRecDepth 1000000
set_option maxHeartbeats 16000000
namespace Go.Proofs.YtnkgnjecmfkcfaaGreat
open Go Go.Ev
def dmC(P:List (List Nat×Int×Int)):List T:=P.flatMap fun p=> [.s p.1,.i .i64 p.2.1,.i .i64 p.2.2]
theorem aew(P:List (List Nat×Int×Int)):(dmC P).length=P.length*3:=jH (sz:=3) (fun _=>rfl) P
theorem JI: ∀(P:List (List Nat×Int×Int)) (k:Nat) (h:k<P.length),(dmC P).drop (k*3)= .s P[k].1:: .i .i64 P[k].2.1:: .i .i64 P[k].2.2::dmC (P.drop (k+1))
 | [],_,h=>by simp at h
 |p::P,0,h=>rfl
 |p::P,k+1,h=>by
  have ih:=JI P k (by simpa using h)
  rw[List.getElem_cons_succ,List.drop_succ_cons,←ih,Nat.succ_mul,Nat.add_comm,←List.drop_drop]
  rfl
def L9(q:List Nat→Int)(p:List Nat×Int×Int):Bool:=Z6 (q p.1) (decide (p.2.2≤p.2.1)) (decide (p.2.1≤p.2.2))
theorem dm1(P:List (List Nat×Int×Int))(hP:P.length≤100)(ex:Bool)(R U V W X Y Z D:Int)(a7 a8 a9 aw aA az:T)(hz:(froz1 a7=true∧froz1 a8=true∧froz1 a9=true∧froz1 aw=true∧froz1 aA=true∧froz1 az=true))(q:List Nat→Int)(hq: ∀p∈P,∃s,ae pE 47 [.agg [.i .i64 R,.i .i64 U,.i .i64 V,.i .i64 W,.i .i64 X,.i .i64 Y,.i .i64 Z,a7,a8,a9,aw,aA,az,.i .i64 D],.s p.1] []=some (.tup [.i .i64 (q p.1),.i .i64 0],s))(b0:Bool)(e6 e7:ah)(fr:Fr)(lh:aE ah)(sh:List ah)
  (h5:aa fr 5= .ptr .L 5 1 0) (h12:aa fr 12= .b b0) (h93:aa fr 93= .sl (dmC P) P.length ex) (I:aa fr 94= .i .i64 (P.length:Int)) (h95:aa fr 95= .i .i64 0) (J:ab lh 5=⟨1,.cells [.i .i64 R,.i .i64 U,.i .i64 V,.i .i64 W,.i .i64 X,.i .i64 Y,.i .i64 Z,a7,a8,a9,aw,aA,az,.i .i64 D] 0 true⟩) (K:ab lh 6=e6) (N:ab lh 7=e7):
  Lp pE 148 vP fr lh sh (.ext 0) fun f l s=>s=sh∧ab l 5=⟨1,.cells [.i .i64 R,.i .i64 U,.i .i64 V,.i .i64 W,.i .i64 X,.i .i64 Y,.i .i64 Z,a7,a8,a9,aw,aA,az,.i .i64 D] 0 true⟩∧ab l 6=e6∧ab l 7=e7∧aa f 12= .b (b0&&P.all (L9 q)):=by
 refine cm GL (fun k f l s=>aa f 95= .i .i64 (k:Int)∧s=sh∧ab l 5=⟨1,.cells [.i .i64 R,.i .i64 U,.i .i64 V,.i .i64 W,.i .i64 X,.i .i64 Y,.i .i64 Z,a7,a8,a9,aw,aA,az,.i .i64 D] 0 true⟩∧ab l 6=e6∧ab l 7=e7∧aa f 12= .b (b0&&(P.take k).all (L9 q))) P.length ⟨h95,rfl,J,K,N,by rw[h12];simp⟩ ?_ ?_
 ·rintro k f l _ hk pr ⟨H,rfl,J,K,N,F⟩
  have hk':(k:Int)<P.length:=zZ
  have hw:=aG (k:=k) zZ
  have hsl:IsSl (.sl (dmC P) P.length ex) P.length (dmC P):= .inr ⟨ex,rfl⟩
  have O:=fun kk=>hsl.ia (kk:=kk) (aew P) hk
  simp only[JI P k hk]at O
  obtain⟨s1,aD⟩:=hq P[k] (List.getElem_mem hk)
  have htk:(P.take (k+1)).all (L9 q)=((P.take k).all (L9 q)&&L9 q P[k]):=by
   rw[List.take_succ_eq_append_getElem hk,List.all_append,List.all_cons,List.all_nil,Bool.and_true]
  rw[htk,←Bool.and_assoc]
  generalize (b0&&(P.take k).all (L9 q))=r at*
  have hag:=Oy (q P[k].1)
  unfold L9
  generalize P[k]=p at*
  cases r
  all_goals simp(maxDischargeDepth:=6) only[qA,seval,gd,vP,pr,h5,h93,I,H,F,J,K,N,hk',hw,O,aD,hag,hz,asI,asJ,Bool.false_and,Bool.true_and]
 ·rintro f l _ pr ⟨H,rfl,J,K,N,F⟩
  rw[List.take_length]at F
  simp only[qA,seval,gd,vP,pr,I,H,J,K,N,F,Int.lt_irrefl]
def nLg:List Nat:= [108,101,103,115]
def nHd:List Nat:= [104,101,97,100,115]
def nBk:List Nat:= [98,108,111,99,107]
def nLo:List Nat:= [108,111,110,103,101,115,116]
def nSo:List Nat:= [115,104,111,114,116,101,115,116]
def nTy:List Nat:= [116,121,112,101,115]
def dmP(a b:rh):List (List Nat×Int×Int):= [(nLg,a.lg,b.lg),(nHd,a.hd,b.hd),(nBk,a.bl,b.bl),(nLo,a.lo,b.lo),(nSo,a.so,b.so)]
def vw(q:List Nat→Int)(a b:rh):Bool:=((decide (a.ff=b.ff)&&(decide (a.lf=b.lf)&&decide (a.lg+a.hd≤b.lg+b.hd)))&&(dmP a b).all (L9 q))&&Z6 (q nTy) (b.ty.all fun s=>decide (s∈a.ty)) (a.ty.all fun s=>decide (s∈b.ty))
section
variable(t:Tt)(c:Ct)(zT aT fT a7 a8 a9 aw aA az:T)(hT:ky t zT aT fT)(hC:kP c a7 a8 a9 aw aA az)(hA:Ds c)(hk:eb t c=0)
include hT hC hA hk
theorem amz(a b:rh)(na nb:Nat)(ha:A4 t.fl.length a=true)(hb:A4 t.fl.length b=true)(H:a.ty.length≤1000)(I:b.ty.length≤1000)(q:List Nat→Int)(hq: ∀s∈ [nLg,nHd,nBk,nLo,nSo,nTy],∃r,ae pE 47 [.agg (aV c a7 a8 a9 aw aA az),.s s] []=some (.tup [.i .i64 (q s),.i .i64 0],r)):
  ∃r,ae pE 16 [.agg [zT,aT,fT],.agg (aV c a7 a8 a9 aw aA az),j5 a,j5 b] []=some (.tup [.b (vw q a b),.i .i64 0],r):=by
 obtain⟨s0,J,nE,_⟩:=ahv t c zT aT fT a7 a8 a9 aw aA az hT hC hA hk
 have F:=Dt t c zT aT fT a7 a8 a9 aw aA az hT hC
 have Z:=E9 c zT aT fT a7 a8 a9 aw aA az J
 have alp:froz1 (stV c zT aT fT a7 a8 a9 aw aA az J)=true:=rfl
 obtain⟨fc,f1,V⟩:=hT.f
 have W:=ND zT aT fT (aV c a7 a8 a9 aw aA az++J) fc t.fl.length f1 _ _ (bU a.ty) H
 have X:=ND zT aT fT (aV c a7 a8 a9 aw aA az++J) fc t.fl.length f1 _ _ (bU b.ty) I
 rw[ha]at W
 rw[hb]at X
 have W:ae pE 39 [stV c zT aT fT a7 a8 a9 aw aA az J,j5 a] []=some (.b true,[]):=W
 have X:ae pE 39 [stV c zT aT fT a7 a8 a9 aw aA az J,j5 b] []=some (.b true,[]):=X
 have hsa:=yG a
 have hsb:=yG b
 have K:=(bU a.ty).froz
 have N:=(bU b.ty).froz
 have O:=(bU a.ty).froz1
 have R:=(bU b.ty).froz1
 have c1:=Oz a.ty b.ty H I
 have c2:=Oz b.ty a.ty I H
 obtain⟨_,_,a3,a4,_⟩:=lL.1 ha
 obtain⟨_,_,b3,b4,_⟩:=lL.1 hb
 have wa:wr .i64 (a.lg+a.hd)=a.lg+a.hd:=bI zZ
 have wb:wr .i64 (b.lg+b.hd)=b.lg+b.hd:=bI zZ
 obtain⟨rT,hqT⟩:=hq nTy zP
 unfold aV at*
 have hL:=fun b0 e6 e7=>dm1 (dmP a b) (by simp[dmP]) true _ _ _ _ _ _ _ _ a7 a8 a9 aw aA az ⟨F.1.2.2.2.1,F.1.2.2.2.2.1,F.1.2.2.2.2.2.1,F.1.2.2.2.2.2.2.1,F.1.2.2.2.2.2.2.2.1,F.1.2.2.2.2.2.2.2.2⟩ q (fun p hp=>hq p.1 (by
  simp only[dmP,List.mem_cons,List.not_mem_nil,or_false]at hp
  rcases hp with rfl|rfl|rfl|rfl|rfl <;> simp)) b0 e6 e7
 have hag:=Oy (q nTy)
 have hnT:nTy= [116,121,112,101,115]:=rfl
 unfold vw
 have hP:dmC (dmP a b)= [.s [108,101,103,115],.i .i64 a.lg,.i .i64 b.lg,.s [104,101,97,100,115],.i .i64 a.hd,.i .i64 b.hd,.s [98,108,111,99,107],.i .i64 a.bl,.i .i64 b.bl,.s [108,111,110,103,101,115,116],.i .i64 a.lo,.i .i64 b.lo,.s [115,104,111,114,116,101,115,116],.i .i64 a.so,.i .i64 b.so]:=rfl
 have hPl:(dmP a b).length=5:=rfl
 rw[hP,hPl]at hL
 generalize (dmP a b).all (L9 q)=G at*
 generalize (b.ty.all fun s=>decide (s∈a.ty))=x1 at*
 generalize (a.ty.all fun s=>decide (s∈b.ty))=x2 at*
 clear hnT
 unfold nTy at*
 generalize q [116,121,112,101,115]=qT at*
 unfold j5 nI at*
 generalize qm a.ty=ya at*
 generalize qm b.ty=yb at*
 generalize hSS:stV c zT aT fT a7 a8 a9 aw aA az J=SS at*
 rw[av aiG (by simp[c16])]
 cases e1:decide (a.ff=b.ff)
 all_goals cases e2:decide (a.lf=b.lf)
 all_goals cases e3:decide (a.lg+a.hd≤b.lg+b.hd)
 all_goals
  simp(maxDischargeDepth:=6) only[qA,seval,cT,splice,repl,c16,F,nE,Z,alp,W,X,asC,aAC,hsa,hsb,K,N,O,R,wa,wb,e1,e2,e3]
  generalize hD:DC pE 148 (.loop vP) _=D
  obtain⟨V,l2,s2,rfl,⟨rfl,o5,o6,o7,U⟩,Y⟩:=sa GL hD (hL _ _ _ _ _ _ yW (by(simp only[qA,seval]) <;> rfl) (by(simp only[qA,seval,splice,repl]) <;> rfl) yW yW yW rfl rfl)
  have p5:aa V 5= .ptr .L 5 1 0:=by rw[Y 5 zz];simp only[qA,seval]
  have p6:aa V 6= .ptr .L 6 1 0:=by rw[Y 6 zz];simp only[qA,seval]
  have p7:aa V 7= .ptr .L 7 1 0:=by rw[Y 7 zz];simp only[qA,seval]
  simp only[qA,seval]at o6 o7
  simp only[Bool.true_and,Bool.false_and]at U
  clear hD Y
 all_goals cases G
 all_goals simp(maxDischargeDepth:=6) only[qA,seval,bj,aH,p5,p6,p7,o5,o6,o7,U,F,hqT,asI,asJ,aAD,aAE,aAF,K,N,O,R,c1,c2,hag,AI]
end
theorem JJ(q:Int):Z6 q true true=true:=by
 unfold Z6
 split <;> try rfl
 split <;> try rfl
 split <;> rfl
theorem JK{q:Int}{a b F H r D:Bool}(h1:Z6 q a b=true)(h2:Z6 q F H=true)(I:a=true→F=true→r=true)(J:b=true→H=true→D=true):Z6 q r D=true:=by
 unfold Z6 at*
 split at h1
 ·rename_i h;rw[if_pos h]
 ·rename_i h;rw[if_neg h]at h2 ⊢
  split at h1
  ·rename_i h;rw[if_pos h]at h2 ⊢; exact I h1 h2
  ·rename_i h;rw[if_neg h]at h2 ⊢
   split at h1
   ·rename_i h;rw[if_pos h]at h2 ⊢; exact J h1 h2
   ·rename_i h;rw[if_neg h]at h2 ⊢
    rw[Bool.and_eq_true]at*
    exact⟨I h1.1 h2.1,J h1.2 h2.2⟩
theorem YW(q:List Nat→Int)(n:List Nat)(x:Int):L9 q (n,x,x)=true:=by
 unfold L9
 rw[decide_eq_true (Int.le_refl x)]
 exact JJ _
theorem nP{q:List Nat→Int}{n:List Nat}{x y z:Int}(h1:L9 q (n,x,y)=true)(h2:L9 q (n,y,z)=true):L9 q (n,x,z)=true:=by
 unfold L9 at*
 refine JK h1 h2 ?_ ?_ <;> simp only[decide_eq_true_eq] <;> omega
theorem Ro(q:List Nat→Int)(a:rh):vw q a a=true:=by
 have h:(a.ty.all fun s=>decide (s∈a.ty))=true:=zP
 unfold vw dmP
 rw[h,JJ]
 simp[YW]
theorem Ma{q:List Nat→Int}{a b c:rh}(h1:vw q a b=true)(h2:vw q b c=true):vw q a c=true:=by
 unfold vw dmP at*
 simp only[List.all_cons,List.all_nil,Bool.and_eq_true,decide_eq_true_eq,Bool.and_true]at*
 obtain⟨⟨⟨W,X,Y⟩,r,D,F,H,I⟩,J⟩:=h1
 obtain⟨⟨⟨Z,q2,q3⟩,K,N,O,R,U⟩,V⟩:=h2
 refine⟨⟨⟨by omega,by omega,by omega⟩,nP r K,nP D N,nP F O,nP H R,nP I U⟩,JK J V ?_ ?_⟩
 all_goals
  simp only[List.all_eq_true,decide_eq_true_eq]
  intro u v s hs
  first|exact u s (v s hs)|exact v s (u s hs)
theorem Rp{α:Type}(L:List α)(f:Nat)(g:α→List T)(p:T→Bool)(h:(L.all fun x=>match r8 pE 1000 f (g x) []with|some (r,_)=>p r|none=>false)=true): ∀x∈L,∃r s,ae pE f (g x) []=some (r,s)∧p r=true:=fun x hx=>by
 have h1:=List.all_eq_true.1 h x hx
 cases hc:r8 pE 1000 f (g x) []with
 |none=>rw[hc]at h1;cases h1
 |some q=>
  obtain⟨r,s⟩:=q
  rw[hc]at h1
  obtain⟨D,e⟩:=Nv (m:=1000) (v:=r) (show(r8 pE 1000 f (g x) []).map (·.1)=some r by rw[hc];rfl)
  exact⟨r,D,e,h1⟩
def pK:T→Bool
 | .i .i64 t=>decide (0≤t∧t≤3)
 |_=>false
theorem YX{r:T}(h:pK r=true): ∃t:Int,r= .i .i64 t∧0≤t∧t≤3:=by
 unfold pK at h
 split at h
 ·exact⟨_,rfl,of_decide_eq_true h⟩
 ·cases h
def xU:List (List Nat):= [[108,101,103,115],[104,101,97,100,115],[98,108,111,99,107],[108,111,110,103,101,115,116],[115,104,111,114,116,101,115,116],[116,121,112,101,115]]
def trB:List Int:= [0,1,2,3]
def ksB(j:Nat):Ex:= [Ex.mk 1 2 [] [],.mk 1 3 [] [],.mk 7 0 [] [.mk 1 1 [] []]].getD j (.mk 1 2 [] [])
def kb(j:Nat):Ex→Ex
 | .mk a b c [x,y]=> .mk a b c [x,if y.name=sN then ksB j else y]
 |x=>x
mutual
def mR:Ex→List T
 | .mk op n s a=> [.i .i64 op,.i .i64 n,.s s,match a with| []=> .nilsl|b::r=> .sl (mR b++YY r) (r.length+1) false]
def YY:List Ex→List T
 | []=> []
 |x::r=>mR x++YY r
end
theorem dKS{α:Type}(L:List α)(f:Nat)(g:α→List T)(sh:List ah)(v:α→T)(h:(L.map fun x=>(r8 pE 1000 f (g x) sh).map (·.1))=L.map fun x=>some (v x)): ∀x∈L,∃s,ae pE f (g x) sh=some (v x,s):=fun x hx=>by
 have h1:=List.map_inj_left.1 h x hx
 cases hc:r8 pE 1000 f (g x) sh with
 |none=>rw[hc]at h1;cases h1
 |some q=>
  obtain⟨a,s⟩:=q
  rw[hc]at h1
  cases h1
  exact⟨s,DCall_iff.2 ⟨1000,hc⟩⟩
def m0B:ah:=⟨1,.map [] [] false⟩
def JL(a7:T)(r D F H I J K:ah):List ah:= [m0B,r,D,F,H,I,J,K,⟨1,.cells [a7,.mp .S 0 1,.ptr .S 3 1 0] 0 true⟩]
def prC:List (Int×Ex):=nw.take 27++nw.drop 28
end Go.Proofs.YtnkgnjecmfkcfaaGreat
