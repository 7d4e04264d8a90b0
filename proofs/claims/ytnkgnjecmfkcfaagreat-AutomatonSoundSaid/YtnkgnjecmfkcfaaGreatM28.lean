/- Walks, plain laws (28). Conditions: the theorems' own. -/
import Derived.Test.YtnkgnjecmfkcfaaGreatM27
set_option maxRecDepth 100000
set_option linter.all false
set_option maxRecDepth 1000000
set_option maxHeartbeats 16000000
namespace Go.Proofs.YtnkgnjecmfkcfaaGreat
open Go Go.Ev
def dmC(P:List (List Nat×Int×Int)):List T:=P.flatMap fun p=> [.s p.1,qi p.2.1,qi p.2.2]
def ah3(P:List (List Nat×Int×Int)):(dmC P).length=P.length*3:=iC (sz:=3) (fun _=>rfl) P
theorem LU: ∀(P:List (List Nat×Int×Int)) (k:Nat) (h:k<P.length),(dmC P).drop (k*3)= .s P[k].1:: qi P[k].2.1:: qi P[k].2.2::dmC (P.drop (k+1))
 | [],_,h=>by simp at h
 |p::P,0,h=>rfl
 |p::P,k+1,h=>by
  have ih:=LU P k (by simpa using h)
  rw[List.getElem_cons_succ,List.drop_succ_cons,←ih,Nat.succ_mul,Nat.add_comm,←List.drop_drop]
  rfl
def UB(q:List Nat→Int)(p:List Nat×Int×Int):Bool:=agr (q p.1) (decide (p.2.2≤p.2.1)) (decide (p.2.1≤p.2.2))
def dm1(P:List (List Nat×Int×Int))(hP:P.length≤100)(ex:Bool)(O U V W X Y Z D:Int)(a7 a8 a9 aw aA az:T)(hz:(froz1 a7=true∧froz1 a8=true∧froz1 a9=true∧froz1 aw=true∧froz1 aA=true∧froz1 az=true))(q:List Nat→Int)(hq: ∀p∈P,∃s,ae pE 47 [.agg [qi O,qi U,qi V,qi W,qi X,qi Y,qi Z,a7,a8,a9,aw,aA,az,qi D],.s p.1] []=some (.tup [qi (q p.1),qi 0],s))(b0:Bool)(e6 e7:ah)(fr:Fr)(lh:aE ah)(sh:List ah)
  (h5:aa fr 5= .ptr .L 5 1 0) (h12:aa fr 12= .b b0) (h93:aa fr 93= .sl (dmC P) P.length ex) (H:aa fr 94= qi (P.length:Int)) (h95:aa fr 95= qi 0) (I:ab lh 5=⟨1,.cells [qi O,qi U,qi V,qi W,qi X,qi Y,qi Z,a7,a8,a9,aw,aA,az,qi D] 0 true⟩) (J:ab lh 6=e6) (K:ab lh 7=e7):
  Lp pE 148 xD fr lh sh (.ext 0) fun f l s=>s=sh∧ab l 5=⟨1,.cells [qi O,qi U,qi V,qi W,qi X,qi Y,qi Z,a7,a8,a9,aw,aA,az,qi D] 0 true⟩∧ab l 6=e6∧ab l 7=e7∧aa f 12= .b (b0&&P.all (UB q)):=by
 refine bK IX (fun k f l s=>aa f 95= qi (k:Int)∧s=sh∧ab l 5=⟨1,.cells [qi O,qi U,qi V,qi W,qi X,qi Y,qi Z,a7,a8,a9,aw,aA,az,qi D] 0 true⟩∧ab l 6=e6∧ab l 7=e7∧aa f 12= .b (b0&&(P.take k).all (UB q))) P.length ⟨h95,rfl,I,J,K,by rw[h12];simp⟩ ?_ ?_
 ·rintro k f l _ hk pr ⟨F,rfl,I,J,K,Rc⟩
  have hk':(k:Int)<P.length:=zV
  have hw:=aF (k:=k) zV
  have hsl:IsSl (.sl (dmC P) P.length ex) P.length (dmC P):= .inr ⟨ex,rfl⟩
  have N:=fun kk=>hsl.ia (kk:=kk) (ah3 P) hk
  simp only[LU P k hk]at N
  obtain⟨s1,aC⟩:=hq P[k] (List.getElem_mem hk)
  have htk:(P.take (k+1)).all (UB q)=((P.take k).all (UB q)&&UB q P[k]):=by
   rw[List.take_succ_eq_append_getElem hk,List.all_append,List.all_cons,List.all_nil,Bool.and_true]
  rw[htk,←Bool.and_assoc]
  generalize (b0&&(P.take k).all (UB q))=r at*
  have hag:=Ra (q P[k].1)
  unfold UB
  generalize P[k]=p at*
  cases r
  all_goals simp(maxDischargeDepth:=6) only[qA,seval,gd,xD,pr,h5,h93,H,F,Rc,I,J,K,hk',hw,N,aC,hag,hz,axF,axG,Bool.false_and,Bool.true_and]
 ·rintro f l _ pr ⟨F,rfl,I,J,K,Rc⟩
  rw[List.take_length]at Rc
  simp only[qA,seval,gd,xD,pr,H,F,I,J,K,Rc,Int.lt_irrefl]
def nLg:List Nat:= [108,101,103,115]
def nHd:List Nat:= [104,101,97,100,115]
def nBk:List Nat:= [98,108,111,99,107]
def nLo:List Nat:= [108,111,110,103,101,115,116]
def nSo:List Nat:= [115,104,111,114,116,101,115,116]
def nTy:List Nat:= [116,121,112,101,115]
def dmP(a b:qJ):List (List Nat×Int×Int):= [(nLg,a.lg,b.lg),(nHd,a.hd,b.hd),(nBk,a.bl,b.bl),(nLo,a.lo,b.lo),(nSo,a.so,b.so)]
def qH(q:List Nat→Int)(a b:qJ):Bool:=((decide (a.ff=b.ff)&&(decide (a.lf=b.lf)&&decide (a.lg+a.hd≤b.lg+b.hd)))&&(dmP a b).all (UB q))&&agr (q nTy) (b.ty.all fun s=>decide (s∈a.ty)) (a.ty.all fun s=>decide (s∈b.ty))
section
variable(t:Tt)(c:Ct)(zT aT fT a7 a8 a9 aw aA az:T)(hT:jV t zT aT fT)(hC:kR c a7 a8 a9 aw aA az)(hA:CY c)(hk:ee t c=0)
include hT hC hA hk
def aqG(a b:qJ)(na nb:Nat)(ha:Ed t.fl.length a=true)(hb:Ed t.fl.length b=true)(H:a.ty.length≤1000)(UX:b.ty.length≤1000)(q:List Nat→Int)(hq: ∀s∈ [nLg,nHd,nBk,nLo,nSo,nTy],∃r,ae pE 47 [.agg (aO c a7 a8 a9 aw aA az),.s s] []=some (.tup [qi (q s),qi 0],r)):
  ∃r,ae pE 16 [.agg [zT,aT,fT],.agg (aO c a7 a8 a9 aw aA az),nS a,nS b] []=some (.tup [.b (qH q a b),qi 0],r):=by
 obtain⟨s0,I,oD,_⟩:=aaM t c zT aT fT a7 a8 a9 aw aA az hT hC hA hk
 have F:=Aj t c zT aT fT a7 a8 a9 aw aA az hT hC
 have II:=pT c zT aT fT a7 a8 a9 aw aA az I
 have T8:froz1 (stV c zT aT fT a7 a8 a9 aw aA az I)=true:=rfl
 obtain⟨fc,f1,U⟩:=hT.f
 have V:=Qd zT aT fT (aO c a7 a8 a9 aw aA az++I) fc t.fl.length f1 _ _ (dg a.ty) H
 have W:=Qd zT aT fT (aO c a7 a8 a9 aw aA az++I) fc t.fl.length f1 _ _ (dg b.ty) UX
 rw[ha]at V
 rw[hb]at W
 have V:ae pE 39 [stV c zT aT fT a7 a8 a9 aw aA az I,nS a] []=some (.b true,[]):=V
 have W:ae pE 39 [stV c zT aT fT a7 a8 a9 aw aA az I,nS b] []=some (.b true,[]):=W
 have Y:=AP a
 have Z:=AP b
 have J:=(dg a.ty).froz
 have K:=(dg b.ty).froz
 have N:=(dg a.ty).froz1
 have O:=(dg b.ty).froz1
 have c1:=Rb a.ty b.ty H UX
 have c2:=Rb b.ty a.ty UX H
 obtain⟨_,_,a3,a4,_⟩:=my.1 ha
 obtain⟨_,_,b3,b4,_⟩:=my.1 hb
 have wa:wr .i64 (a.lg+a.hd)=a.lg+a.hd:=aZ zV
 have wb:wr .i64 (b.lg+b.hd)=b.lg+b.hd:=aZ zV
 obtain⟨rT,hqT⟩:=hq nTy yv
 unfold aO at*
 have hL:=fun b0 e6 e7=>dm1 (dmP a b) (by simp[dmP]) true _ _ _ _ _ _ _ _ a7 a8 a9 aw aA az ⟨F.1.2.2.2.1,F.1.2.2.2.2.1,F.1.2.2.2.2.2.1,F.1.2.2.2.2.2.2.1,F.1.2.2.2.2.2.2.2.1,F.1.2.2.2.2.2.2.2.2⟩ q (fun p hp=>hq p.1 (by
  simp only[dmP,List.mem_cons,List.not_mem_nil,or_false]at hp
  rcases hp with rfl|rfl|rfl|rfl|rfl <;> simp)) b0 e6 e7
 have hag:=Ra (q nTy)
 have hnT:nTy= [116,121,112,101,115]:=rfl
 unfold qH
 have hP:dmC (dmP a b)= [.s [108,101,103,115],qi a.lg,qi b.lg,.s [104,101,97,100,115],qi a.hd,qi b.hd,.s [98,108,111,99,107],qi a.bl,qi b.bl,.s [108,111,110,103,101,115,116],qi a.lo,qi b.lo,.s [115,104,111,114,116,101,115,116],qi a.so,qi b.so]:=rfl
 have hPl:(dmP a b).length=5:=rfl
 rw[hP,hPl]at hL
 generalize (dmP a b).all (UB q)=G at*
 generalize (b.ty.all fun s=>decide (s∈a.ty))=x1 at*
 generalize (a.ty.all fun s=>decide (s∈b.ty))=x2 at*
 clear hnT
 unfold nTy at*
 generalize q [116,121,112,101,115]=qT at*
 unfold nS sZ at*
 generalize yK a.ty=ya at*
 generalize yK b.ty=yb at*
 generalize hSS:stV c zT aT fT a7 a8 a9 aw aA az I=SS at*
 rw[au axk (by simp[c16])]
 cases e1:decide (a.ff=b.ff)
 all_goals cases e2:decide (a.lf=b.lf)
 all_goals cases e3:decide (a.lg+a.hd≤b.lg+b.hd)
 all_goals
  simp(maxDischargeDepth:=6) only[qA,seval,cX,splice,repl,c16,F,oD,II,T8,V,W,amV,aF5,Y,Z,J,K,N,O,wa,wb,e1,e2,e3]
  generalize hD:DC pE 148 (.loop xD) _=D
  obtain⟨U,l2,s2,rfl,⟨rfl,o5,o6,o7,Rc⟩,X⟩:=qK IX hD (hL _ _ _ _ _ _ yk (by(simp only[qA,seval]) <;> rfl) (by(simp only[qA,seval,splice,repl]) <;> rfl) yk yk yk rfl rfl)
  have p5:aa U 5= .ptr .L 5 1 0:=by rw[X 5 zz];simp only[qA,seval]
  have p6:aa U 6= .ptr .L 6 1 0:=by rw[X 6 zz];simp only[qA,seval]
  have p7:aa U 7= .ptr .L 7 1 0:=by rw[X 7 zz];simp only[qA,seval]
  simp only[qA,seval]at o6 o7
  simp only[Bool.true_and,Bool.false_and]at Rc
  clear hD X
 all_goals cases G
 all_goals simp(maxDischargeDepth:=6) only[qA,seval,bg,aH,p5,p6,p7,o5,o6,o7,Rc,F,hqT,axF,axG,aF7,aF8,aF9,J,K,N,O,c1,c2,hag,yy]
end
def LV{q:Int}{a b F H r D:Bool}(h1:agr q a b=true)(h2:agr q F H=true)(I:a=true→F=true→r=true)(J:b=true→H=true→D=true):agr q r D=true:=by
 unfold agr at*
 split at h1
 ·rename_i h;rw[if_pos h]
 ·rename_i h;rw[if_neg h]at h2 ⊢
  split at h1
  ·rename_i h;rw[if_pos h]at h2 ⊢; exact I h1 h2
  ·rename_i h;rw[if_neg h]at h2 ⊢
   split at h1
   ·rename_i h;rw[if_pos h]at h2 ⊢; exact J h1 h2
   ·rename_i h;rw[if_neg h]at h2 ⊢
    rw[Bool.and_eq_true]at*
    exact⟨I h1.1 h2.1,J h1.2 h2.2⟩
def Ve{α:Type}(L:List α)(f:Nat)(g:α→List T)(p:T→Bool)(h:(L.all fun x=>match ow pE 1000 f (g x) []with|some (r,_)=>p r|none=>false)=true:=by kernel_rfl): ∀x∈L,∃r s,ae pE f (g x) []=some (r,s)∧p r=true:=fun x hx=>by
 have h1:=List.all_eq_true.1 h x hx
 cases hc:ow pE 1000 f (g x) []with
 |none=>rw[hc]at h1;cases h1
 |some q=>
  obtain⟨r,s⟩:=q
  rw[hc]at h1
  obtain⟨D,e⟩:=G8 (m:=1000) (v:=r) (show(ow pE 1000 f (g x) []).map (·.1)=some r by rw[hc];rfl)
  exact⟨r,D,e,h1⟩
def rH:T→Bool
 | .i .i64 t=>decide (0≤t∧t≤3)
 |_=>false
def acp{r:T}(h:rH r=true): ∃t:Int,r= qi t∧0≤t∧t≤3:=by
 unfold rH at h
 split at h
 ·exact⟨_,rfl,of_decide_eq_true h⟩
 ·cases h
def lF:List (List Nat):= [[108,101,103,115],[104,101,97,100,115],[98,108,111,99,107],[108,111,110,103,101,115,116],[115,104,111,114,116,101,115,116],[116,121,112,101,115]]
def trB:List Int:= [0,1,2,3]
def ksB(j:Nat):Ex:= [Ex.mk 1 2 [] [],.mk 1 3 [] [],.mk 7 0 [] [.mk 1 1 [] []]].getD j (.mk 1 2 [] [])
def jJ(j:Nat):Ex→Ex
 | .mk a b c [x,y]=> .mk a b c [x,if y.name=ug then ksB j else y]
 |x=>x
mutual
def mE:Ex→List T
 | .mk op n s a=> [qi op,qi n,.s s,match a with| []=> .nilsl|b::r=> .sl (mE b++acq r) (r.length+1) false]
def acq:List Ex→List T
 | []=> []
 |x::r=>mE x++acq r
end
def dKS{α:Type}(L:List α)(f:Nat)(g:α→List T)(sh:List ah)(v:α→T)(h:(L.map fun x=>(ow pE 1000 f (g x) sh).map (·.1))=L.map fun x=>some (v x)): ∀x∈L,∃s,ae pE f (g x) sh=some (v x,s):=fun x hx=>by
 have h1:=List.map_inj_left.1 h x hx
 cases hc:ow pE 1000 f (g x) sh with
 |none=>rw[hc]at h1;cases h1
 |some q=>
  obtain⟨a,s⟩:=q
  rw[hc]at h1
  cases h1
  exact⟨s,DCall_iff.2 ⟨1000,hc⟩⟩
def m0B:ah:=⟨1,.map [] [] false⟩
def LW(a7:T)(r D F H I J K:ah):List ah:= [m0B,r,D,F,H,I,J,K,⟨1,.cells [a7,.mp .S 0 1,.ptr .S 3 1 0] 0 true⟩]
def prC:List (Int×Ex):=oB.take 27++oB.drop 28
end Go.Proofs.YtnkgnjecmfkcfaaGreat
