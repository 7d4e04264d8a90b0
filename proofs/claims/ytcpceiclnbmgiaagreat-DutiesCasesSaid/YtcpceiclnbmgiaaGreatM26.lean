/- Walks of functions of the program and of the reference, and their plain laws, part 26. Conditions: the theorems' own. -/
import Derived.Test.YtcpceiclnbmgiaaGreatGS
import Derived.Test.YtcpceiclnbmgiaaGreatM25
import Derived.Test.YtcpceiclnbmgiaaGreatMT
import Derived.KernelRfl
set_option maxRecDepth 100000
set_option linter.unusedSimpArgs false
set_option linter.unusedVariables false
set_option maxRecDepth 1000000
set_option maxHeartbeats 16000000
namespace Go.Proofs.YtcpceiclnbmgiaaGreat
open Go Go.Ev
def hdB(b:Nat→Int):List (List Nat):= [[114,101,112,111,114,116,32]++B8 (b 0%3),[114,101,108,101,97,115,101,32]++Fv (b 1%3),[99,111,110,110,101,99,116,32]++wH (b 2%3),[115,105,116,32]++SP (b 3%3),[108,97,121,111,118,101,114,32]++hv4 (b 4%3),[110,105,103,104,116,32]++Sv (b 5%3),[99,111,110,115,116,32,115,104,105,102,116,115,32,105,115,32]++S5 (b 6%3)]
def crD(b:Nat→Int):List (List Nat):=if b 41%4<3 then [sI.getD (b 41%4).toNat []]else []
def Ak(b:Nat→Int)(i:Nat):Bool:=decide (b (7+i)%4=0)
def G6(b:Nat→Int)(i:Nat):Bool:=decide (b (30+i)%3=0)
def Sw(b:Nat→Int):List (List Nat):=hdB b++dr (Ak b) 0 nP++dr (G6 b) 0 nR++crD b
theorem Km{α:Type}(p:Nat→Bool): ∀(i:Nat) (a b:List α),dr p i (a++b)=dr p i a++dr p (i+a.length) b
 |_,[],b=>rfl
 |i,x::a,b=>by
  rw[List.cons_append,dr,dr,Km p (i+1) a b,List.length_cons,show i+1+a.length=i+(a.length+1)by omega]
  split <;> simp
theorem sr{α:Type}(p:Nat→Bool)(l:List α)(k:Nat)(hk:k<l.length):dr p 0 (l.take (k+1))=dr p 0 (l.take k)++if p k=true then [l[k]]else []:=by
 rw[List.take_succ_eq_append_getElem hk,Km,List.length_take,Nat.min_eq_left zO,Nat.zero_add,dr]
 rfl
theorem vS(a b:List (List Nat)):lp (a++b)=lp a++lp b:=by unfold lp;rw[List.flatMap_append]
theorem G8(a:List Nat):lp [a]=a++ [10]:=by simp[lp]
theorem CA(a b c:List Nat)(r:Int)(h0:0≤r)(h3:r<3): ∃q,∀kk,dV (.sl [.s a,.s b,.s c] 3 true) (.i kk r) 1=some (.vp (.s (([a,b,c]:List (List Nat)).getD r.toNat [])::q)):=by
 have:r=0∨r=1∨r=2:=zO
 rcases this with rfl|rfl|rfl <;> exact⟨_,fun _=>rfl⟩
theorem vU{v:T}{L:List (List Nat)}(r:IsSl v L.length (strs L))(k:Nat)(hk:k<L.length): ∃q,∀kk,dV v (.i kk (k:Int)) 1=some (.vp (.s L[k]::q)):=by
 refine⟨(strs L).drop (k+1),fun kk=> ?_⟩
 rw[r.ia (sz:=1) (by simp[strs]) hk,Nat.mul_one,List.drop_eq_getElem_cons (by simp[strs];exact hk)]
 simp[strs]
theorem an0:ae pE 81 [] []=some (.sl (strs nP) 18 true,[]):=by
 rw[an auI (by simp[c81])]
 simp(maxDischargeDepth:=6) only[qA,seval,c81,repl,strs,nP]
theorem an1:ae pE 82 [] []=some (.sl (strs nR) 10 true,[]):=by
 rw[an auJ (by simp[c82])]
 simp(maxDischargeDepth:=6) only[qA,seval,c82,repl,strs,nR]
theorem an2:ae pE 83 [] []=some (.sl (strs sI) 3 true,[]):=by
 rw[an auK (by simp[c83])]
 simp(maxDischargeDepth:=6) only[qA,seval,c83,repl,strs,sI]
theorem Pu: ∀(r:List (List Nat)),(∀l∈r,l.length≤100)→(lp r).length≤r.length*101
 | [],_=>by simp[lp]
 |x::m,D=>by
  have h1:=D x List.mem_cons_self
  have h2:=Pu m fun l hl=>D l (List.mem_cons_of_mem _ hl)
  have e:lp (x::m)=x++ [10]++lp m:=by simp[lp]
  rw[e,List.length_append,List.length_append,List.length_singleton,List.length_cons]
  omega
theorem Al(p:Nat→Bool)(l:List (List Nat))(h: ∀x∈l,x.length≤100)(k:Nat):(lp (dr p 0 (l.take k))).length≤k*101:=by
 have h1:=(dU p 0 (l.take k)).length_le
 have h2:=Pu (dr p 0 (l.take k)) fun x hx=>h x (List.mem_of_mem_take ((dU p 0 (l.take k)).subset hx))
 have h3:(l.take k).length≤k:=by rw[List.length_take];omega
 have h4:(dr p 0 (l.take k)).length*101≤k*101:=Nat.mul_le_mul_right _ zO
 omega
theorem G9: ∀x∈nP,x.length≤100:=yv
theorem Ha: ∀x∈nR,x.length≤100:=yv
theorem af9: ∀x∈sI,x.length≤100:=yv
theorem tU(a b c:List Nat)(n:Nat)(h:a.length≤20∧b.length≤20∧c.length≤20):(([a,b,c]:List (List Nat)).getD n []).length≤20:=by
 match n with
 |0=>exact h.1
 |1=>exact h.2.1
 |2=>exact h.2.2
 |n+3=>simp
section
variable(xs:List Int)(la:T)(hl:IsSl la xs.length (ints xs))
include hl
theorem aHx(F:List Nat)(X:F.length≤5000)(fr:Fr)(lh:aB ah)(sh:List ah)(h0:aa fr 0=la)(h3:aa fr 3= .s F)(h4:aa fr 4= .sl (strs nP) 18 true)(h5:aa fr 5= .i .i64 0):
  Lp pE 119 wo fr lh sh (.ext 0) fun f l s=>s=sh∧l=lh∧aa f 3= .s (F++lp (dr (Ak (bN xs)) 0 nP)):=by
 have Hw:nP.length=18:=rfl
 have I:IsSl (T.sl (strs nP) 18 true) nP.length (strs nP):= .inr ⟨_,rfl⟩
 have J:=hl.froz
 generalize T.sl (strs nP) 18 true=v at*
 refine bV aaG (fun k f l s=>aa f 5= .i .i64 (k:Int)∧s=sh∧l=lh∧aa f 3= .s (F++lp (dr (Ak (bN xs)) 0 (nP.take k)))) 18 ⟨h5,rfl,rfl,by rw[h3];simp[dr,lp]⟩ ?_ ?_
 ·rintro k f _ _ hk H ⟨r,rfl,rfl,g3⟩
  have K:(k:Int)<18:=zO
  have N:=aI (k:=k) zO
  have O:=jP la xs hl (7+k) zO
  have U:wr .i64 (7+(k:Int))=((7+k:Nat):Int):=by rw[bo zO];omega
  have Y:=rv xs (7+k)
  have V:(bN xs (7+k)).tmod 4=bN xs (7+k)%4:=eS Y
  obtain⟨q,Z⟩:=vU I k zO
  have D:=I.lenI
  rw[Hw]at D
  rw[sr _ _ k zO]
  have hp:Ak (bN xs) k=decide (bN xs (7+k)%4=0):=rfl
  rw[hp]
  have b1:=Al (Ak (bN xs)) nP G9 k
  have b2:=G9 nP[k] (List.getElem_mem zO)
  generalize dr (Ak (bN xs)) 0 (nP.take k)=S at*
  generalize nP[k]=R at*
  by_cases W:bN xs (7+k)%4=0
  ·simp(maxDischargeDepth:=6) only[qA,seval,gd,wo,H,h0,h4,r,g3,D,K,N,O,U,V,Z,J,W,nU]
   simp[vS,G8,List.append_assoc]
   exact⟨fun _ h=>absurd h zO,fun h=>absurd h zO⟩
  ·simp(maxDischargeDepth:=6) only[qA,seval,gd,wo,H,h0,h4,r,g3,D,K,N,O,U,V,J,W,nU]
 ·rintro f _ _ H ⟨r,rfl,rfl,g3⟩
  have D:=I.lenI
  rw[Hw]at D
  have ht:nP.take 18=nP:=rfl
  rw[ht]at g3
  have r:aa f 5= .i .i64 18:=r
  simp only[qA,seval,gd,wo,H,h4,r,D,Int.lt_irrefl]
  exact g3
theorem aHy(F:List Nat)(X:F.length≤5000)(fr:Fr)(lh:aB ah)(sh:List ah)(h0:aa fr 0=la)(h3:aa fr 3= .s F)(h4:aa fr 6= .sl (strs nR) 10 true)(h5:aa fr 7= .i .i64 0):
  Lp pE 119 wk fr lh sh (.ext 2) fun f l s=>s=sh∧l=lh∧aa f 3= .s (F++lp (dr (G6 (bN xs)) 0 nR)):=by
 have Hw:nR.length=10:=rfl
 have I:IsSl (T.sl (strs nR) 10 true) nR.length (strs nR):= .inr ⟨_,rfl⟩
 have J:=hl.froz
 generalize T.sl (strs nR) 10 true=v at*
 refine bV aaH (fun k f l s=>aa f 7= .i .i64 (k:Int)∧s=sh∧l=lh∧aa f 3= .s (F++lp (dr (G6 (bN xs)) 0 (nR.take k)))) 10 ⟨h5,rfl,rfl,by rw[h3];simp[dr,lp]⟩ ?_ ?_
 ·rintro k f _ _ hk H ⟨r,rfl,rfl,g3⟩
  have K:(k:Int)<10:=zO
  have N:=aI (k:=k) zO
  have O:=jP la xs hl (30+k) zO
  have U:wr .i64 (30+(k:Int))=((30+k:Nat):Int):=by rw[bo zO];omega
  have Y:=rv xs (30+k)
  have V:(bN xs (30+k)).tmod 3=bN xs (30+k)%3:=eS Y
  obtain⟨q,Z⟩:=vU I k zO
  have D:=I.lenI
  rw[Hw]at D
  rw[sr _ _ k zO]
  have hp:G6 (bN xs) k=decide (bN xs (30+k)%3=0):=rfl
  rw[hp]
  have b1:=Al (G6 (bN xs)) nR Ha k
  have b2:=Ha nR[k] (List.getElem_mem zO)
  generalize dr (G6 (bN xs)) 0 (nR.take k)=S at*
  generalize nR[k]=R at*
  by_cases W:bN xs (30+k)%3=0
  ·simp(maxDischargeDepth:=6) only[qA,seval,gd,wk,H,h0,h4,r,g3,D,K,N,O,U,V,Z,J,W,nU]
   simp[vS,G8,List.append_assoc]
   exact⟨fun _ h=>absurd h zO,fun h=>absurd h zO⟩
  ·simp(maxDischargeDepth:=6) only[qA,seval,gd,wk,H,h0,h4,r,g3,D,K,N,O,U,V,J,W,nU]
 ·rintro f _ _ H ⟨r,rfl,rfl,g3⟩
  have D:=I.lenI
  rw[Hw]at D
  have ht:nR.take 10=nR:=rfl
  rw[ht]at g3
  have r:aa f 7= .i .i64 10:=r
  simp only[qA,seval,gd,wk,H,h4,r,D,Int.lt_irrefl]
  exact g3
theorem aga:ae pE 48 [la] []=some (.s (lp (Sw (bN xs))),[]):=by
 have h0:ae pE 18 [la,.i .i64 0] []=some (.i .i64 (bN xs 0),[]):=jP la xs hl 0 zO
 have h1:ae pE 18 [la,.i .i64 1] []=some (.i .i64 (bN xs 1),[]):=jP la xs hl 1 zO
 have h2:ae pE 18 [la,.i .i64 2] []=some (.i .i64 (bN xs 2),[]):=jP la xs hl 2 zO
 have h3:ae pE 18 [la,.i .i64 3] []=some (.i .i64 (bN xs 3),[]):=jP la xs hl 3 zO
 have h4:ae pE 18 [la,.i .i64 4] []=some (.i .i64 (bN xs 4),[]):=jP la xs hl 4 zO
 have h5:ae pE 18 [la,.i .i64 5] []=some (.i .i64 (bN xs 5),[]):=jP la xs hl 5 zO
 have h6:ae pE 18 [la,.i .i64 6] []=some (.i .i64 (bN xs 6),[]):=jP la xs hl 6 zO
 have YB:ae pE 18 [la,.i .i64 41] []=some (.i .i64 (bN xs 41),[]):=jP la xs hl 41 zO
 have V:=fun i=>rv xs i
 have ht:=fun i=>eS (b:=3) (V i)
 have r:=eS (b:=4) (V 41)
 obtain⟨q0,W⟩:=CA [48,58,48,48] [48,58,52,53] [49,58,48,48] (bN xs 0%3) zO zO
 change ∀kk,dV _ _ 1=some (.vp (.s (B8 (bN xs 0%3))::q0))at W
 obtain⟨q1,e1⟩:=CA [48,58,48,48] [48,58,49,53] [48,58,51,48] (bN xs 1%3) zO zO
 change ∀kk,dV _ _ 1=some (.vp (.s (Fv (bN xs 1%3))::q1))at e1
 obtain⟨q2,e2⟩:=CA [48,58,51,48] [48,58,52,48] [48,58,49,53] (bN xs 2%3) zO zO
 change ∀kk,dV _ _ 1=some (.vp (.s (wH (bN xs 2%3))::q2))at e2
 obtain⟨q3,e3⟩:=CA [51,58,48,48] [50,52,58,48,48] [49,58,48,48] (bN xs 3%3) zO zO
 change ∀kk,dV _ _ 1=some (.vp (.s (SP (bN xs 3%3))::q3))at e3
 obtain⟨q4,e4⟩:=CA [50,52,58,48,48] [49,54,58,48,48] [51,54,58,48,48] (bN xs 4%3) zO zO
 change ∀kk,dV _ _ 1=some (.vp (.s (hv4 (bN xs 4%3))::q4))at e4
 obtain⟨q5,e5⟩:=CA [64,50,50,58,48,48,32,116,111,32,64,48,54,58,48,48] [64,48,48,58,48,48,32,116,111,32,64,48,53,58,48,48] [64,49,50,58,48,48,32,116,111,32,64,49,50,58,48,48] (bN xs 5%3) zO zO
 change ∀kk,dV _ _ 1=some (.vp (.s (Sv (bN xs 5%3))::q5))at e5
 obtain⟨q6,X⟩:=CA [50] [55,32,47,32,50] [45,40,49,41] (bN xs 6%3) zO zO
 change ∀kk,dV _ _ 1=some (.vp (.s (S5 (bN xs 6%3))::q6))at X
 have Y:=hl.froz
 have Z:=an0
 have qa:=an1
 have NG:=an2
 have F:=fun s0 hs fr lh sh=>aHx xs la hl s0 hs fr lh sh
 have OC:=fun s0 hs fr lh sh=>aHy xs la hl s0 hs fr lh sh
 have y0:(B8 (bN xs 0%3)).length≤20:=tU _ _ _ _ yv
 have y1:(Fv (bN xs 1%3)).length≤20:=tU _ _ _ _ yv
 have y2:(wH (bN xs 2%3)).length≤20:=tU _ _ _ _ yv
 have y3:(SP (bN xs 3%3)).length≤20:=tU _ _ _ _ yv
 have y4:(hv4 (bN xs 4%3)).length≤20:=tU _ _ _ _ yv
 have y5:(Sv (bN xs 5%3)).length≤20:=tU _ _ _ _ yv
 have y6:(S5 (bN xs 6%3)).length≤20:=tU _ _ _ _ yv
 have hcv:IsSl (T.sl (strs sI) 3 true) sI.length (strs sI):= .inr ⟨_,rfl⟩
 have azE: ∀h:bN xs 41%4<3,∃q,∀kk,dV (T.sl (strs sI) 3 true) (.i kk (bN xs 41%4)) 1=some (.vp (.s (sI.getD (bN xs 41%4).toNat [])::q)):=fun h=>by
  have hk:(bN xs 41%4).toNat<sI.length:=by show(bN xs 41%4).toNat<3;omega
  obtain⟨q,e⟩:=vU hcv (bN xs 41%4).toNat hk
  have h0:=V 41
  rw[Int.toNat_of_nonneg zO]at e
  refine⟨q,fun kk=> ?_⟩
  rw[e,List.getD_eq_getElem?_getD,List.getElem?_eq_getElem hk]
  rfl
 unfold Sw crD
 rw[vS,vS,vS]
 generalize T.sl (strs sI) 3 true=crT at*
 generalize aMz:T.sl (strs nP) 18 true=ry at*
 generalize aMA:T.sl (strs nR) 10 true=MM at*
 generalize H:B8 (bN xs 0%3)=x0 at*
 generalize C4:Fv (bN xs 1%3)=x1 at*
 generalize I:wH (bN xs 2%3)=x2 at*
 generalize J:SP (bN xs 3%3)=x3 at*
 generalize K:hv4 (bN xs 4%3)=x4 at*
 generalize N:Sv (bN xs 5%3)=x5 at*
 generalize O:S5 (bN xs 6%3)=x6 at*
 have hHl:(lp (hdB (bN xs))).length≤1000:=by
  simp only[lp,hdB,H,C4,I,J,K,N,O,List.flatMap_cons,List.flatMap_nil,List.length_append,List.length_cons,List.length_nil]
  omega
 have hH:=Eq.refl (lp (hdB (bN xs)))
 conv at hH=>
  rhs
  simp only[lp,hdB,H,C4,I,J,K,N,O,List.flatMap_cons,List.flatMap_nil,List.append_nil,List.append_assoc,List.cons_append,List.nil_append]
 have Hw:(lp (dr (Ak (bN xs)) 0 nP)).length≤18*101:=Al (Ak (bN xs)) nP G9 18
 have ee:(lp (dr (G6 (bN xs)) 0 nR)).length≤10*101:=Al (G6 (bN xs)) nR Ha 10
 generalize lp (dr (Ak (bN xs)) 0 nP)=XR at*
 generalize lp (dr (G6 (bN xs)) 0 nR)=XC at*
 generalize lp (hdB (bN xs))=HB at*
 rw[an aui (by simp[c48])]
 simp(maxDischargeDepth:=6) only[qA,bp,aJ,seval,c48,repl,h0,h1,h2,h3,h4,h5,h6,ht,W,e1,e2,e3,e4,e5,X,Y,Z,nU,aCO,aDt]
 repeat refine Eq.trans (if_pos (by first|omega|(simp only[List.length_append,List.length_cons,List.length_nil];omega))) ?_
 generalize U:DC pE 119 (.loop wo) _=D
 obtain⟨f2,l2,s2,rfl,⟨rfl,rfl,g3⟩,iH⟩:=sZ aaG U (F HB zO _ _ _ wL (by rw[hH];simp only[qA,seval,List.append_assoc]) wL wL)
 have p0:aa f2 0=la:=by rw[iH 0 yv];simp only[qA,seval]
 clear iH U hH W e1 e2 e3 e4 e5 X
 simp(maxDischargeDepth:=6) only[qA,seval,qa,aDu]
 generalize U:DC pE 119 (.loop wk) _=D
 obtain⟨f3,l3,s3,rfl,⟨rfl,rfl,k3⟩,CX⟩:=sZ aaH U (OC (HB++XR) (by rw[List.length_append];omega) _ _ _ (by simp only[qA,seval,p0]) (by simp only[qA,seval,g3]) wL wL)
 have p1:aa f3 0=la:=by rw[CX 0 yv];simp only[qA,seval,p0]
 clear CX U OC F
 by_cases h:bN xs 41%4<3
 ·obtain⟨q,e⟩:=azE h
  have b1:(sI.getD (bN xs 41%4).toNat []).length≤20*5:=by
   have hk:(bN xs 41%4).toNat<sI.length:=by show(bN xs 41%4).toNat<3;omega
   rw[List.getD_eq_getElem?_getD,List.getElem?_eq_getElem hk]
   exact af9 _ (List.getElem_mem hk)
  rw[if_pos h,G8]
  generalize sI.getD (bN xs 41%4).toNat []=CR at*
  have hA:(HB++XR++XC).length≤10000:=by simp only[List.length_append];omega
  generalize HB++XR++XC=A at*
  simp(maxDischargeDepth:=6) only[qA,seval,p1,k3,YB,r,Y,h,NG,e,nU,aDv]
  repeat refine Eq.trans (if_pos (by first|omega|(simp only[List.length_append];omega))) ?_
  simp only[List.append_assoc]
 ·rw[if_neg h]
  have ht0:lp []= []:=rfl
  rw[ht0]
  simp(maxDischargeDepth:=6) only[qA,seval,p1,k3,YB,r,Y,h,nU]
end
theorem CB(f:Nat→Int)(k:Nat):ints (atR f (k+1))=ints (atR f k)++ [.i .i64 (f k)]:=by simp[atR,ints,List.range_succ]
section
variable(xs:List Int)(la:T)(hl:IsSl la xs.length (ints xs))
include hl
theorem aHz(fr:Fr)(lh:aB ah)(sh:List ah)(h0:aa fr 0=la)(h6:aa fr 6= .nilsl)(Y:aa fr 7= .nilsl)(Z:aa fr 8= .nilsl)(h9:aa fr 9= .i .i64 0):
  Lp pE 44 HN fr lh sh (.ext 0) fun f q s=>s=sh∧bt q (aa f 6) 20 1 60 (ints (atR (bN xs) 60))∧bt q (aa f 7) 27 1 60 (ints (atR (fun i=>bN xs (60+i)) 60))∧bt q (aa f 8) 34 1 60 (ints (atR (fun i=>bN xs (120+i)) 60))∧ab q 2=ab lh 2∧ab q 3=ab lh 3:=by
 refine bV agb (fun k f q s=>aa f 9= .i .i64 (k:Int)∧s=sh∧bt q (aa f 6) 20 1 k (ints (atR (bN xs) k))∧bt q (aa f 7) 27 1 k (ints (atR (fun i=>bN xs (60+i)) k))∧bt q (aa f 8) 34 1 k (ints (atR (fun i=>bN xs (120+i)) k))∧ab q 2=ab lh 2∧ab q 3=ab lh 3) 60 ⟨h9,rfl,by rw[h6];exact bt.nil,by rw[Y];exact bt.nil,by rw[Z];exact bt.nil,rfl,rfl⟩ ?_ ?_
 ·rintro k f q _ hk X ⟨g9,rfl,H,I,J,K,N⟩
  have aN:(k:Int)<60:=zO
  have hw:=aI (k:=k) zO
  have e1:=jP la xs hl k zO
  have e2:=jP la xs hl (60+k) zO
  have e3:=jP la xs hl (120+k) zO
  have w2:wr .i64 (60+(k:Int))=((60+k:Nat):Int):=by rw[bo zO];omega
  have w3:wr .i64 (120+(k:Int))=((120+k:Nat):Int):=by rw[bo zO];omega
  have hz:=hl.froz
  have pA:=fun(x:T) (D:aB ah) (r:List ah) (e:ab D 20=ab q 20)=>fk (sh:=r) (H.congr e) [x] rfl (bytes:=8) (by unfold roomy;omega) true
  have pB:=fun(x:T) (D:aB ah) (r:List ah) (e:ab D 27=ab q 27)=>fk (sh:=r) (I.congr e) [x] rfl (bytes:=8) (by unfold roomy;omega) true
  have pC:=fun(x:T) (D:aB ah) (r:List ah) (e:ab D 34=ab q 34)=>fk (sh:=r) (J.congr e) [x] rfl (bytes:=8) (by unfold roomy;omega) true
  have nA:=H.notS
  have nB:=I.notS
  have nC:=J.notS
  rw[CB,CB,CB]
  generalize S5:aa f 6=v6 at*
  generalize O:aa f 7=v7 at*
  generalize U:aa f 8=v8 at*
  have V:=fun x r=>pA x q r rfl
  have gA:=fun x r j F=>(V x r).2.2 j F
  have kB:=fun x y r=>pB y (Q6 q r 20 1 8 v6 (.sl [x] 1 true)) r (gA x r 27 yv)
  have gB:=fun x y r j F=>(kB x y r).2.2 j F
  have W:=fun x y z r=>pC z (Q6 (Q6 q r 20 1 8 v6 (.sl [x] 1 true)) r 27 1 8 v7 (.sl [y] 1 true)) r ((gB x y r 34 yv).trans (gA x r 34 yv))
  have gC:=fun x y z r j F=>(W x y z r).2.2 j F
  have rA:=fun x r=>(V x r).1
  have rB:=fun x y r=>(kB x y r).1
  have rC:=fun x y z r=>(W x y z r).1
  simp(maxDischargeDepth:=6) only[qA,seval,gd,repl,HN,X,h0,g9,S5,O,U,aN,hw,e1,e2,e3,w2,w3,hz,rA,rB,rC,nA,nB,nC,nU]
  refine⟨((V _ _).2.1.congr ?_),((kB _ _ _).2.1.congr ?_),(W _ _ _ _).2.1, ?_, ?_⟩
  ·exact(gC _ _ _ _ 20 yv).trans (gB _ _ _ 20 yv)
  ·exact gC _ _ _ _ 27 yv
  ·exact((gC _ _ _ _ 2 yv).trans (gB _ _ _ 2 yv)).trans ((gA _ _ 2 yv).trans K)
  ·exact((gC _ _ _ _ 3 yv).trans (gB _ _ _ 3 yv)).trans ((gA _ _ 3 yv).trans N)
 ·rintro f q _ X ⟨g9,rfl,H,I,J,K,N⟩
  have g9:aa f 9= .i .i64 60:=g9
  simp only[qA,seval,gd,HN,g9,Int.lt_irrefl]
  exact⟨H,I,J,K,N⟩
end
end Go.Proofs.YtcpceiclnbmgiaaGreat
