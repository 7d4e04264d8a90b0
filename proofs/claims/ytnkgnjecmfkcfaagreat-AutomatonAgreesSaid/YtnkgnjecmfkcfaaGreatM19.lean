/- Walks of functions of the program and of the reference, and their plain laws, part 19. Conditions: the theorems' own. -/
import Derived.Test.YtnkgnjecmfkcfaaGreatGS
import Derived.Test.YtnkgnjecmfkcfaaGreatM18
import Derived.KernelRfl
set_option maxRecDepth 100000
set_option linter.unusedSimpArgs false
set_option linter.unusedVariables false
set_option maxRecDepth 1000000
set_option maxHeartbeats 16000000
namespace Go.Proofs.YtnkgnjecmfkcfaaGreat
open Go Go.Ev
def nk:List (List Nat):= [[100,117,116,121,32,114,117,108,101,32,115,105,122,101,32,105,115,32,108,101,103,115,32,43,32,104,101,97,100,115,32,60,61,32,51],
 [100,117,116,121,32,114,117,108,101,32,115,112,97,110,32,105,115,32,115,112,97,110,32,60,61,32,49,51,58,48,48,32,45,32,48,58,51,48,32,42,32,40,108,101,103,115,32,45,32,49,41],
 [100,117,116,121,32,114,117,108,101,32,110,105,103,104,116,32,105,115,32,115,116,97,114,116,32,105,110,32,64,50,50,58,48,48,32,116,111,32,64,48,53,58,48,48,32,105,109,112,108,105,101,115,32,115,112,97,110,32,60,61,32,56,58,48,48],
 [100,117,116,121,32,114,117,108,101,32,98,108,111,99,107,32,105,115,32,98,108,111,99,107,32,60,61,32,54,58,48,48],
 [100,117,116,121,32,114,117,108,101,32,116,121,112,101,115,32,105,115,32,116,121,112,101,115,32,60,61,32,49],
 [100,117,116,121,32,114,117,108,101,32,111,100,100,32,105,115,32,108,101,103,115,32,61,32,49,32,111,114,32,108,101,103,115,32,61,32,51,32,111,114,32,104,101,97,100,115,32,61,32,49],
 [100,117,116,121,32,114,117,108,101,32,103,97,112,32,105,115,32,108,111,110,103,101,115,116,32,60,61,32,50,58,48,48,32,111,114,32,54,58,48,48,32,60,61,32,115,112,97,110],
 [114,101,115,116,32,114,117,108,101,32,108,101,97,115,116,32,105,115,32,56,58,48,48,32,60,61,32,114,101,115,116],
 [114,101,115,116,32,114,117,108,101,32,98,101,102,111,114,101,32,105,115,32,109,97,120,40,54,58,48,48,44,32,98,101,102,111,114,101,46,115,112,97,110,41,32,60,61,32,114,101,115,116],
 [114,101,115,116,32,114,117,108,101,32,110,105,103,104,116,115,32,105,115,32,110,105,103,104,116,115,32,60,61,32,49,32,111,114,32,104,111,109,101],
 [114,101,115,116,32,114,117,108,101,32,104,111,109,101,32,105,115,32,104,111,109,101,32,105,109,112,108,105,101,115,32,114,101,115,116,32,60,61,32,50,48,58,48,48],
 [114,101,115,116,32,114,117,108,101,32,97,102,116,101,114,32,105,115,32,97,102,116,101,114,46,115,116,97,114,116,32,105,110,32,64,48,54,58,48,48,32,116,111,32,64,50,48,58,48,48,32,111,114,32,57,58,48,48,32,60,61,32,114,101,115,116],
 [112,97,105,114,105,110,103,32,114,117,108,101,32,100,97,121,115,32,105,115,32,100,97,121,115,32,60,61,32,51],
 [112,97,105,114,105,110,103,32,114,117,108,101,32,100,117,116,105,101,115,32,105,115,32,100,117,116,105,101,115,32,60,61,32,51],
 [112,97,105,114,105,110,103,32,114,117,108,101,32,98,108,111,99,107,32,105,115,32,98,108,111,99,107,32,60,61,32,57,58,48,48],
 [112,97,105,114,105,110,103,32,114,117,108,101,32,99,114,101,100,105,116,32,105,115,32,99,114,101,100,105,116,32,60,61,32,49,50,58,48,48],
 [112,97,105,114,105,110,103,32,114,117,108,101,32,115,112,97,110,32,105,115,32,115,112,97,110,32,60,61,32,53,48,58,48,48],
 [112,97,105,114,105,110,103,32,114,117,108,101,32,108,101,103,115,32,105,115,32,50,32,60,61,32,108,101,103,115]]
def nn:List (List Nat):= [[100,117,116,121,32,99,111,115,116,32,105,115,32,49,48,48,32,43,32,49,48,32,42,32,108,101,103,115],
 [100,117,116,121,32,99,111,115,116,32,105,115,32,40,115,112,97,110,32,45,32,98,108,111,99,107,41,32,47,32,48,58,49,53],
 [100,117,116,121,32,99,111,115,116,32,105,115,32,105,102,32,110,105,103,104,116,32,60,61,32,50,58,48,48,32,116,104,101,110,32,48,32,101,108,115,101,32,51,48],
 [114,101,115,116,32,99,111,115,116,32,105,115,32,105,102,32,104,111,109,101,32,116,104,101,110,32,48,32,101,108,115,101,32,53,48],
 [114,101,115,116,32,99,111,115,116,32,105,115,32,114,101,115,116,32,47,32,49,58,48,48],
 [112,97,105,114,105,110,103,32,99,111,115,116,32,105,115,32,50,48,32,42,32,100,97,121,115],
 [112,97,105,114,105,110,103,32,99,111,115,116,32,105,115,32,109,97,120,40,48,58,48,48,44,32,99,114,101,100,105,116,32,45,32,56,58,48,48,41,32,47,32,48,58,51,48],
 [100,117,116,121,32,99,111,115,116,32,105,115,32,45,40,53,32,42,32,104,101,97,100,115,41],
 [100,117,116,121,32,99,111,115,116,32,105,115,32,116,121,112,101,115,32,42,32,116,121,112,101,115],
 [112,97,105,114,105,110,103,32,99,111,115,116,32,105,115,32,45,40,51,32,42,32,108,101,103,115,41,32,43,32,115,104,105,102,116,115]]
def sq:List (List Nat):= [[100,117,116,121,32,99,114,101,100,105,116,32,105,115,32,109,97,120,40,98,108,111,99,107,44,32,52,58,48,48,41],
 [100,117,116,121,32,99,114,101,100,105,116,32,105,115,32,115,112,97,110,32,47,32,50],
 [100,117,116,121,32,99,114,101,100,105,116,32,105,115,32,98,108,111,99,107,32,43,32,48,58,50,48,32,42,32,108,101,103,115]]
def BE(r:Int):List Nat:=([[48,58,48,48],[48,58,52,53],[49,58,48,48]]:List (List Nat)).getD r.toNat []
def EV(r:Int):List Nat:=([[48,58,48,48],[48,58,49,53],[48,58,51,48]]:List (List Nat)).getD r.toNat []
def wS(r:Int):List Nat:=([[48,58,51,48],[48,58,52,48],[48,58,49,53]]:List (List Nat)).getD r.toNat []
def SC(r:Int):List Nat:=([[51,58,48,48],[50,52,58,48,48],[49,58,48,48]]:List (List Nat)).getD r.toNat []
def hv4(r:Int):List Nat:=([[50,52,58,48,48],[49,54,58,48,48],[51,54,58,48,48]]:List (List Nat)).getD r.toNat []
def Sh(r:Int):List Nat:=([[64,50,50,58,48,48,32,116,111,32,64,48,54,58,48,48],[64,48,48,58,48,48,32,116,111,32,64,48,53,58,48,48],[64,49,50,58,48,48,32,116,111,32,64,49,50,58,48,48]]:List (List Nat)).getD r.toNat []
def SV(r:Int):List Nat:=([[50],[55,32,47,32,50],[45,40,49,41]]:List (List Nat)).getD r.toNat []
def hdB(b:Nat→Int):List (List Nat):= [[114,101,112,111,114,116,32]++BE (b 0%3),[114,101,108,101,97,115,101,32]++EV (b 1%3),[99,111,110,110,101,99,116,32]++wS (b 2%3),[115,105,116,32]++SC (b 3%3),[108,97,121,111,118,101,114,32]++hv4 (b 4%3),[110,105,103,104,116,32]++Sh (b 5%3),[99,111,110,115,116,32,115,104,105,102,116,115,32,105,115,32]++SV (b 6%3)]
def crD(b:Nat→Int):List (List Nat):=if b 41%4<3 then [sq.getD (b 41%4).toNat []]else []
def zH(b:Nat→Int)(i:Nat):Bool:=decide (b (7+i)%4=0)
def Gv(b:Nat→Int)(i:Nat):Bool:=decide (b (30+i)%3=0)
def Si(b:Nat→Int):List (List Nat):=hdB b++cY (zH b) 0 nk++cY (Gv b) 0 nn++crD b
theorem Ke{α:Type}(p:Nat→Bool): ∀(i:Nat) (a b:List α),cY p i (a++b)=cY p i a++cY p (i+a.length) b
 |_,[],b=>rfl
 |i,x::a,b=>by
  rw[List.cons_append,cY,cY,Ke p (i+1) a b,List.length_cons,show i+1+a.length=i+(a.length+1)by omega]
  split <;> simp
theorem rU{α:Type}(p:Nat→Bool)(l:List α)(k:Nat)(hk:k<l.length):cY p 0 (l.take (k+1))=cY p 0 (l.take k)++if p k=true then [l[k]]else []:=by
 rw[List.take_succ_eq_append_getElem hk,Ke,List.length_take,Nat.min_eq_left yv,Nat.zero_add,cY]
 rfl
theorem vW(a b:List (List Nat)):kF (a++b)=kF a++kF b:=by unfold kF;rw[List.flatMap_append]
theorem Gw(a:List Nat):kF [a]=a++ [10]:=by simp[kF]
theorem BX(a b c:List Nat)(r:Int)(h0:0≤r)(h3:r<3): ∃q,∀kk,iaV (.sl [.s a,.s b,.s c] 3 true) (.i kk r) 1=some (.vp (.s (([a,b,c]:List (List Nat)).getD r.toNat [])::q)):=by
 have:r=0∨r=1∨r=2:=yv
 rcases this with rfl|rfl|rfl <;> exact⟨_,fun _=>rfl⟩
theorem vX{v:T}{L:List (List Nat)}(r:IsSl v L.length (strs L))(k:Nat)(hk:k<L.length): ∃q,∀kk,iaV v (.i kk (k:Int)) 1=some (.vp (.s L[k]::q)):=by
 refine⟨(strs L).drop (k+1),fun kk=> ?_⟩
 rw[r.ia (sz:=1) (by simp[strs]) hk,Nat.mul_one,List.drop_eq_getElem_cons (by simp[strs];exact hk)]
 simp[strs]
theorem amQ:ae pE 119 [] []=some (.sl (strs nk) 18 true,[]):=by
 rw[au afS (by simp[Tj])]
 simp(maxDischargeDepth:=6) only[qA,seval,Tj,repl,strs,nk]
theorem amR:ae pE 120 [] []=some (.sl (strs nn) 10 true,[]):=by
 rw[au afT (by simp[Tl])]
 simp(maxDischargeDepth:=6) only[qA,seval,Tl,repl,strs,nn]
theorem amS:ae pE 121 [] []=some (.sl (strs sq) 3 true,[]):=by
 rw[au afU (by simp[Tm])]
 simp(maxDischargeDepth:=6) only[qA,seval,Tm,repl,strs,sq]
theorem Pj: ∀(r:List (List Nat)),(∀l∈r,l.length≤100)→(kF r).length≤r.length*101
 | [],_=>by simp[kF]
 |x::m,D=>by
  have h1:=D x List.mem_cons_self
  have h2:=Pj m fun l hl=>D l (List.mem_cons_of_mem _ hl)
  have e:kF (x::m)=x++ [10]++kF m:=by simp[kF]
  rw[e,List.length_append,List.length_append,List.length_singleton,List.length_cons]
  omega
theorem zI(p:Nat→Bool)(l:List (List Nat))(h: ∀x∈l,x.length≤100)(k:Nat):(kF (cY p 0 (l.take k))).length≤k*101:=by
 have h1:=(ee p 0 (l.take k)).length_le
 have h2:=Pj (cY p 0 (l.take k)) fun x hx=>h x (List.mem_of_mem_take ((ee p 0 (l.take k)).subset hx))
 have h3:(l.take k).length≤k:=by rw[List.length_take];omega
 have h4:(cY p 0 (l.take k)).length*101≤k*101:=Nat.mul_le_mul_right _ yv
 omega
theorem Gx: ∀x∈nk,x.length≤100:=xW
theorem Gy: ∀x∈nn,x.length≤100:=xW
theorem ae7: ∀x∈sq,x.length≤100:=xW
theorem tF(a b c:List Nat)(n:Nat)(h:a.length≤20∧b.length≤20∧c.length≤20):(([a,b,c]:List (List Nat)).getD n []).length≤20:=by
 match n with
 |0=>exact h.1
 |1=>exact h.2.1
 |2=>exact h.2.2
 |n+3=>simp
section
variable(xs:List Int)(la:T)(hl:IsSl la xs.length (ints xs))
include hl
theorem aEC(I:List Nat)(Z:I.length≤5000)(fr:Fr)(lh:aD ah)(sh:List ah)(h0:aa fr 0=la)(h3:aa fr 3= .s I)(h4:aa fr 4= .sl (strs nk) 18 true)(h5:aa fr 5= .i .i64 0):
  Lp pE 119 sO fr lh sh (.ext 0) fun f l s=>s=sh∧l=lh∧aa f 3= .s (I++kF (cY (zH (bJ xs)) 0 nk)):=by
 have GY:nk.length=18:=rfl
 have K:IsSl (T.sl (strs nk) 18 true) nk.length (strs nk):= .inr ⟨_,rfl⟩
 have O:=hl.froz
 generalize T.sl (strs nk) 18 true=v at*
 refine cV Hw (fun k f l s=>aa f 5= .i .i64 (k:Int)∧s=sh∧l=lh∧aa f 3= .s (I++kF (cY (zH (bJ xs)) 0 (nk.take k)))) 18 ⟨h5,rfl,rfl,by rw[h3];simp[cY,kF]⟩ ?_ ?_
 ·rintro k f _ _ hk J ⟨r,rfl,rfl,F⟩
  have H:(k:Int)<18:=yv
  have U:=aG (k:=k) yv
  have V:=jm la xs hl (7+k) yv
  have W:wr .i64 (7+(k:Int))=((7+k:Nat):Int):=by rw[bj yv];omega
  have hn:=qO xs (7+k)
  have X:(bJ xs (7+k)).tmod 4=bJ xs (7+k)%4:=ep hn
  obtain⟨q,N⟩:=vX K k yv
  have D:=K.lenI
  rw[GY]at D
  rw[rU _ _ k yv]
  have hp:zH (bJ xs) k=decide (bJ xs (7+k)%4=0):=rfl
  rw[hp]
  have b1:=zI (zH (bJ xs)) nk Gx k
  have b2:=Gx nk[k] (List.getElem_mem yv)
  generalize cY (zH (bJ xs)) 0 (nk.take k)=S at*
  generalize nk[k]=R at*
  by_cases Y:bJ xs (7+k)%4=0
  ·simp(maxDischargeDepth:=6) only[qA,seval,gd,sO,J,h0,h4,r,F,D,H,U,V,W,X,N,O,Y,nq]
   simp[vW,Gw,List.append_assoc]
   exact⟨fun _ h=>absurd h yv,fun h=>absurd h yv⟩
  ·simp(maxDischargeDepth:=6) only[qA,seval,gd,sO,J,h0,h4,r,F,D,H,U,V,W,X,O,Y,nq]
 ·rintro f _ _ J ⟨r,rfl,rfl,F⟩
  have D:=K.lenI
  rw[GY]at D
  have ht:nk.take 18=nk:=rfl
  rw[ht]at F
  have r:aa f 5= .i .i64 18:=r
  simp only[qA,seval,gd,sO,J,h4,r,D,Int.lt_irrefl]
  exact F
theorem aED(I:List Nat)(Z:I.length≤5000)(fr:Fr)(lh:aD ah)(sh:List ah)(h0:aa fr 0=la)(h3:aa fr 3= .s I)(h4:aa fr 6= .sl (strs nn) 10 true)(h5:aa fr 7= .i .i64 0):
  Lp pE 119 sN fr lh sh (.ext 2) fun f l s=>s=sh∧l=lh∧aa f 3= .s (I++kF (cY (Gv (bJ xs)) 0 nn)):=by
 have GY:nn.length=10:=rfl
 have K:IsSl (T.sl (strs nn) 10 true) nn.length (strs nn):= .inr ⟨_,rfl⟩
 have O:=hl.froz
 generalize T.sl (strs nn) 10 true=v at*
 refine cV Hv (fun k f l s=>aa f 7= .i .i64 (k:Int)∧s=sh∧l=lh∧aa f 3= .s (I++kF (cY (Gv (bJ xs)) 0 (nn.take k)))) 10 ⟨h5,rfl,rfl,by rw[h3];simp[cY,kF]⟩ ?_ ?_
 ·rintro k f _ _ hk J ⟨r,rfl,rfl,F⟩
  have H:(k:Int)<10:=yv
  have U:=aG (k:=k) yv
  have V:=jm la xs hl (30+k) yv
  have W:wr .i64 (30+(k:Int))=((30+k:Nat):Int):=by rw[bj yv];omega
  have hn:=qO xs (30+k)
  have X:(bJ xs (30+k)).tmod 3=bJ xs (30+k)%3:=ep hn
  obtain⟨q,N⟩:=vX K k yv
  have D:=K.lenI
  rw[GY]at D
  rw[rU _ _ k yv]
  have hp:Gv (bJ xs) k=decide (bJ xs (30+k)%3=0):=rfl
  rw[hp]
  have b1:=zI (Gv (bJ xs)) nn Gy k
  have b2:=Gy nn[k] (List.getElem_mem yv)
  generalize cY (Gv (bJ xs)) 0 (nn.take k)=S at*
  generalize nn[k]=R at*
  by_cases Y:bJ xs (30+k)%3=0
  ·simp(maxDischargeDepth:=6) only[qA,seval,gd,sN,J,h0,h4,r,F,D,H,U,V,W,X,N,O,Y,nq]
   simp[vW,Gw,List.append_assoc]
   exact⟨fun _ h=>absurd h yv,fun h=>absurd h yv⟩
  ·simp(maxDischargeDepth:=6) only[qA,seval,gd,sN,J,h0,h4,r,F,D,H,U,V,W,X,O,Y,nq]
 ·rintro f _ _ J ⟨r,rfl,rfl,F⟩
  have D:=K.lenI
  rw[GY]at D
  have ht:nn.take 10=nn:=rfl
  rw[ht]at F
  have r:aa f 7= .i .i64 10:=r
  simp only[qA,seval,gd,sN,J,h4,r,D,Int.lt_irrefl]
  exact F
theorem ae8:ae pE 65 [la] []=some (.s (kF (Si (bJ xs))),[]):=by
 have h0:ae pE 23 [la,.i .i64 0] []=some (.i .i64 (bJ xs 0),[]):=jm la xs hl 0 yv
 have h1:ae pE 23 [la,.i .i64 1] []=some (.i .i64 (bJ xs 1),[]):=jm la xs hl 1 yv
 have h2:ae pE 23 [la,.i .i64 2] []=some (.i .i64 (bJ xs 2),[]):=jm la xs hl 2 yv
 have h3:ae pE 23 [la,.i .i64 3] []=some (.i .i64 (bJ xs 3),[]):=jm la xs hl 3 yv
 have h4:ae pE 23 [la,.i .i64 4] []=some (.i .i64 (bJ xs 4),[]):=jm la xs hl 4 yv
 have h5:ae pE 23 [la,.i .i64 5] []=some (.i .i64 (bJ xs 5),[]):=jm la xs hl 5 yv
 have h6:ae pE 23 [la,.i .i64 6] []=some (.i .i64 (bJ xs 6),[]):=jm la xs hl 6 yv
 have Yf:ae pE 23 [la,.i .i64 41] []=some (.i .i64 (bJ xs 41),[]):=jm la xs hl 41 yv
 have U:=fun i=>qO xs i
 have ht:=fun i=>ep (b:=3) (U i)
 have r:=ep (b:=4) (U 41)
 obtain⟨q0,V⟩:=BX [48,58,48,48] [48,58,52,53] [49,58,48,48] (bJ xs 0%3) yv yv
 change ∀kk,iaV _ _ 1=some (.vp (.s (BE (bJ xs 0%3))::q0))at V
 obtain⟨q1,e1⟩:=BX [48,58,48,48] [48,58,49,53] [48,58,51,48] (bJ xs 1%3) yv yv
 change ∀kk,iaV _ _ 1=some (.vp (.s (EV (bJ xs 1%3))::q1))at e1
 obtain⟨q2,e2⟩:=BX [48,58,51,48] [48,58,52,48] [48,58,49,53] (bJ xs 2%3) yv yv
 change ∀kk,iaV _ _ 1=some (.vp (.s (wS (bJ xs 2%3))::q2))at e2
 obtain⟨q3,e3⟩:=BX [51,58,48,48] [50,52,58,48,48] [49,58,48,48] (bJ xs 3%3) yv yv
 change ∀kk,iaV _ _ 1=some (.vp (.s (SC (bJ xs 3%3))::q3))at e3
 obtain⟨q4,e4⟩:=BX [50,52,58,48,48] [49,54,58,48,48] [51,54,58,48,48] (bJ xs 4%3) yv yv
 change ∀kk,iaV _ _ 1=some (.vp (.s (hv4 (bJ xs 4%3))::q4))at e4
 obtain⟨q5,e5⟩:=BX [64,50,50,58,48,48,32,116,111,32,64,48,54,58,48,48] [64,48,48,58,48,48,32,116,111,32,64,48,53,58,48,48] [64,49,50,58,48,48,32,116,111,32,64,49,50,58,48,48] (bJ xs 5%3) yv yv
 change ∀kk,iaV _ _ 1=some (.vp (.s (Sh (bJ xs 5%3))::q5))at e5
 obtain⟨q6,W⟩:=BX [50] [55,32,47,32,50] [45,40,49,41] (bJ xs 6%3) yv yv
 change ∀kk,iaV _ _ 1=some (.vp (.s (SV (bJ xs 6%3))::q6))at W
 have X:=hl.froz
 have Y:=amQ
 have oi:=amR
 have Cg:=amS
 have Rz:=fun Z hs fr lh sh=>aEC xs la hl Z hs fr lh sh
 have Jv:=fun Z hs fr lh sh=>aED xs la hl Z hs fr lh sh
 have y0:(BE (bJ xs 0%3)).length≤20:=tF _ _ _ _ xW
 have y1:(EV (bJ xs 1%3)).length≤20:=tF _ _ _ _ xW
 have y2:(wS (bJ xs 2%3)).length≤20:=tF _ _ _ _ xW
 have y3:(SC (bJ xs 3%3)).length≤20:=tF _ _ _ _ xW
 have y4:(hv4 (bJ xs 4%3)).length≤20:=tF _ _ _ _ xW
 have y5:(Sh (bJ xs 5%3)).length≤20:=tF _ _ _ _ xW
 have y6:(SV (bJ xs 6%3)).length≤20:=tF _ _ _ _ xW
 have hcv:IsSl (T.sl (strs sq) 3 true) sq.length (strs sq):= .inr ⟨_,rfl⟩
 have axV: ∀h:bJ xs 41%4<3,∃q,∀kk,iaV (T.sl (strs sq) 3 true) (.i kk (bJ xs 41%4)) 1=some (.vp (.s (sq.getD (bJ xs 41%4).toNat [])::q)):=fun h=>by
  have hk:(bJ xs 41%4).toNat<sq.length:=by show(bJ xs 41%4).toNat<3;omega
  obtain⟨q,e⟩:=vX hcv (bJ xs 41%4).toNat hk
  have h0:=U 41
  rw[Int.toNat_of_nonneg yv]at e
  refine⟨q,fun kk=> ?_⟩
  rw[e,List.getD_eq_getElem?_getD,List.getElem?_eq_getElem hk]
  rfl
 unfold Si crD
 rw[vW,vW,vW]
 generalize T.sl (strs sq) 3 true=crT at*
 generalize aJy:T.sl (strs nk) 18 true=qP at*
 generalize aJz:T.sl (strs nn) 10 true=MD at*
 generalize F:BE (bJ xs 0%3)=x0 at*
 generalize KB:EV (bJ xs 1%3)=x1 at*
 generalize H:wS (bJ xs 2%3)=x2 at*
 generalize I:SC (bJ xs 3%3)=x3 at*
 generalize J:hv4 (bJ xs 4%3)=x4 at*
 generalize K:Sh (bJ xs 5%3)=x5 at*
 generalize N:SV (bJ xs 6%3)=x6 at*
 have hHl:(kF (hdB (bJ xs))).length≤1000:=by
  simp only[kF,hdB,F,KB,H,I,J,K,N,List.flatMap_cons,List.flatMap_nil,List.length_append,List.length_cons,List.length_nil]
  omega
 have hH:=Eq.refl (kF (hdB (bJ xs)))
 conv at hH=>
  rhs
  simp only[kF,hdB,F,KB,H,I,J,K,N,List.flatMap_cons,List.flatMap_nil,List.append_nil,List.append_assoc,List.cons_append,List.nil_append]
 have GY:(kF (cY (zH (bJ xs)) 0 nk)).length≤18*101:=zI (zH (bJ xs)) nk Gx 18
 have hcl:(kF (cY (Gv (bJ xs)) 0 nn)).length≤10*101:=zI (Gv (bJ xs)) nn Gy 10
 generalize kF (cY (zH (bJ xs)) 0 nk)=XR at*
 generalize kF (cY (Gv (bJ xs)) 0 nn)=XC at*
 generalize kF (hdB (bJ xs))=HB at*
 rw[au asU (by simp[c65])]
 simp(maxDischargeDepth:=6) only[qA,bp,aH,seval,c65,repl,h0,h1,h2,h3,h4,h5,h6,ht,V,e1,e2,e3,e4,e5,W,X,Y,nq,aAC,ats]
 repeat refine Eq.trans (if_pos (by first|omega|(simp only[List.length_append,List.length_cons,List.length_nil];omega))) ?_
 generalize O:DC pE 119 (.loop sO) _=D
 obtain⟨f2,l2,s2,rfl,⟨rfl,rfl,g3⟩,lD⟩:=yq Hw O (Rz HB yv _ _ _ wW (by rw[hH];simp only[qA,seval,List.append_assoc]) wW wW)
 have p0:aa f2 0=la:=by rw[lD 0 xW];simp only[qA,seval]
 clear lD O hH V e1 e2 e3 e4 e5 W
 simp(maxDischargeDepth:=6) only[qA,seval,oi,att]
 generalize O:DC pE 119 (.loop sN) _=D
 obtain⟨f3,l3,s3,rfl,⟨rfl,rfl,k3⟩,Gm⟩:=yq Hv O (Jv (HB++XR) (by rw[List.length_append];omega) _ _ _ (by simp only[qA,seval,p0]) (by simp only[qA,seval,g3]) wW wW)
 have p1:aa f3 0=la:=by rw[Gm 0 xW];simp only[qA,seval,p0]
 clear Gm O Jv Rz
 by_cases h:bJ xs 41%4<3
 ·obtain⟨q,e⟩:=axV h
  have b1:(sq.getD (bJ xs 41%4).toNat []).length≤20*5:=by
   have hk:(bJ xs 41%4).toNat<sq.length:=by show(bJ xs 41%4).toNat<3;omega
   rw[List.getD_eq_getElem?_getD,List.getElem?_eq_getElem hk]
   exact ae7 _ (List.getElem_mem hk)
  rw[if_pos h,Gw]
  generalize sq.getD (bJ xs 41%4).toNat []=CR at*
  have hA:(HB++XR++XC).length≤10000:=by simp only[List.length_append];omega
  generalize HB++XR++XC=A at*
  simp(maxDischargeDepth:=6) only[qA,seval,p1,k3,Yf,r,X,h,Cg,e,nq,atu]
  repeat refine Eq.trans (if_pos (by first|omega|(simp only[List.length_append];omega))) ?_
  simp only[List.append_assoc]
 ·rw[if_neg h]
  have ht0:kF []= []:=rfl
  rw[ht0]
  simp(maxDischargeDepth:=6) only[qA,seval,p1,k3,Yf,r,X,h,nq]
end
theorem BY(f:Nat→Int)(k:Nat):ints (atR f (k+1))=ints (atR f k)++ [.i .i64 (f k)]:=by simp[atR,ints,List.range_succ]
section
variable(xs:List Int)(la:T)(hl:IsSl la xs.length (ints xs))
include hl
theorem aEE(fr:Fr)(lh:aD ah)(sh:List ah)(h0:aa fr 0=la)(h6:aa fr 6= .nilsl)(h7:aa fr 7= .nilsl)(h8:aa fr 8= .nilsl)(h9:aa fr 9= .i .i64 0):
  Lp pE 44 C6 fr lh sh (.ext 0) fun f q s=>s=sh∧bg q (aa f 6) 20 1 60 (ints (atR (bJ xs) 60))∧bg q (aa f 7) 27 1 60 (ints (atR (fun i=>bJ xs (60+i)) 60))∧bg q (aa f 8) 34 1 60 (ints (atR (fun i=>bJ xs (120+i)) 60))∧ab q 2=ab lh 2∧ab q 3=ab lh 3:=by
 refine cV MZ (fun k f q s=>aa f 9= .i .i64 (k:Int)∧s=sh∧bg q (aa f 6) 20 1 k (ints (atR (bJ xs) k))∧bg q (aa f 7) 27 1 k (ints (atR (fun i=>bJ xs (60+i)) k))∧bg q (aa f 8) 34 1 k (ints (atR (fun i=>bJ xs (120+i)) k))∧ab q 2=ab lh 2∧ab q 3=ab lh 3) 60 ⟨h9,rfl,by rw[h6];exact bg.nil,by rw[h7];exact bg.nil,by rw[h8];exact bg.nil,rfl,rfl⟩ ?_ ?_
 ·rintro k f q _ hk Z ⟨D,rfl,I,J,K,N,O⟩
  have U:(k:Int)<60:=yv
  have hw:=aG (k:=k) yv
  have e1:=jm la xs hl k yv
  have e2:=jm la xs hl (60+k) yv
  have e3:=jm la xs hl (120+k) yv
  have w2:wr .i64 (60+(k:Int))=((60+k:Nat):Int):=by rw[bj yv];omega
  have w3:wr .i64 (120+(k:Int))=((120+k:Nat):Int):=by rw[bj yv];omega
  have hz:=hl.froz
  have pA:=fun(x:T) (F:aD ah) (r:List ah) (e:ab F 20=ab q 20)=>dO (sh:=r) (I.congr e) [x] rfl (bytes:=8) (by unfold roomy;omega) true
  have pB:=fun(x:T) (F:aD ah) (r:List ah) (e:ab F 27=ab q 27)=>dO (sh:=r) (J.congr e) [x] rfl (bytes:=8) (by unfold roomy;omega) true
  have pC:=fun(x:T) (F:aD ah) (r:List ah) (e:ab F 34=ab q 34)=>dO (sh:=r) (K.congr e) [x] rfl (bytes:=8) (by unfold roomy;omega) true
  have nA:=I.notS
  have nB:=J.notS
  have nC:=K.notS
  rw[BY,BY,BY]
  generalize SV:aa f 6=v6 at*
  generalize V:aa f 7=v7 at*
  generalize W:aa f 8=v8 at*
  have X:=fun x r=>pA x q r rfl
  have gA:=fun x r j H=>(X x r).2.2 j H
  have kB:=fun x y r=>pB y (Rd q r 20 1 8 v6 (.sl [x] 1 true)) r (gA x r 27 xW)
  have gB:=fun x y r j H=>(kB x y r).2.2 j H
  have Y:=fun x y z r=>pC z (Rd (Rd q r 20 1 8 v6 (.sl [x] 1 true)) r 27 1 8 v7 (.sl [y] 1 true)) r ((gB x y r 34 xW).trans (gA x r 34 xW))
  have gC:=fun x y z r j H=>(Y x y z r).2.2 j H
  have rA:=fun x r=>(X x r).1
  have rB:=fun x y r=>(kB x y r).1
  have rC:=fun x y z r=>(Y x y z r).1
  simp(maxDischargeDepth:=6) only[qA,seval,gd,repl,C6,Z,h0,D,SV,V,W,U,hw,e1,e2,e3,w2,w3,hz,rA,rB,rC,nA,nB,nC,nq]
  refine⟨((X _ _).2.1.congr ?_),((kB _ _ _).2.1.congr ?_),(Y _ _ _ _).2.1, ?_, ?_⟩
  ·exact(gC _ _ _ _ 20 xW).trans (gB _ _ _ 20 xW)
  ·exact gC _ _ _ _ 27 xW
  ·exact((gC _ _ _ _ 2 xW).trans (gB _ _ _ 2 xW)).trans ((gA _ _ 2 xW).trans N)
  ·exact((gC _ _ _ _ 3 xW).trans (gB _ _ _ 3 xW)).trans ((gA _ _ 3 xW).trans O)
 ·rintro f q _ Z ⟨D,rfl,I,J,K,N,O⟩
  have D:aa f 9= .i .i64 60:=D
  simp only[qA,seval,gd,C6,D,Int.lt_irrefl]
  exact⟨I,J,K,N,O⟩
end
def isLt(b:Nat):Bool:=(97≤b&&b≤122)||b==46
def ZV(b:Nat):Bool:=48≤b&&b≤57
def amT(l:List Nat):Nat:=l.foldl (fun n b=>n*10+(b-48)) 0
def S0(k:Int)(s:List Nat)(n p:Nat):List T:= [.i .i64 k,.s s,.i .i64 n,.i .i64 p]
def ME:Nat→Nat→List Nat→List T
 |n+1,p,b::r=>
  if b=32 then ME n (p+1) r
  else if isLt b then S0 1 ((b::r).span isLt).1 0 p++ME n (p+((b::r).span isLt).1.length) ((b::r).span isLt).2
  else if ZV b||b==64 then
   let o:=if b=64 then 1 else 0
   let w:=((b::r).drop o).span ZV
   match w.2 with
   |58::z=>S0 (3+o) [] (amT w.1*60+amT (z.span ZV).1) p++ME n (p+o+w.1.length+1+(z.span ZV).1.length) (z.span ZV).2
   |z=>S0 2 [] (amT w.1) p++ME n (p+w.1.length) z
  else match b,r with
   |60,61::z=>S0 5 [60,61] 0 p++ME n (p+2) z
   |_,_=>S0 5 [b] 0 p++ME n (p+1) r
 |_,_,_=> []
def tok(l:List Nat):List T:=ME l.length 0 l
def sr(k:Nat)(l:List Nat):T:= .sl ((tok l).drop (k*4)) ((tok l).length/4-k) false
def ScK(l:List Nat):Prop:= ∃s,ae pE 116 [.s l] []=some (.tup [sr 0 l,.i .i64 0,.i .i64 0],s)
def PaK(k:Nat)(p:List Nat×Ex):Prop:= ∃s,ae pE 196 [sr k p.1] []=some (.tup [.agg (jJ p.2),.i .i64 (-1)],s)
def kg:Nat→Int→List Nat
 |0,j=> [114,101,112,111,114,116,32]++BE j
 |1,j=> [114,101,108,101,97,115,101,32]++EV j
 |2,j=> [99,111,110,110,101,99,116,32]++wS j
 |3,j=> [115,105,116,32]++SC j
 |4,j=> [108,97,121,111,118,101,114,32]++hv4 j
 |5,j=> [110,105,103,104,116,32]++Sh j
 |_,j=> [99,111,110,115,116,32,115,104,105,102,116,115,32,105,115,32]++SV j
def hls:List (List Nat):=(List.range 7).flatMap fun i=> [kg i 0,kg i 1,kg i 2]
def su(r:List T)(iG:T)(sn:List T):List ah:= [⟨1,.cells (r++ [iG,.nilsl,.nilsl,.nilsl,.nilsl,.nilsl,.i .i64 0]) 0 true⟩,⟨1,.cells sn 0 true⟩]
def ruX:List (List Nat×Ex):=nk.zip (pH.map Ru.x)
def koX:List (List Nat×Ex):=nn.zip (sE.map Co.x)++sq.zip CQ++(List.range 3).map fun(j:Nat)=>(kg 6 j,pV j)
end Go.Proofs.YtnkgnjecmfkcfaaGreat
