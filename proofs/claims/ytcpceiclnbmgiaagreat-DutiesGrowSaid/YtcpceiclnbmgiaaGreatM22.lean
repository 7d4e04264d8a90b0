/- Walks of functions of the program and of the reference, and their plain laws, part 22. Conditions: the theorems' own. -/
import Derived.Test.YtcpceiclnbmgiaaGreatM21
import Derived.KernelRfl
set_option maxRecDepth 100000
set_option linter.unusedSimpArgs false
set_option linter.unusedVariables false
set_option maxHeartbeats 16000000
namespace Go.Proofs.YtcpceiclnbmgiaaGreat
open Go Go.Ev
def atR(f:Nat→Int)(n:Nat):List Int:=(List.range n).map f
theorem Py(f:Nat→Int)(n:Nat):(atR f n).length=n:=by simp[atR]
theorem Yd(o:Nat→Int)(k:Nat):HK o (k+1)=if 0<o k%8 then HK o k++ [k]else HK o k:=by
 unfold HK
 rw[List.range_succ,List.filter_append]
 by_cases h:0<o k%8 <;> simp[h]
theorem acE(o:Nat→Int)(n:Nat):(HK o n).length≤n:=by unfold HK;exact Nat.le_trans (List.length_filter_le _ _) (by simp)
section
variable(xs:List Int)(l:T)(hl:IsSl l xs.length (ints xs))(zT aT fT:T)(N:Nat)(fc:List T)(hf:IsSl fT N fc)(hN:N≤1000)
include hl hf hN
theorem azj(fr:Fr)(lh:gW b8)(sh:List b8)(V:an fr 1=l)(K:an fr 2= .ptr .L 2 1 0)(h5:an fr 5= .nilsl)(h6:an fr 6= .i .i64 0)(o2:b7 lh 2=⟨1,.cells [zT,aT,fT] 0 true⟩):
  Lp pE 24 wa fr lh sh (.ext 0) fun f q s=>s=sh∧jG q (an f 5) 22 1 (HK (ji xs) N).length (ints ((HK (ji xs) N).map Int.ofNat))∧b7 q 2=⟨1,.cells [zT,aT,fT] 0 true⟩:=by
 have O:=hf.lenI
 refine kK Is (fun k f q s=>an f 6= .i .i64 (k:Int)∧s=sh∧jG q (an f 5) 22 1 (HK (ji xs) k).length (ints ((HK (ji xs) k).map Int.ofNat))∧b7 q 2=⟨1,.cells [zT,aT,fT] 0 true⟩) N ⟨h6,rfl,by rw[h5];exact jG.nil,o2⟩ ?_ ?_
 ·rintro k f q _ hk F ⟨H,rfl,D,Ip⟩
  have W:(k:Int)<N:=by omega
  have X:=iJ (k:=k) (by omega)
  have Y:=om l xs hl k (by omega)
  have I:=Ip
  have Z:=hl.froz
  have hlen:=acE (ji xs) k
  have U:=uL xs k
  have J:=fun(iI:gW b8) (iE:List b8) (e:b7 iI 22=b7 q 22)=>pt (sh:=iE) (D.congr e) [.i .i64 (k:Int)] rfl (bytes:=8) (by unfold roomy;omega) true
  have F7:=D.notS
  have ht:(ji xs k).tmod 8=ji xs k%8:=lb U
  rw[Yd]
  generalize HK (ji xs) k=r at*
  generalize RZ:an f 5=v5 at D J F7
  by_cases hb:0<ji xs k%8
  ·simp(maxDischargeDepth:=6) only[qA,seval,gd,wa,F,V,K,H,I,O,W,X,Y,ht,hb,rQ,Z,RZ,J,F7,repl]
   obtain⟨_,k1,k2⟩:=J q _ rfl
   rw[show ints ((r++ [k]).map Int.ofNat)=ints (r.map Int.ofNat)++ [.i .i64 (k:Int)]by simp[ints],show(r++ [k]).length=r.length+1 by simp]
   exact by first|exact k1|exact⟨k1,(k2 2 (by decide)).trans Ip⟩
  ·simp(maxDischargeDepth:=6) only[qA,seval,gd,wa,F,V,K,H,I,O,W,X,Y,ht,hb,rQ,Z,RZ,J,F7,repl]
   exact D
 ·rintro f q _ F ⟨H,rfl,D,Ip⟩
  have I:=Ip
  simp only[qA,seval,gd,wa,F,K,I,H,O,Int.lt_irrefl]
  exact D
theorem ajv(i:froz1 zT=true∧froz1 aT=true∧froz1 fT=true):be pE 22 [.agg [zT,aT,fT],l] []=some (mQ (HK (ji xs) N).length (ints ((HK (ji xs) N).map Int.ofNat)),[]):=by
 have r:=fun fr lh sh=>azj xs l hl zT aT fT N fc hf hN fr lh sh
 obtain⟨F,H,I⟩:=i
 rw[gQ agc (by simp[c22])]
 simp(maxDischargeDepth:=6) only[qA,seval,c22,F,H,I]
 generalize J:DC pE 24 (.loop wa) _=D
 obtain⟨O,U,V,rfl,⟨rfl,K,Ip⟩,W⟩:=E7 Is J (r _ _ _ (by simp only[qA,seval]) (by simp only[qA,seval]) (by simp only[qA,seval]) (by simp only[qA,seval]) (by simp only[qA,seval]))
 have e:=K.fzV (sh:=([]:List b8)) (keep:=false)
 simp(maxDischargeDepth:=6) only[qA,EW,seval,e]
end
def yR:List (List Nat):= [[100,117,116,121,32,114,117,108,101,32,115,105,122,101,32,105,115,32,108,101,103,115,32,43,32,104,101,97,100,115,32,60,61,32,51],
 [100,117,116,121,32,114,117,108,101,32,115,112,97,110,32,105,115,32,115,112,97,110,32,60,61,32,49,51,58,48,48,32,45,32,48,58,51,48,32,42,32,40,108,101,103,115,32,45,32,49,41],
 [100,117,116,121,32,114,117,108,101,32,110,105,103,104,116,32,105,115,32,115,116,97,114,116,32,105,110,32,64,50,50,58,48,48,32,116,111,32,64,48,53,58,48,48,32,105,109,112,108,105,101,115,32,115,112,97,110,32,60,61,32,56,58,48,48],
 [100,117,116,121,32,114,117,108,101,32,98,108,111,99,107,32,105,115,32,98,108,111,99,107,32,60,61,32,54,58,48,48],
 [100,117,116,121,32,114,117,108,101,32,116,121,112,101,115,32,105,115,32,116,121,112,101,115,32,60,61,32,49],
 [100,117,116,121,32,114,117,108,101,32,111,100,100,32,105,115,32,108,101,103,115,32,61,32,49,32,111,114,32,108,101,103,115,32,61,32,51,32,111,114,32,104,101,97,100,115,32,61,32,49],
 [100,117,116,121,32,114,117,108,101,32,103,97,112,32,105,115,32,108,111,110,103,101,115,116,32,60,61,32,50,58,48,48,32,111,114,32,54,58,48,48,32,60,61,32,115,112,97,110],
 [114,101,115,116,32,114,117,108,101,32,108,101,97,115,116,32,105,115,32,56,58,48,48,32,60,61,32,114,101,115,116],
 [114,101,115,116,32,114,117,108,101,32,98,101,102,111,114,101,32,105,115,32,109,97,120,40,54,58,48,48,44,32,98,101,102,111,114,101,46,115,112,97,110,41,32,60,61,32,114,101,115,116],
 [114,101,115,116,32,114,117,108,101,32,110,105,103,104,116,115,32,105,115,32,110,105,103,104,116,115,32,60,61,32,49,32,111,114,32,104,111,109,101],
 [114,101,115,116,32,114,117,108,101,32,104,111,109,101,32,105,115,32,104,111,109,101,32,105,109,112,108,105,101,115,32,114,101,115,116,32,60,61,32,50,48,58,48,48],
 [114,101,115,116,32,114,117,108,101,32,97,102,116,101,114,32,105,115,32,97,102,116,101,114,46,115,116,97,114,116,32,105,110,32,64,48,54,58,48,48,32,116,111,32,64,50,48,58,48,48,32,111,114,32,57,58,48,48,32,60,61,32,114,101,115,116],
 [112,97,105,114,105,110,103,32,114,117,108,101,32,100,97,121,115,32,105,115,32,100,97,121,115,32,60,61,32,51],
 [112,97,105,114,105,110,103,32,114,117,108,101,32,100,117,116,105,101,115,32,105,115,32,100,117,116,105,101,115,32,60,61,32,51],
 [112,97,105,114,105,110,103,32,114,117,108,101,32,98,108,111,99,107,32,105,115,32,98,108,111,99,107,32,60,61,32,57,58,48,48],
 [112,97,105,114,105,110,103,32,114,117,108,101,32,99,114,101,100,105,116,32,105,115,32,99,114,101,100,105,116,32,60,61,32,49,50,58,48,48],
 [112,97,105,114,105,110,103,32,114,117,108,101,32,115,112,97,110,32,105,115,32,115,112,97,110,32,60,61,32,53,48,58,48,48],
 [112,97,105,114,105,110,103,32,114,117,108,101,32,108,101,103,115,32,105,115,32,50,32,60,61,32,108,101,103,115]]
def yS:List (List Nat):= [[100,117,116,121,32,99,111,115,116,32,105,115,32,49,48,48,32,43,32,49,48,32,42,32,108,101,103,115],
 [100,117,116,121,32,99,111,115,116,32,105,115,32,40,115,112,97,110,32,45,32,98,108,111,99,107,41,32,47,32,48,58,49,53],
 [100,117,116,121,32,99,111,115,116,32,105,115,32,105,102,32,110,105,103,104,116,32,60,61,32,50,58,48,48,32,116,104,101,110,32,48,32,101,108,115,101,32,51,48],
 [114,101,115,116,32,99,111,115,116,32,105,115,32,105,102,32,104,111,109,101,32,116,104,101,110,32,48,32,101,108,115,101,32,53,48],
 [114,101,115,116,32,99,111,115,116,32,105,115,32,114,101,115,116,32,47,32,49,58,48,48],
 [112,97,105,114,105,110,103,32,99,111,115,116,32,105,115,32,50,48,32,42,32,100,97,121,115],
 [112,97,105,114,105,110,103,32,99,111,115,116,32,105,115,32,109,97,120,40,48,58,48,48,44,32,99,114,101,100,105,116,32,45,32,56,58,48,48,41,32,47,32,48,58,51,48],
 [100,117,116,121,32,99,111,115,116,32,105,115,32,45,40,53,32,42,32,104,101,97,100,115,41],
 [100,117,116,121,32,99,111,115,116,32,105,115,32,116,121,112,101,115,32,42,32,116,121,112,101,115],
 [112,97,105,114,105,110,103,32,99,111,115,116,32,105,115,32,45,40,51,32,42,32,108,101,103,115,41,32,43,32,115,104,105,102,116,115]]
def Lv:List (List Nat):= [[100,117,116,121,32,99,114,101,100,105,116,32,105,115,32,109,97,120,40,98,108,111,99,107,44,32,52,58,48,48,41],
 [100,117,116,121,32,99,114,101,100,105,116,32,105,115,32,115,112,97,110,32,47,32,50],
 [100,117,116,121,32,99,114,101,100,105,116,32,105,115,32,98,108,111,99,107,32,43,32,48,58,50,48,32,42,32,108,101,103,115]]
def DJ(r:Int):List Nat:=([[48,58,48,48],[48,58,52,53],[49,58,48,48]]:List (List Nat)).getD r.toNat []
def Uf(r:Int):List Nat:=([[48,58,48,48],[48,58,49,53],[48,58,51,48]]:List (List Nat)).getD r.toNat []
def LH(r:Int):List Nat:=([[48,58,51,48],[48,58,52,48],[48,58,49,53]]:List (List Nat)).getD r.toNat []
def Sn(r:Int):List Nat:=([[51,58,48,48],[50,52,58,48,48],[49,58,48,48]]:List (List Nat)).getD r.toNat []
def hv4(r:Int):List Nat:=([[50,52,58,48,48],[49,54,58,48,48],[51,54,58,48,48]]:List (List Nat)).getD r.toNat []
def RZ(r:Int):List Nat:=([[64,50,50,58,48,48,32,116,111,32,64,48,54,58,48,48],[64,48,48,58,48,48,32,116,111,32,64,48,53,58,48,48],[64,49,50,58,48,48,32,116,111,32,64,49,50,58,48,48]]:List (List Nat)).getD r.toNat []
def SD(r:Int):List Nat:=([[50],[55,32,47,32,50],[45,40,49,41]]:List (List Nat)).getD r.toNat []
def Zm(b:Nat→Int):List (List Nat):= [[114,101,112,111,114,116,32]++DJ (b 0%3),[114,101,108,101,97,115,101,32]++Uf (b 1%3),[99,111,110,110,101,99,116,32]++LH (b 2%3),[115,105,116,32]++Sn (b 3%3),[108,97,121,111,118,101,114,32]++hv4 (b 4%3),[110,105,103,104,116,32]++RZ (b 5%3),[99,111,110,115,116,32,115,104,105,102,116,115,32,105,115,32]++SD (b 6%3)]
def crD(b:Nat→Int):List (List Nat):=if b 41%4<3 then [Lv.getD (b 41%4).toNat []]else []
def Ca(b:Nat→Int)(i:Nat):Bool:=decide (b (7+i)%4=0)
def HM(b:Nat→Int)(i:Nat):Bool:=decide (b (30+i)%3=0)
def R5(b:Nat→Int):List (List Nat):=Zm b++j0 (Ca b) 0 yR++j0 (HM b) 0 yS++crD b
theorem KT{α:Type}(p:Nat→Bool): ∀(i:Nat) (a b:List α),j0 p i (a++b)=j0 p i a++j0 p (i+a.length) b
 |_,[],b=>rfl
 |i,x::a,b=>by
  rw[List.cons_append,j0,j0,KT p (i+1) a b,List.length_cons,show i+1+a.length=i+(a.length+1)by omega]
  split <;> simp
theorem vu{α:Type}(p:Nat→Bool)(l:List α)(k:Nat)(hk:k<l.length):j0 p 0 (l.take (k+1))=j0 p 0 (l.take k)++if p k=true then [l[k]]else []:=by
 rw[List.take_succ_eq_append_getElem hk,KT,List.length_take,Nat.min_eq_left (by omega),Nat.zero_add,j0]
 rfl
theorem yU(a b:List (List Nat)):pN (a++b)=pN a++pN b:=by unfold pN;rw[List.flatMap_append]
theorem HN(a:List Nat):pN [a]=a++ [10]:=by simp[pN]
theorem D8(a b c:List Nat)(r:Int)(D:0≤r)(F:r<3): ∃q,∀kk,lH (.sl [.s a,.s b,.s c] 3 true) (.i kk r) 1=some (.vp (.s (([a,b,c]:List (List Nat)).getD r.toNat [])::q)):=by
 have:r=0∨r=1∨r=2:=by omega
 rcases this with rfl|rfl|rfl <;> exact⟨_,fun _=>rfl⟩
theorem yV{v:T}{L:List (List Nat)}(r:IsSl v L.length (strs L))(k:Nat)(hk:k<L.length): ∃q,∀kk,lH v (.i kk (k:Int)) 1=some (.vp (.s L[k]::q)):=by
 refine⟨(strs L).drop (k+1),fun kk=> ?_⟩
 rw[r.ia (sz:=1) (by simp[strs]) hk,Nat.mul_one,List.drop_eq_getElem_cons (by simp[strs];exact hk)]
 simp[strs]
theorem ajx:be pE 81 [] []=some (.sl (strs yR) 18 true,[]):=by
 rw[gQ apd (by simp[c81])]
 simp(maxDischargeDepth:=6) only[qA,seval,c81,repl,strs,yR]
theorem ajy:be pE 82 [] []=some (.sl (strs yS) 10 true,[]):=by
 rw[gQ ape (by simp[c82])]
 simp(maxDischargeDepth:=6) only[qA,seval,c82,repl,strs,yS]
theorem ajz:be pE 83 [] []=some (.sl (strs Lv) 3 true,[]):=by
 rw[gQ apg (by simp[c83])]
 simp(maxDischargeDepth:=6) only[qA,seval,c83,repl,strs,Lv]
theorem Pz: ∀(i:List (List Nat)),(∀l∈i,l.length≤100)→(pN i).length≤i.length*101
 | [],_=>by simp[pN]
 |x::m,r=>by
  have D:=r x List.mem_cons_self
  have F:=Pz m fun l hl=>r l (List.mem_cons_of_mem _ hl)
  have e:pN (x::m)=x++ [10]++pN m:=by simp[pN]
  rw[e,List.length_append,List.length_append,List.length_singleton,List.length_cons]
  omega
theorem Cb(p:Nat→Bool)(l:List (List Nat))(h: ∀x∈l,x.length≤100)(k:Nat):(pN (j0 p 0 (l.take k))).length≤k*101:=by
 have i:=(kW p 0 (l.take k)).length_le
 have r:=Pz (j0 p 0 (l.take k)) fun x hx=>h x (List.mem_of_mem_take ((kW p 0 (l.take k)).subset hx))
 have D:(l.take k).length≤k:=by rw[List.length_take];omega
 have F:(j0 p 0 (l.take k)).length*101≤k*101:=Nat.mul_le_mul_right _ (by omega)
 omega
theorem HO: ∀x∈yR,x.length≤100:=by decide
theorem HQ: ∀x∈yS,x.length≤100:=by decide
theorem acF: ∀x∈Lv,x.length≤100:=by decide
theorem wX(a b c:List Nat)(n:Nat)(h:a.length≤20∧b.length≤20∧c.length≤20):(([a,b,c]:List (List Nat)).getD n []).length≤20:=by
 match n with
 |0=>exact h.1
 |1=>exact h.2.1
 |2=>exact h.2.2
 |n+3=>simp
section
variable(xs:List Int)(la:T)(hl:IsSl la xs.length (ints xs))
include hl
theorem azk(F:List Nat)(hs0:F.length≤5000)(fr:Fr)(lh:gW b8)(sh:List b8)(K:an fr 0=la)(h3:an fr 3= .s F)(I:an fr 4= .sl (strs yR) 18 true)(h5:an fr 5= .i .i64 0):
  Lp pE 119 we fr lh sh (.ext 0) fun f l s=>s=sh∧l=lh∧an f 3= .s (F++pN (j0 (Ca (ji xs)) 0 yR)):=by
 have H9:yR.length=18:=rfl
 have J:IsSl (T.sl (strs yR) 18 true) yR.length (strs yR):= .inr ⟨_,rfl⟩
 have O:=hl.froz
 generalize T.sl (strs yR) 18 true=v at*
 refine kK Ix (fun k f l s=>an f 5= .i .i64 (k:Int)∧s=sh∧l=lh∧an f 3= .s (F++pN (j0 (Ca (ji xs)) 0 (yR.take k)))) 18 ⟨h5,rfl,rfl,by rw[h3];simp[j0,pN]⟩ ?_ ?_
 ·rintro k f _ _ hk H ⟨r,rfl,rfl,g3⟩
  have U:(k:Int)<18:=by omega
  have V:=iJ (k:=k) (by omega)
  have W:=om la xs hl (7+k) (by omega)
  have X:wr .i64 (7+(k:Int))=((7+k:Nat):Int):=by rw[jj (by omega)];omega
  have hn:=uL xs (7+k)
  have Y:(ji xs (7+k)).tmod 4=ji xs (7+k)%4:=lb hn
  obtain⟨q,Z⟩:=yV J k (by omega)
  have D:=J.lenI
  rw[H9]at D
  rw[vu _ _ k (by omega)]
  have hp:Ca (ji xs) k=decide (ji xs (7+k)%4=0):=rfl
  rw[hp]
  have b1:=Cb (Ca (ji xs)) yR HO k
  have b2:=HO yR[k] (List.getElem_mem (by omega))
  generalize j0 (Ca (ji xs)) 0 (yR.take k)=S at*
  generalize yR[k]=R at*
  by_cases hb:ji xs (7+k)%4=0
  ·simp(maxDischargeDepth:=6) only[qA,seval,gd,we,H,K,I,r,g3,D,U,V,W,X,Y,Z,O,hb,rQ]
   simp[yU,HN,List.append_assoc]
   exact⟨fun _ h=>absurd h (by omega),fun h=>absurd h (by omega)⟩
  ·simp(maxDischargeDepth:=6) only[qA,seval,gd,we,H,K,I,r,g3,D,U,V,W,X,Y,Z,O,hb,rQ]
 ·rintro f _ _ H ⟨r,rfl,rfl,g3⟩
  have D:=J.lenI
  rw[H9]at D
  have ht:yR.take 18=yR:=rfl
  rw[ht]at g3
  have r:an f 5= .i .i64 18:=r
  simp only[qA,seval,gd,we,H,I,r,D,Int.lt_irrefl]
  exact g3
theorem azl(F:List Nat)(hs0:F.length≤5000)(fr:Fr)(lh:gW b8)(sh:List b8)(K:an fr 0=la)(h3:an fr 3= .s F)(I:an fr 6= .sl (strs yS) 10 true)(h5:an fr 7= .i .i64 0):
  Lp pE 119 wc fr lh sh (.ext 2) fun f l s=>s=sh∧l=lh∧an f 3= .s (F++pN (j0 (HM (ji xs)) 0 yS)):=by
 have H9:yS.length=10:=rfl
 have J:IsSl (T.sl (strs yS) 10 true) yS.length (strs yS):= .inr ⟨_,rfl⟩
 have O:=hl.froz
 generalize T.sl (strs yS) 10 true=v at*
 refine kK Iw (fun k f l s=>an f 7= .i .i64 (k:Int)∧s=sh∧l=lh∧an f 3= .s (F++pN (j0 (HM (ji xs)) 0 (yS.take k)))) 10 ⟨h5,rfl,rfl,by rw[h3];simp[j0,pN]⟩ ?_ ?_
 ·rintro k f _ _ hk H ⟨r,rfl,rfl,g3⟩
  have U:(k:Int)<10:=by omega
  have V:=iJ (k:=k) (by omega)
  have W:=om la xs hl (30+k) (by omega)
  have X:wr .i64 (30+(k:Int))=((30+k:Nat):Int):=by rw[jj (by omega)];omega
  have hn:=uL xs (30+k)
  have Y:(ji xs (30+k)).tmod 3=ji xs (30+k)%3:=lb hn
  obtain⟨q,Z⟩:=yV J k (by omega)
  have D:=J.lenI
  rw[H9]at D
  rw[vu _ _ k (by omega)]
  have hp:HM (ji xs) k=decide (ji xs (30+k)%3=0):=rfl
  rw[hp]
  have b1:=Cb (HM (ji xs)) yS HQ k
  have b2:=HQ yS[k] (List.getElem_mem (by omega))
  generalize j0 (HM (ji xs)) 0 (yS.take k)=S at*
  generalize yS[k]=R at*
  by_cases hb:ji xs (30+k)%3=0
  ·simp(maxDischargeDepth:=6) only[qA,seval,gd,wc,H,K,I,r,g3,D,U,V,W,X,Y,Z,O,hb,rQ]
   simp[yU,HN,List.append_assoc]
   exact⟨fun _ h=>absurd h (by omega),fun h=>absurd h (by omega)⟩
  ·simp(maxDischargeDepth:=6) only[qA,seval,gd,wc,H,K,I,r,g3,D,U,V,W,X,Y,Z,O,hb,rQ]
 ·rintro f _ _ H ⟨r,rfl,rfl,g3⟩
  have D:=J.lenI
  rw[H9]at D
  have ht:yS.take 10=yS:=rfl
  rw[ht]at g3
  have r:an f 7= .i .i64 10:=r
  simp only[qA,seval,gd,wc,H,I,r,D,Int.lt_irrefl]
  exact g3
theorem acG:be pE 48 [la] []=some (.s (pN (R5 (ji xs))),[]):=by
 have h0:be pE 18 [la,.i .i64 0] []=some (.i .i64 (ji xs 0),[]):=om la xs hl 0 (by omega)
 have h1:be pE 18 [la,.i .i64 1] []=some (.i .i64 (ji xs 1),[]):=om la xs hl 1 (by omega)
 have h2:be pE 18 [la,.i .i64 2] []=some (.i .i64 (ji xs 2),[]):=om la xs hl 2 (by omega)
 have h3:be pE 18 [la,.i .i64 3] []=some (.i .i64 (ji xs 3),[]):=om la xs hl 3 (by omega)
 have h4:be pE 18 [la,.i .i64 4] []=some (.i .i64 (ji xs 4),[]):=om la xs hl 4 (by omega)
 have h5:be pE 18 [la,.i .i64 5] []=some (.i .i64 (ji xs 5),[]):=om la xs hl 5 (by omega)
 have h6:be pE 18 [la,.i .i64 6] []=some (.i .i64 (ji xs 6),[]):=om la xs hl 6 (by omega)
 have Ww:be pE 18 [la,.i .i64 41] []=some (.i .i64 (ji xs 41),[]):=om la xs hl 41 (by omega)
 have V:=fun i=>uL xs i
 have ht:=fun i=>lb (b:=3) (V i)
 have r:=lb (b:=4) (V 41)
 obtain⟨q0,W⟩:=D8 [48,58,48,48] [48,58,52,53] [49,58,48,48] (ji xs 0%3) (by omega) (by omega)
 change ∀kk,lH _ _ 1=some (.vp (.s (DJ (ji xs 0%3))::q0))at W
 obtain⟨q1,X⟩:=D8 [48,58,48,48] [48,58,49,53] [48,58,51,48] (ji xs 1%3) (by omega) (by omega)
 change ∀kk,lH _ _ 1=some (.vp (.s (Uf (ji xs 1%3))::q1))at X
 obtain⟨q2,Y⟩:=D8 [48,58,51,48] [48,58,52,48] [48,58,49,53] (ji xs 2%3) (by omega) (by omega)
 change ∀kk,lH _ _ 1=some (.vp (.s (LH (ji xs 2%3))::q2))at Y
 obtain⟨q3,Z⟩:=D8 [51,58,48,48] [50,52,58,48,48] [49,58,48,48] (ji xs 3%3) (by omega) (by omega)
 change ∀kk,lH _ _ 1=some (.vp (.s (Sn (ji xs 3%3))::q3))at Z
 obtain⟨q4,e4⟩:=D8 [50,52,58,48,48] [49,54,58,48,48] [51,54,58,48,48] (ji xs 4%3) (by omega) (by omega)
 change ∀kk,lH _ _ 1=some (.vp (.s (hv4 (ji xs 4%3))::q4))at e4
 obtain⟨q5,e5⟩:=D8 [64,50,50,58,48,48,32,116,111,32,64,48,54,58,48,48] [64,48,48,58,48,48,32,116,111,32,64,48,53,58,48,48] [64,49,50,58,48,48,32,116,111,32,64,49,50,58,48,48] (ji xs 5%3) (by omega) (by omega)
 change ∀kk,lH _ _ 1=some (.vp (.s (RZ (ji xs 5%3))::q5))at e5
 obtain⟨q6,e6⟩:=D8 [50] [55,32,47,32,50] [45,40,49,41] (ji xs 6%3) (by omega) (by omega)
 change ∀kk,lH _ _ 1=some (.vp (.s (SD (ji xs 6%3))::q6))at e6
 have hz:=hl.froz
 have hru:=ajx
 have tb:=ajy
 have LV:=ajz
 have hL2:=fun s0 hs fr lh sh=>azk xs la hl s0 hs fr lh sh
 have Ox:=fun s0 hs fr lh sh=>azl xs la hl s0 hs fr lh sh
 have y0:(DJ (ji xs 0%3)).length≤20:=wX _ _ _ _ (by decide)
 have y1:(Uf (ji xs 1%3)).length≤20:=wX _ _ _ _ (by decide)
 have y2:(LH (ji xs 2%3)).length≤20:=wX _ _ _ _ (by decide)
 have y3:(Sn (ji xs 3%3)).length≤20:=wX _ _ _ _ (by decide)
 have y4:(hv4 (ji xs 4%3)).length≤20:=wX _ _ _ _ (by decide)
 have y5:(RZ (ji xs 5%3)).length≤20:=wX _ _ _ _ (by decide)
 have y6:(SD (ji xs 6%3)).length≤20:=wX _ _ _ _ (by decide)
 have hcv:IsSl (T.sl (strs Lv) 3 true) Lv.length (strs Lv):= .inr ⟨_,rfl⟩
 have ata: ∀h:ji xs 41%4<3,∃q,∀kk,lH (T.sl (strs Lv) 3 true) (.i kk (ji xs 41%4)) 1=some (.vp (.s (Lv.getD (ji xs 41%4).toNat [])::q)):=fun h=>by
  have hk:(ji xs 41%4).toNat<Lv.length:=by show(ji xs 41%4).toNat<3;omega
  obtain⟨q,e⟩:=yV hcv (ji xs 41%4).toNat hk
  have h0:=V 41
  rw[Int.toNat_of_nonneg (by omega)]at e
  refine⟨q,fun kk=> ?_⟩
  rw[e,List.getD_eq_getElem?_getD,List.getElem?_eq_getElem hk]
  rfl
 unfold R5 crD
 rw[yU,yU,yU]
 generalize T.sl (strs Lv) 3 true=crT at*
 generalize aFI:T.sl (strs yR) 18 true=lr at*
 generalize aFJ:T.sl (strs yS) 10 true=D9 at*
 generalize YZ:DJ (ji xs 0%3)=x0 at*
 generalize EL:Uf (ji xs 1%3)=x1 at*
 generalize F:LH (ji xs 2%3)=x2 at*
 generalize H:Sn (ji xs 3%3)=x3 at*
 generalize I:hv4 (ji xs 4%3)=x4 at*
 generalize J:RZ (ji xs 5%3)=x5 at*
 generalize K:SD (ji xs 6%3)=x6 at*
 have hHl:(pN (Zm (ji xs))).length≤1000:=by
  simp only[pN,Zm,YZ,EL,F,H,I,J,K,List.flatMap_cons,List.flatMap_nil,List.length_append,List.length_cons,List.length_nil]
  omega
 have hH:=Eq.refl (pN (Zm (ji xs)))
 conv at hH=>
  rhs
  simp only[pN,Zm,YZ,EL,F,H,I,J,K,List.flatMap_cons,List.flatMap_nil,List.append_nil,List.append_assoc,List.cons_append,List.nil_append]
 have H9:(pN (j0 (Ca (ji xs)) 0 yR)).length≤18*101:=Cb (Ca (ji xs)) yR HO 18
 have lX:(pN (j0 (HM (ji xs)) 0 yS)).length≤10*101:=Cb (HM (ji xs)) yS HQ 10
 generalize pN (j0 (Ca (ji xs)) 0 yR)=XR at*
 generalize pN (j0 (HM (ji xs)) 0 yS)=XC at*
 generalize pN (Zm (ji xs))=HB at*
 rw[gQ aoR (by simp[c48])]
 simp(maxDischargeDepth:=6) only[qA,jq,qw,ig,seval,c48,repl,h0,h1,h2,h3,h4,h5,h6,ht,W,X,Y,Z,e4,e5,e6,hz,hru,tb,LV,rQ,awj,awQ,apf,aph]
 repeat refine Eq.trans (if_pos (by first|omega|(simp only[List.length_append,List.length_cons,List.length_nil];omega))) ?_
 generalize O:DC pE 119 (.loop we) _=D
 obtain⟨f2,l2,s2,rfl,⟨rfl,rfl,g3⟩,oM⟩:=E7 Ix O (hL2 HB (by omega) _ _ _ (by simp only[qA,seval]) (by rw[hH];simp only[qA,seval,List.append_assoc]) (by simp only[qA,seval]) (by simp only[qA,seval]))
 have p0:an f2 0=la:=by rw[oM 0 (by decide)];simp only[qA,seval]
 clear oM O hH W X Y Z e4 e5 e6
 simp(maxDischargeDepth:=6) only[qA,seval,tb,apf]
 generalize O:DC pE 119 (.loop wc) _=D
 obtain⟨f3,l3,s3,rfl,⟨rfl,rfl,k3⟩,U⟩:=E7 Iw O (Ox (HB++XR) (by rw[List.length_append];omega) _ _ _ (by simp only[qA,seval,p0]) (by simp only[qA,seval,g3]) (by simp only[qA,seval]) (by simp only[qA,seval]))
 have p1:an f3 0=la:=by rw[U 0 (by decide)];simp only[qA,seval,p0]
 clear U O Ox hL2
 by_cases h:ji xs 41%4<3
 ·obtain⟨q,e⟩:=ata h
  have b1:(Lv.getD (ji xs 41%4).toNat []).length≤20*5:=by
   have hk:(ji xs 41%4).toNat<Lv.length:=by show(ji xs 41%4).toNat<3;omega
   rw[List.getD_eq_getElem?_getD,List.getElem?_eq_getElem hk]
   exact acF _ (List.getElem_mem hk)
  rw[if_pos h,HN]
  generalize Lv.getD (ji xs 41%4).toNat []=CR at*
  have hA:(HB++XR++XC).length≤10000:=by simp only[List.length_append];omega
  generalize HB++XR++XC=A at*
  simp(maxDischargeDepth:=6) only[qA,seval,p1,k3,Ww,r,hz,h,LV,e,rQ,aph]
  repeat refine Eq.trans (if_pos (by first|omega|(simp only[List.length_append,List.length_cons,List.length_nil];omega))) ?_
  simp only[List.append_assoc]
 ·rw[if_neg h]
  have ht0:pN []= []:=rfl
  rw[ht0]
  simp(maxDischargeDepth:=6) only[qA,seval,p1,k3,Ww,r,hz,h,rQ]
end
theorem Ea(f:Nat→Int)(k:Nat):ints (atR f (k+1))=ints (atR f k)++ [.i .i64 (f k)]:=by simp[atR,ints,List.range_succ]
section
variable(xs:List Int)(la:T)(hl:IsSl la xs.length (ints xs))
include hl
theorem azm(fr:Fr)(lh:gW b8)(sh:List b8)(h0:an fr 0=la)(h6:an fr 6= .nilsl)(h7:an fr 7= .nilsl)(h8:an fr 8= .nilsl)(h9:an fr 9= .i .i64 0):
  Lp pE 44 Fc fr lh sh (.ext 0) fun f q s=>s=sh∧jG q (an f 6) 20 1 60 (ints (atR (ji xs) 60))∧jG q (an f 7) 27 1 60 (ints (atR (fun i=>ji xs (60+i)) 60))∧jG q (an f 8) 34 1 60 (ints (atR (fun i=>ji xs (120+i)) 60))∧b7 q 2=b7 lh 2∧b7 q 3=b7 lh 3:=by
 refine kK Nr (fun k f q s=>an f 9= .i .i64 (k:Int)∧s=sh∧jG q (an f 6) 20 1 k (ints (atR (ji xs) k))∧jG q (an f 7) 27 1 k (ints (atR (fun i=>ji xs (60+i)) k))∧jG q (an f 8) 34 1 k (ints (atR (fun i=>ji xs (120+i)) k))∧b7 q 2=b7 lh 2∧b7 q 3=b7 lh 3) 60 ⟨h9,rfl,by rw[h6];exact jG.nil,by rw[h7];exact jG.nil,by rw[h8];exact jG.nil,rfl,rfl⟩ ?_ ?_
 ·rintro k f q _ hk V ⟨g9,rfl,H,I,J,W,X⟩
  have iP:(k:Int)<60:=by omega
  have hw:=iJ (k:=k) (by omega)
  have e1:=om la xs hl k (by omega)
  have e2:=om la xs hl (60+k) (by omega)
  have e3:=om la xs hl (120+k) (by omega)
  have w2:wr .i64 (60+(k:Int))=((60+k:Nat):Int):=by rw[jj (by omega)];omega
  have w3:wr .i64 (120+(k:Int))=((120+k:Nat):Int):=by rw[jj (by omega)];omega
  have hz:=hl.froz
  have pA:=fun(x:T) (D:gW b8) (r:List b8) (e:b7 D 20=b7 q 20)=>pt (sh:=r) (H.congr e) [x] rfl (bytes:=8) (by unfold roomy;omega) true
  have pB:=fun(x:T) (D:gW b8) (r:List b8) (e:b7 D 27=b7 q 27)=>pt (sh:=r) (I.congr e) [x] rfl (bytes:=8) (by unfold roomy;omega) true
  have pC:=fun(x:T) (D:gW b8) (r:List b8) (e:b7 D 34=b7 q 34)=>pt (sh:=r) (J.congr e) [x] rfl (bytes:=8) (by unfold roomy;omega) true
  have nA:=H.notS
  have nB:=I.notS
  have nC:=J.notS
  rw[Ea,Ea,Ea]
  generalize SD:an f 6=v6 at*
  generalize Y:an f 7=v7 at*
  generalize Z:an f 8=v8 at*
  have kA:=fun x r=>pA x q r rfl
  have K:=fun x r j F=>(kA x r).2.2 j F
  have kB:=fun x y r=>pB y (Ov q r 20 1 8 v6 (.sl [x] 1 true)) r (K x r 27 (by decide))
  have O:=fun x y r j F=>(kB x y r).2.2 j F
  have kC:=fun x y z r=>pC z (Ov (Ov q r 20 1 8 v6 (.sl [x] 1 true)) r 27 1 8 v7 (.sl [y] 1 true)) r ((O x y r 34 (by decide)).trans (K x r 34 (by decide)))
  have U:=fun x y z r j F=>(kC x y z r).2.2 j F
  have rA:=fun x r=>(kA x r).1
  have rB:=fun x y r=>(kB x y r).1
  have rC:=fun x y z r=>(kC x y z r).1
  simp(maxDischargeDepth:=6) only[qA,seval,gd,repl,Fc,V,h0,g9,SD,Y,Z,iP,hw,e1,e2,e3,w2,w3,hz,rA,rB,rC,nA,nB,nC,rQ]
  refine⟨((kA _ _).2.1.congr ?_),((kB _ _ _).2.1.congr ?_),(kC _ _ _ _).2.1, ?_, ?_⟩
  ·exact(U _ _ _ _ 20 (by decide)).trans (O _ _ _ 20 (by decide))
  ·exact U _ _ _ _ 27 (by decide)
  ·exact((U _ _ _ _ 2 (by decide)).trans (O _ _ _ 2 (by decide))).trans ((K _ _ 2 (by decide)).trans W)
  ·exact((U _ _ _ _ 3 (by decide)).trans (O _ _ _ 3 (by decide))).trans ((K _ _ 3 (by decide)).trans X)
 ·rintro f q _ V ⟨g9,rfl,H,I,J,W,X⟩
  have g9:an f 9= .i .i64 60:=g9
  simp only[qA,seval,gd,Fc,V,g9,Int.lt_irrefl]
  exact⟨H,I,J,W,X⟩
end
end Go.Proofs.YtcpceiclnbmgiaaGreat
