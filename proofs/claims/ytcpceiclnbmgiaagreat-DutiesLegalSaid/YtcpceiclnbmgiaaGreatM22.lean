/- Walks of functions of the program and of the reference, and their plain laws, part 22. Conditions: the theorems' own. -/
import Derived.Test.YtcpceiclnbmgiaaGreatM21
import Derived.KernelRfl
set_option maxRecDepth 100000
set_option linter.unusedSimpArgs false
set_option linter.unusedVariables false
set_option maxHeartbeats 16000000
namespace Go.Proofs.YtcpceiclnbmgiaaGreat
open Go Go.Ev
def atR(f:Nat→Int)(n:Nat):List Int:=(List.range n).map f
theorem PZ(f:Nat→Int)(n:Nat):(atR f n).length=n:=by simp[atR]
theorem Yu(o:Nat→Int)(k:Nat):Ij o (k+1)=if 0<o k%8 then Ij o k++ [k]else Ij o k:=by
 unfold Ij
 rw[List.range_succ,List.filter_append]
 by_cases h:0<o k%8 <;> simp[h]
theorem adf(o:Nat→Int)(n:Nat):(Ij o n).length≤n:=by unfold Ij;exact Nat.le_trans (List.length_filter_le _ _) (by simp)
section
variable(xs:List Int)(l:T)(hl:IsSl l xs.length (ints xs))(zT aT fT:T)(N:Nat)(fc:List T)(hf:IsSl fT N fc)(hN:N≤1000)
include hl hf hN
theorem aAa(fr:Fr)(lh:iw b8)(sh:List b8)(V:an fr 1=l)(K:an fr 2= .ptr .L 2 1 0)(h5:an fr 5= .nilsl)(h6:an fr 6= .i .i64 0)(o2:b7 lh 2=⟨1,.cells [zT,aT,fT] 0 true⟩):
  Lp pE 24 wN fr lh sh (.ext 0) fun f q s=>s=sh∧jO q (an f 5) 22 1 (Ij (jv xs) N).length (ints ((Ij (jv xs) N).map Int.ofNat))∧b7 q 2=⟨1,.cells [zT,aT,fT] 0 true⟩:=by
 have O:=hf.lenI
 refine kE IZ (fun k f q s=>an f 6= .i .i64 (k:Int)∧s=sh∧jO q (an f 5) 22 1 (Ij (jv xs) k).length (ints ((Ij (jv xs) k).map Int.ofNat))∧b7 q 2=⟨1,.cells [zT,aT,fT] 0 true⟩) N ⟨h6,rfl,by rw[h5];exact jO.nil,o2⟩ ?_ ?_
 ·rintro k f q _ hk F ⟨H,rfl,D,EB⟩
  have W:(k:Int)<N:=by omega
  have X:=iO (k:=k) (by omega)
  have Y:=oF l xs hl k (by omega)
  have I:=EB
  have Z:=hl.froz
  have hlen:=adf (jv xs) k
  have U:=u7 xs k
  have J:=fun(iU:iw b8) (iX:List b8) (e:b7 iU 22=b7 q 22)=>nq (sh:=iX) (D.congr e) [.i .i64 (k:Int)] rfl (bytes:=8) (by unfold roomy;omega) true
  have AW:=D.notS
  have ht:(jv xs k).tmod 8=jv xs k%8:=lE U
  rw[Yu]
  generalize Ij (jv xs) k=r at*
  generalize SA:an f 5=v5 at D J AW
  by_cases hb:0<jv xs k%8
  ·simp(maxDischargeDepth:=6) only[qA,seval,gd,wN,F,V,K,H,I,O,W,X,Y,ht,hb,sj,Z,SA,J,AW,repl]
   obtain⟨_,k1,k2⟩:=J q _ rfl
   rw[show ints ((r++ [k]).map Int.ofNat)=ints (r.map Int.ofNat)++ [.i .i64 (k:Int)]by simp[ints],show(r++ [k]).length=r.length+1 by simp]
   exact by first|exact k1|exact⟨k1,(k2 2 (by decide)).trans EB⟩
  ·simp(maxDischargeDepth:=6) only[qA,seval,gd,wN,F,V,K,H,I,O,W,X,Y,ht,hb,sj,Z,SA,J,AW,repl]
   exact D
 ·rintro f q _ F ⟨H,rfl,D,EB⟩
  have I:=EB
  simp only[qA,seval,gd,wN,F,K,I,H,O,Int.lt_irrefl]
  exact D
theorem ajM(i:froz1 zT=true∧froz1 aT=true∧froz1 fT=true):be pE 22 [.agg [zT,aT,fT],l] []=some (lN (Ij (jv xs) N).length (ints ((Ij (jv xs) N).map Int.ofNat)),[]):=by
 have r:=fun fr lh sh=>aAa xs l hl zT aT fT N fc hf hN fr lh sh
 obtain⟨F,H,I⟩:=i
 rw[il agJ (by simp[c22])]
 simp(maxDischargeDepth:=6) only[qA,seval,c22,F,H,I]
 generalize J:DC pE 24 (.loop wN) _=D
 obtain⟨O,U,V,rfl,⟨rfl,K,EB⟩,W⟩:=Cq IZ J (r _ _ _ (by simp only[qA,seval]) (by simp only[qA,seval]) (by simp only[qA,seval]) (by simp only[qA,seval]) (by simp only[qA,seval]))
 have e:=K.fzV (sh:=([]:List b8)) (keep:=false)
 simp(maxDischargeDepth:=6) only[qA,Fw,seval,e]
end
def zG:List (List Nat):= [[100,117,116,121,32,114,117,108,101,32,115,105,122,101,32,105,115,32,108,101,103,115,32,43,32,104,101,97,100,115,32,60,61,32,51],
 [100,117,116,121,32,114,117,108,101,32,115,112,97,110,32,105,115,32,115,112,97,110,32,60,61,32,49,51,58,48,48,32,45,32,48,58,51,48,32,42,32,40,108,101,103,115,32,45,32,49,41],
 [100,117,116,121,32,114,117,108,101,32,110,105,103,104,116,32,105,115,32,115,116,97,114,116,32,105,110,32,64,50,50,58,48,48,32,116,111,32,64,48,53,58,48,48,32,105,109,112,108,105,101,115,32,115,112,97,110,32,60,61,32,56,58,48,48],
 [100,117,116,121,32,114,117,108,101,32,98,108,111,99,107,32,105,115,32,98,108,111,99,107,32,60,61,32,54,58,48,48],
 [100,117,116,121,32,114,117,108,101,32,116,121,112,101,115,32,105,115,32,116,121,112,101,115,32,60,61,32,49],
 [100,117,116,121,32,114,117,108,101,32,111,100,100,32,105,115,32,108,101,103,115,32,61,32,49,32,111,114,32,108,101,103,115,32,61,32,51,32,111,114,32,104,101,97,100,115,32,61,32,49],
 [100,117,116,121,32,114,117,108,101,32,103,97,112,32,105,115,32,108,111,110,103,101,115,116,32,60,61,32,50,58,48,48,32,111,114,32,54,58,48,48,32,60,61,32,115,112,97,110],
 [114,101,115,116,32,114,117,108,101,32,108,101,97,115,116,32,105,115,32,56,58,48,48,32,60,61,32,114,101,115,116],
 [114,101,115,116,32,114,117,108,101,32,98,101,102,111,114,101,32,105,115,32,109,97,120,40,54,58,48,48,44,32,98,101,102,111,114,101,46,115,112,97,110,41,32,60,61,32,114,101,115,116],
 [114,101,115,116,32,114,117,108,101,32,110,105,103,104,116,115,32,105,115,32,110,105,103,104,116,115,32,60,61,32,49,32,111,114,32,104,111,109,101],
 [114,101,115,116,32,114,117,108,101,32,104,111,109,101,32,105,115,32,104,111,109,101,32,105,109,112,108,105,101,115,32,114,101,115,116,32,60,61,32,50,48,58,48,48],
 [114,101,115,116,32,114,117,108,101,32,97,102,116,101,114,32,105,115,32,97,102,116,101,114,46,115,116,97,114,116,32,105,110,32,64,48,54,58,48,48,32,116,111,32,64,50,48,58,48,48,32,111,114,32,57,58,48,48,32,60,61,32,114,101,115,116],
 [112,97,105,114,105,110,103,32,114,117,108,101,32,100,97,121,115,32,105,115,32,100,97,121,115,32,60,61,32,51],
 [112,97,105,114,105,110,103,32,114,117,108,101,32,100,117,116,105,101,115,32,105,115,32,100,117,116,105,101,115,32,60,61,32,51],
 [112,97,105,114,105,110,103,32,114,117,108,101,32,98,108,111,99,107,32,105,115,32,98,108,111,99,107,32,60,61,32,57,58,48,48],
 [112,97,105,114,105,110,103,32,114,117,108,101,32,99,114,101,100,105,116,32,105,115,32,99,114,101,100,105,116,32,60,61,32,49,50,58,48,48],
 [112,97,105,114,105,110,103,32,114,117,108,101,32,115,112,97,110,32,105,115,32,115,112,97,110,32,60,61,32,53,48,58,48,48],
 [112,97,105,114,105,110,103,32,114,117,108,101,32,108,101,103,115,32,105,115,32,50,32,60,61,32,108,101,103,115]]
def zH:List (List Nat):= [[100,117,116,121,32,99,111,115,116,32,105,115,32,49,48,48,32,43,32,49,48,32,42,32,108,101,103,115],
 [100,117,116,121,32,99,111,115,116,32,105,115,32,40,115,112,97,110,32,45,32,98,108,111,99,107,41,32,47,32,48,58,49,53],
 [100,117,116,121,32,99,111,115,116,32,105,115,32,105,102,32,110,105,103,104,116,32,60,61,32,50,58,48,48,32,116,104,101,110,32,48,32,101,108,115,101,32,51,48],
 [114,101,115,116,32,99,111,115,116,32,105,115,32,105,102,32,104,111,109,101,32,116,104,101,110,32,48,32,101,108,115,101,32,53,48],
 [114,101,115,116,32,99,111,115,116,32,105,115,32,114,101,115,116,32,47,32,49,58,48,48],
 [112,97,105,114,105,110,103,32,99,111,115,116,32,105,115,32,50,48,32,42,32,100,97,121,115],
 [112,97,105,114,105,110,103,32,99,111,115,116,32,105,115,32,109,97,120,40,48,58,48,48,44,32,99,114,101,100,105,116,32,45,32,56,58,48,48,41,32,47,32,48,58,51,48],
 [100,117,116,121,32,99,111,115,116,32,105,115,32,45,40,53,32,42,32,104,101,97,100,115,41],
 [100,117,116,121,32,99,111,115,116,32,105,115,32,116,121,112,101,115,32,42,32,116,121,112,101,115],
 [112,97,105,114,105,110,103,32,99,111,115,116,32,105,115,32,45,40,51,32,42,32,108,101,103,115,41,32,43,32,115,104,105,102,116,115]]
def L1:List (List Nat):= [[100,117,116,121,32,99,114,101,100,105,116,32,105,115,32,109,97,120,40,98,108,111,99,107,44,32,52,58,48,48,41],
 [100,117,116,121,32,99,114,101,100,105,116,32,105,115,32,115,112,97,110,32,47,32,50],
 [100,117,116,121,32,99,114,101,100,105,116,32,105,115,32,98,108,111,99,107,32,43,32,48,58,50,48,32,42,32,108,101,103,115]]
def D4(r:Int):List Nat:=([[48,58,48,48],[48,58,52,53],[49,58,48,48]]:List (List Nat)).getD r.toNat []
def UG(r:Int):List Nat:=([[48,58,48,48],[48,58,49,53],[48,58,51,48]]:List (List Nat)).getD r.toNat []
def Ma(r:Int):List Nat:=([[48,58,51,48],[48,58,52,48],[48,58,49,53]]:List (List Nat)).getD r.toNat []
def SW(r:Int):List Nat:=([[51,58,48,48],[50,52,58,48,48],[49,58,48,48]]:List (List Nat)).getD r.toNat []
def hv4(r:Int):List Nat:=([[50,52,58,48,48],[49,54,58,48,48],[51,54,58,48,48]]:List (List Nat)).getD r.toNat []
def SA(r:Int):List Nat:=([[64,50,50,58,48,48,32,116,111,32,64,48,54,58,48,48],[64,48,48,58,48,48,32,116,111,32,64,48,53,58,48,48],[64,49,50,58,48,48,32,116,111,32,64,49,50,58,48,48]]:List (List Nat)).getD r.toNat []
def S8(r:Int):List Nat:=([[50],[55,32,47,32,50],[45,40,49,41]]:List (List Nat)).getD r.toNat []
def ZV(b:Nat→Int):List (List Nat):= [[114,101,112,111,114,116,32]++D4 (b 0%3),[114,101,108,101,97,115,101,32]++UG (b 1%3),[99,111,110,110,101,99,116,32]++Ma (b 2%3),[115,105,116,32]++SW (b 3%3),[108,97,121,111,118,101,114,32]++hv4 (b 4%3),[110,105,103,104,116,32]++SA (b 5%3),[99,111,110,115,116,32,115,104,105,102,116,115,32,105,115,32]++S8 (b 6%3)]
def crD(b:Nat→Int):List (List Nat):=if b 41%4<3 then [L1.getD (b 41%4).toNat []]else []
def Cz(b:Nat→Int)(i:Nat):Bool:=decide (b (7+i)%4=0)
def Ik(b:Nat→Int)(i:Nat):Bool:=decide (b (30+i)%3=0)
def SC(b:Nat→Int):List (List Nat):=ZV b++j0 (Cz b) 0 zG++j0 (Ik b) 0 zH++crD b
theorem Lr{α:Type}(p:Nat→Bool): ∀(i:Nat) (a b:List α),j0 p i (a++b)=j0 p i a++j0 p (i+a.length) b
 |_,[],b=>rfl
 |i,x::a,b=>by
  rw[List.cons_append,j0,j0,Lr p (i+1) a b,List.length_cons,show i+1+a.length=i+(a.length+1)by omega]
  split <;> simp
theorem vS{α:Type}(p:Nat→Bool)(l:List α)(k:Nat)(hk:k<l.length):j0 p 0 (l.take (k+1))=j0 p 0 (l.take k)++if p k=true then [l[k]]else []:=by
 rw[List.take_succ_eq_append_getElem hk,Lr,List.length_take,Nat.min_eq_left (by omega),Nat.zero_add,j0]
 rfl
theorem zI(a b:List (List Nat)):pZ (a++b)=pZ a++pZ b:=by unfold pZ;rw[List.flatMap_append]
theorem Il(a:List Nat):pZ [a]=a++ [10]:=by simp[pZ]
theorem EC(a b c:List Nat)(r:Int)(D:0≤r)(F:r<3): ∃q,∀kk,lR (.sl [.s a,.s b,.s c] 3 true) (.i kk r) 1=some (.vp (.s (([a,b,c]:List (List Nat)).getD r.toNat [])::q)):=by
 have:r=0∨r=1∨r=2:=by omega
 rcases this with rfl|rfl|rfl <;> exact⟨_,fun _=>rfl⟩
theorem zJ{v:T}{L:List (List Nat)}(r:IsSl v L.length (strs L))(k:Nat)(hk:k<L.length): ∃q,∀kk,lR v (.i kk (k:Int)) 1=some (.vp (.s L[k]::q)):=by
 refine⟨(strs L).drop (k+1),fun kk=> ?_⟩
 rw[r.ia (sz:=1) (by simp[strs]) hk,Nat.mul_one,List.drop_eq_getElem_cons (by simp[strs];exact hk)]
 simp[strs]
theorem ajO:be pE 81 [] []=some (.sl (strs zG) 18 true,[]):=by
 rw[il apQ (by simp[c81])]
 simp(maxDischargeDepth:=6) only[qA,seval,c81,repl,strs,zG]
theorem ajP:be pE 82 [] []=some (.sl (strs zH) 10 true,[]):=by
 rw[il apR (by simp[c82])]
 simp(maxDischargeDepth:=6) only[qA,seval,c82,repl,strs,zH]
theorem ajQ:be pE 83 [] []=some (.sl (strs L1) 3 true,[]):=by
 rw[il apV (by simp[c83])]
 simp(maxDischargeDepth:=6) only[qA,seval,c83,repl,strs,L1]
theorem P0: ∀(i:List (List Nat)),(∀l∈i,l.length≤100)→(pZ i).length≤i.length*101
 | [],_=>by simp[pZ]
 |x::m,r=>by
  have D:=r x List.mem_cons_self
  have F:=P0 m fun l hl=>r l (List.mem_cons_of_mem _ hl)
  have e:pZ (x::m)=x++ [10]++pZ m:=by simp[pZ]
  rw[e,List.length_append,List.length_append,List.length_singleton,List.length_cons]
  omega
theorem CA(p:Nat→Bool)(l:List (List Nat))(h: ∀x∈l,x.length≤100)(k:Nat):(pZ (j0 p 0 (l.take k))).length≤k*101:=by
 have i:=(lB p 0 (l.take k)).length_le
 have r:=P0 (j0 p 0 (l.take k)) fun x hx=>h x (List.mem_of_mem_take ((lB p 0 (l.take k)).subset hx))
 have D:(l.take k).length≤k:=by rw[List.length_take];omega
 have F:(j0 p 0 (l.take k)).length*101≤k*101:=Nat.mul_le_mul_right _ (by omega)
 omega
theorem Im: ∀x∈zG,x.length≤100:=by decide
theorem Io: ∀x∈zH,x.length≤100:=by decide
theorem adg: ∀x∈L1,x.length≤100:=by decide
theorem xJ(a b c:List Nat)(n:Nat)(h:a.length≤20∧b.length≤20∧c.length≤20):(([a,b,c]:List (List Nat)).getD n []).length≤20:=by
 match n with
 |0=>exact h.1
 |1=>exact h.2.1
 |2=>exact h.2.2
 |n+3=>simp
section
variable(xs:List Int)(la:T)(hl:IsSl la xs.length (ints xs))
include hl
theorem aAb(F:List Nat)(hs0:F.length≤5000)(fr:Fr)(lh:iw b8)(sh:List b8)(K:an fr 0=la)(h3:an fr 3= .s F)(I:an fr 4= .sl (strs zG) 18 true)(h5:an fr 5= .i .i64 0):
  Lp pE 119 wR fr lh sh (.ext 0) fun f l s=>s=sh∧l=lh∧an f 3= .s (F++pZ (j0 (Cz (jv xs)) 0 zG)):=by
 have IE:zG.length=18:=rfl
 have J:IsSl (T.sl (strs zG) 18 true) zG.length (strs zG):= .inr ⟨_,rfl⟩
 have O:=hl.froz
 generalize T.sl (strs zG) 18 true=v at*
 refine kE I5 (fun k f l s=>an f 5= .i .i64 (k:Int)∧s=sh∧l=lh∧an f 3= .s (F++pZ (j0 (Cz (jv xs)) 0 (zG.take k)))) 18 ⟨h5,rfl,rfl,by rw[h3];simp[j0,pZ]⟩ ?_ ?_
 ·rintro k f _ _ hk H ⟨r,rfl,rfl,g3⟩
  have U:(k:Int)<18:=by omega
  have V:=iO (k:=k) (by omega)
  have W:=oF la xs hl (7+k) (by omega)
  have X:wr .i64 (7+(k:Int))=((7+k:Nat):Int):=by rw[jw (by omega)];omega
  have hn:=u7 xs (7+k)
  have Y:(jv xs (7+k)).tmod 4=jv xs (7+k)%4:=lE hn
  obtain⟨q,Z⟩:=zJ J k (by omega)
  have D:=J.lenI
  rw[IE]at D
  rw[vS _ _ k (by omega)]
  have hp:Cz (jv xs) k=decide (jv xs (7+k)%4=0):=rfl
  rw[hp]
  have b1:=CA (Cz (jv xs)) zG Im k
  have b2:=Im zG[k] (List.getElem_mem (by omega))
  generalize j0 (Cz (jv xs)) 0 (zG.take k)=S at*
  generalize zG[k]=R at*
  by_cases hb:jv xs (7+k)%4=0
  ·simp(maxDischargeDepth:=6) only[qA,seval,gd,wR,H,K,I,r,g3,D,U,V,W,X,Y,Z,O,hb,sj]
   simp[zI,Il,List.append_assoc]
   exact⟨fun _ h=>absurd h (by omega),fun h=>absurd h (by omega)⟩
  ·simp(maxDischargeDepth:=6) only[qA,seval,gd,wR,H,K,I,r,g3,D,U,V,W,X,Y,Z,O,hb,sj]
 ·rintro f _ _ H ⟨r,rfl,rfl,g3⟩
  have D:=J.lenI
  rw[IE]at D
  have ht:zG.take 18=zG:=rfl
  rw[ht]at g3
  have r:an f 5= .i .i64 18:=r
  simp only[qA,seval,gd,wR,H,I,r,D,Int.lt_irrefl]
  exact g3
theorem aAc(F:List Nat)(hs0:F.length≤5000)(fr:Fr)(lh:iw b8)(sh:List b8)(K:an fr 0=la)(h3:an fr 3= .s F)(I:an fr 6= .sl (strs zH) 10 true)(h5:an fr 7= .i .i64 0):
  Lp pE 119 wQ fr lh sh (.ext 2) fun f l s=>s=sh∧l=lh∧an f 3= .s (F++pZ (j0 (Ik (jv xs)) 0 zH)):=by
 have IE:zH.length=10:=rfl
 have J:IsSl (T.sl (strs zH) 10 true) zH.length (strs zH):= .inr ⟨_,rfl⟩
 have O:=hl.froz
 generalize T.sl (strs zH) 10 true=v at*
 refine kE I4 (fun k f l s=>an f 7= .i .i64 (k:Int)∧s=sh∧l=lh∧an f 3= .s (F++pZ (j0 (Ik (jv xs)) 0 (zH.take k)))) 10 ⟨h5,rfl,rfl,by rw[h3];simp[j0,pZ]⟩ ?_ ?_
 ·rintro k f _ _ hk H ⟨r,rfl,rfl,g3⟩
  have U:(k:Int)<10:=by omega
  have V:=iO (k:=k) (by omega)
  have W:=oF la xs hl (30+k) (by omega)
  have X:wr .i64 (30+(k:Int))=((30+k:Nat):Int):=by rw[jw (by omega)];omega
  have hn:=u7 xs (30+k)
  have Y:(jv xs (30+k)).tmod 3=jv xs (30+k)%3:=lE hn
  obtain⟨q,Z⟩:=zJ J k (by omega)
  have D:=J.lenI
  rw[IE]at D
  rw[vS _ _ k (by omega)]
  have hp:Ik (jv xs) k=decide (jv xs (30+k)%3=0):=rfl
  rw[hp]
  have b1:=CA (Ik (jv xs)) zH Io k
  have b2:=Io zH[k] (List.getElem_mem (by omega))
  generalize j0 (Ik (jv xs)) 0 (zH.take k)=S at*
  generalize zH[k]=R at*
  by_cases hb:jv xs (30+k)%3=0
  ·simp(maxDischargeDepth:=6) only[qA,seval,gd,wQ,H,K,I,r,g3,D,U,V,W,X,Y,Z,O,hb,sj]
   simp[zI,Il,List.append_assoc]
   exact⟨fun _ h=>absurd h (by omega),fun h=>absurd h (by omega)⟩
  ·simp(maxDischargeDepth:=6) only[qA,seval,gd,wQ,H,K,I,r,g3,D,U,V,W,X,Y,Z,O,hb,sj]
 ·rintro f _ _ H ⟨r,rfl,rfl,g3⟩
  have D:=J.lenI
  rw[IE]at D
  have ht:zH.take 10=zH:=rfl
  rw[ht]at g3
  have r:an f 7= .i .i64 10:=r
  simp only[qA,seval,gd,wQ,H,I,r,D,Int.lt_irrefl]
  exact g3
theorem adh:be pE 48 [la] []=some (.s (pZ (SC (jv xs))),[]):=by
 have h0:be pE 18 [la,.i .i64 0] []=some (.i .i64 (jv xs 0),[]):=oF la xs hl 0 (by omega)
 have h1:be pE 18 [la,.i .i64 1] []=some (.i .i64 (jv xs 1),[]):=oF la xs hl 1 (by omega)
 have h2:be pE 18 [la,.i .i64 2] []=some (.i .i64 (jv xs 2),[]):=oF la xs hl 2 (by omega)
 have h3:be pE 18 [la,.i .i64 3] []=some (.i .i64 (jv xs 3),[]):=oF la xs hl 3 (by omega)
 have h4:be pE 18 [la,.i .i64 4] []=some (.i .i64 (jv xs 4),[]):=oF la xs hl 4 (by omega)
 have h5:be pE 18 [la,.i .i64 5] []=some (.i .i64 (jv xs 5),[]):=oF la xs hl 5 (by omega)
 have h6:be pE 18 [la,.i .i64 6] []=some (.i .i64 (jv xs 6),[]):=oF la xs hl 6 (by omega)
 have WV:be pE 18 [la,.i .i64 41] []=some (.i .i64 (jv xs 41),[]):=oF la xs hl 41 (by omega)
 have V:=fun i=>u7 xs i
 have ht:=fun i=>lE (b:=3) (V i)
 have r:=lE (b:=4) (V 41)
 obtain⟨q0,W⟩:=EC [48,58,48,48] [48,58,52,53] [49,58,48,48] (jv xs 0%3) (by omega) (by omega)
 change ∀kk,lR _ _ 1=some (.vp (.s (D4 (jv xs 0%3))::q0))at W
 obtain⟨q1,X⟩:=EC [48,58,48,48] [48,58,49,53] [48,58,51,48] (jv xs 1%3) (by omega) (by omega)
 change ∀kk,lR _ _ 1=some (.vp (.s (UG (jv xs 1%3))::q1))at X
 obtain⟨q2,Y⟩:=EC [48,58,51,48] [48,58,52,48] [48,58,49,53] (jv xs 2%3) (by omega) (by omega)
 change ∀kk,lR _ _ 1=some (.vp (.s (Ma (jv xs 2%3))::q2))at Y
 obtain⟨q3,Z⟩:=EC [51,58,48,48] [50,52,58,48,48] [49,58,48,48] (jv xs 3%3) (by omega) (by omega)
 change ∀kk,lR _ _ 1=some (.vp (.s (SW (jv xs 3%3))::q3))at Z
 obtain⟨q4,e4⟩:=EC [50,52,58,48,48] [49,54,58,48,48] [51,54,58,48,48] (jv xs 4%3) (by omega) (by omega)
 change ∀kk,lR _ _ 1=some (.vp (.s (hv4 (jv xs 4%3))::q4))at e4
 obtain⟨q5,e5⟩:=EC [64,50,50,58,48,48,32,116,111,32,64,48,54,58,48,48] [64,48,48,58,48,48,32,116,111,32,64,48,53,58,48,48] [64,49,50,58,48,48,32,116,111,32,64,49,50,58,48,48] (jv xs 5%3) (by omega) (by omega)
 change ∀kk,lR _ _ 1=some (.vp (.s (SA (jv xs 5%3))::q5))at e5
 obtain⟨q6,e6⟩:=EC [50] [55,32,47,32,50] [45,40,49,41] (jv xs 6%3) (by omega) (by omega)
 change ∀kk,lR _ _ 1=some (.vp (.s (S8 (jv xs 6%3))::q6))at e6
 have hz:=hl.froz
 have hru:=ajO
 have uj:=ajP
 have Q7:=ajQ
 have ZF:=fun s0 hs fr lh sh=>aAb xs la hl s0 hs fr lh sh
 have KG:=fun s0 hs fr lh sh=>aAc xs la hl s0 hs fr lh sh
 have y0:(D4 (jv xs 0%3)).length≤20:=xJ _ _ _ _ (by decide)
 have y1:(UG (jv xs 1%3)).length≤20:=xJ _ _ _ _ (by decide)
 have y2:(Ma (jv xs 2%3)).length≤20:=xJ _ _ _ _ (by decide)
 have y3:(SW (jv xs 3%3)).length≤20:=xJ _ _ _ _ (by decide)
 have y4:(hv4 (jv xs 4%3)).length≤20:=xJ _ _ _ _ (by decide)
 have y5:(SA (jv xs 5%3)).length≤20:=xJ _ _ _ _ (by decide)
 have y6:(S8 (jv xs 6%3)).length≤20:=xJ _ _ _ _ (by decide)
 have hcv:IsSl (T.sl (strs L1) 3 true) L1.length (strs L1):= .inr ⟨_,rfl⟩
 have atK: ∀h:jv xs 41%4<3,∃q,∀kk,lR (T.sl (strs L1) 3 true) (.i kk (jv xs 41%4)) 1=some (.vp (.s (L1.getD (jv xs 41%4).toNat [])::q)):=fun h=>by
  have hk:(jv xs 41%4).toNat<L1.length:=by show(jv xs 41%4).toNat<3;omega
  obtain⟨q,e⟩:=zJ hcv (jv xs 41%4).toNat hk
  have h0:=V 41
  rw[Int.toNat_of_nonneg (by omega)]at e
  refine⟨q,fun kk=> ?_⟩
  rw[e,List.getD_eq_getElem?_getD,List.getElem?_eq_getElem hk]
  rfl
 unfold SC crD
 rw[zI,zI,zI]
 generalize T.sl (strs L1) 3 true=crT at*
 generalize aGq:T.sl (strs zG) 18 true=lK at*
 generalize aGr:T.sl (strs zH) 10 true=ED at*
 generalize Zu:D4 (jv xs 0%3)=x0 at*
 generalize Fi:UG (jv xs 1%3)=x1 at*
 generalize F:Ma (jv xs 2%3)=x2 at*
 generalize H:SW (jv xs 3%3)=x3 at*
 generalize I:hv4 (jv xs 4%3)=x4 at*
 generalize J:SA (jv xs 5%3)=x5 at*
 generalize K:S8 (jv xs 6%3)=x6 at*
 have hHl:(pZ (ZV (jv xs))).length≤1000:=by
  simp only[pZ,ZV,Zu,Fi,F,H,I,J,K,List.flatMap_cons,List.flatMap_nil,List.length_append,List.length_cons,List.length_nil]
  omega
 have hH:=Eq.refl (pZ (ZV (jv xs)))
 conv at hH=>
  rhs
  simp only[pZ,ZV,Zu,Fi,F,H,I,J,K,List.flatMap_cons,List.flatMap_nil,List.append_nil,List.append_assoc,List.cons_append,List.nil_append]
 have IE:(pZ (j0 (Cz (jv xs)) 0 zG)).length≤18*101:=CA (Cz (jv xs)) zG Im 18
 have mG:(pZ (j0 (Ik (jv xs)) 0 zH)).length≤10*101:=CA (Ik (jv xs)) zH Io 10
 generalize pZ (j0 (Cz (jv xs)) 0 zG)=XR at*
 generalize pZ (j0 (Ik (jv xs)) 0 zH)=XC at*
 generalize pZ (ZV (jv xs))=HB at*
 rw[il aps (by simp[c48])]
 simp(maxDischargeDepth:=6) only[qA,jG,sN,iE,seval,c48,repl,h0,h1,h2,h3,h4,h5,h6,ht,W,X,Y,Z,e4,e5,e6,hz,hru,uj,Q7,sj,axf,axL,apU,apW]
 repeat refine Eq.trans (if_pos (by first|omega|(simp only[List.length_append,List.length_cons,List.length_nil];omega))) ?_
 generalize O:DC pE 119 (.loop wR) _=D
 obtain⟨f2,l2,s2,rfl,⟨rfl,rfl,g3⟩,nw⟩:=Cq I5 O (ZF HB (by omega) _ _ _ (by simp only[qA,seval]) (by rw[hH];simp only[qA,seval,List.append_assoc]) (by simp only[qA,seval]) (by simp only[qA,seval]))
 have p0:an f2 0=la:=by rw[nw 0 (by decide)];simp only[qA,seval]
 clear nw O hH W X Y Z e4 e5 e6
 simp(maxDischargeDepth:=6) only[qA,seval,uj,apU]
 generalize O:DC pE 119 (.loop wQ) _=D
 obtain⟨f3,l3,s3,rfl,⟨rfl,rfl,k3⟩,U⟩:=Cq I4 O (KG (HB++XR) (by rw[List.length_append];omega) _ _ _ (by simp only[qA,seval,p0]) (by simp only[qA,seval,g3]) (by simp only[qA,seval]) (by simp only[qA,seval]))
 have p1:an f3 0=la:=by rw[U 0 (by decide)];simp only[qA,seval,p0]
 clear U O KG ZF
 by_cases h:jv xs 41%4<3
 ·obtain⟨q,e⟩:=atK h
  have b1:(L1.getD (jv xs 41%4).toNat []).length≤20*5:=by
   have hk:(jv xs 41%4).toNat<L1.length:=by show(jv xs 41%4).toNat<3;omega
   rw[List.getD_eq_getElem?_getD,List.getElem?_eq_getElem hk]
   exact adg _ (List.getElem_mem hk)
  rw[if_pos h,Il]
  generalize L1.getD (jv xs 41%4).toNat []=CR at*
  have hA:(HB++XR++XC).length≤10000:=by simp only[List.length_append];omega
  generalize HB++XR++XC=A at*
  simp(maxDischargeDepth:=6) only[qA,seval,p1,k3,WV,r,hz,h,Q7,e,sj,apW]
  repeat refine Eq.trans (if_pos (by first|omega|(simp only[List.length_append,List.length_cons,List.length_nil];omega))) ?_
  simp only[List.append_assoc]
 ·rw[if_neg h]
  have ht0:pZ []= []:=rfl
  rw[ht0]
  simp(maxDischargeDepth:=6) only[qA,seval,p1,k3,WV,r,hz,h,sj]
end
theorem EF(f:Nat→Int)(k:Nat):ints (atR f (k+1))=ints (atR f k)++ [.i .i64 (f k)]:=by simp[atR,ints,List.range_succ]
section
variable(xs:List Int)(la:T)(hl:IsSl la xs.length (ints xs))
include hl
theorem aAd(fr:Fr)(lh:iw b8)(sh:List b8)(h0:an fr 0=la)(h6:an fr 6= .nilsl)(h7:an fr 7= .nilsl)(h8:an fr 8= .nilsl)(h9:an fr 9= .i .i64 0):
  Lp pE 44 FU fr lh sh (.ext 0) fun f q s=>s=sh∧jO q (an f 6) 20 1 60 (ints (atR (jv xs) 60))∧jO q (an f 7) 27 1 60 (ints (atR (fun i=>jv xs (60+i)) 60))∧jO q (an f 8) 34 1 60 (ints (atR (fun i=>jv xs (120+i)) 60))∧b7 q 2=b7 lh 2∧b7 q 3=b7 lh 3:=by
 refine kE N5 (fun k f q s=>an f 9= .i .i64 (k:Int)∧s=sh∧jO q (an f 6) 20 1 k (ints (atR (jv xs) k))∧jO q (an f 7) 27 1 k (ints (atR (fun i=>jv xs (60+i)) k))∧jO q (an f 8) 34 1 k (ints (atR (fun i=>jv xs (120+i)) k))∧b7 q 2=b7 lh 2∧b7 q 3=b7 lh 3) 60 ⟨h9,rfl,by rw[h6];exact jO.nil,by rw[h7];exact jO.nil,by rw[h8];exact jO.nil,rfl,rfl⟩ ?_ ?_
 ·rintro k f q _ hk V ⟨g9,rfl,H,I,J,W,X⟩
  have iW:(k:Int)<60:=by omega
  have hw:=iO (k:=k) (by omega)
  have e1:=oF la xs hl k (by omega)
  have e2:=oF la xs hl (60+k) (by omega)
  have e3:=oF la xs hl (120+k) (by omega)
  have w2:wr .i64 (60+(k:Int))=((60+k:Nat):Int):=by rw[jw (by omega)];omega
  have w3:wr .i64 (120+(k:Int))=((120+k:Nat):Int):=by rw[jw (by omega)];omega
  have hz:=hl.froz
  have pA:=fun(x:T) (D:iw b8) (r:List b8) (e:b7 D 20=b7 q 20)=>nq (sh:=r) (H.congr e) [x] rfl (bytes:=8) (by unfold roomy;omega) true
  have pB:=fun(x:T) (D:iw b8) (r:List b8) (e:b7 D 27=b7 q 27)=>nq (sh:=r) (I.congr e) [x] rfl (bytes:=8) (by unfold roomy;omega) true
  have pC:=fun(x:T) (D:iw b8) (r:List b8) (e:b7 D 34=b7 q 34)=>nq (sh:=r) (J.congr e) [x] rfl (bytes:=8) (by unfold roomy;omega) true
  have nA:=H.notS
  have nB:=I.notS
  have nC:=J.notS
  rw[EF,EF,EF]
  generalize S8:an f 6=v6 at*
  generalize Y:an f 7=v7 at*
  generalize Z:an f 8=v8 at*
  have kA:=fun x r=>pA x q r rfl
  have K:=fun x r j F=>(kA x r).2.2 j F
  have kB:=fun x y r=>pB y (ZD q r 20 1 8 v6 (.sl [x] 1 true)) r (K x r 27 (by decide))
  have O:=fun x y r j F=>(kB x y r).2.2 j F
  have kC:=fun x y z r=>pC z (ZD (ZD q r 20 1 8 v6 (.sl [x] 1 true)) r 27 1 8 v7 (.sl [y] 1 true)) r ((O x y r 34 (by decide)).trans (K x r 34 (by decide)))
  have U:=fun x y z r j F=>(kC x y z r).2.2 j F
  have rA:=fun x r=>(kA x r).1
  have rB:=fun x y r=>(kB x y r).1
  have rC:=fun x y z r=>(kC x y z r).1
  simp(maxDischargeDepth:=6) only[qA,seval,gd,repl,FU,V,h0,g9,S8,Y,Z,iW,hw,e1,e2,e3,w2,w3,hz,rA,rB,rC,nA,nB,nC,sj]
  refine⟨((kA _ _).2.1.congr ?_),((kB _ _ _).2.1.congr ?_),(kC _ _ _ _).2.1, ?_, ?_⟩
  ·exact(U _ _ _ _ 20 (by decide)).trans (O _ _ _ 20 (by decide))
  ·exact U _ _ _ _ 27 (by decide)
  ·exact((U _ _ _ _ 2 (by decide)).trans (O _ _ _ 2 (by decide))).trans ((K _ _ 2 (by decide)).trans W)
  ·exact((U _ _ _ _ 3 (by decide)).trans (O _ _ _ 3 (by decide))).trans ((K _ _ 3 (by decide)).trans X)
 ·rintro f q _ V ⟨g9,rfl,H,I,J,W,X⟩
  have g9:an f 9= .i .i64 60:=g9
  simp only[qA,seval,gd,FU,V,g9,Int.lt_irrefl]
  exact⟨H,I,J,W,X⟩
end
end Go.Proofs.YtcpceiclnbmgiaaGreat
