/- Walks of functions of the program and of the reference, and their plain laws, part 22. Conditions: the theorems' own. -/
import Derived.Test.YtcpceiclnbmgiaaGreatM21
import Derived.KernelRfl
set_option maxRecDepth 100000
set_option linter.unusedSimpArgs false
set_option linter.unusedVariables false
set_option maxHeartbeats 16000000
namespace Go.Proofs.YtcpceiclnbmgiaaGreat
open Go Go.Ev
def atR(f:Nat→Int)(n:Nat):List Int:=(List.range n).map f
theorem Qj(f:Nat→Int)(n:Nat):(atR f n).length=n:=by simp[atR]
theorem YR(o:Nat→Int)(k:Nat):Iu o (k+1)=if 0<o k%8 then Iu o k++ [k]else Iu o k:=by
 unfold Iu
 rw[List.range_succ,List.filter_append]
 by_cases h:0<o k%8 <;> simp[h]
theorem adw(o:Nat→Int)(n:Nat):(Iu o n).length≤n:=by unfold Iu;exact Nat.le_trans (List.length_filter_le _ _) (by simp)
section
variable(xs:List Int)(l:T)(hl:IsSl l xs.length (ints xs))(zT aT fT:T)(N:Nat)(fc:List T)(hf:IsSl fT N fc)(hN:N≤1000)
include hl hf hN
theorem aAC(fr:Fr)(lh:iq b8)(sh:List b8)(W:an fr 1=l)(K:an fr 2= .ptr .L 2 1 0)(h5:an fr 5= .nilsl)(h6:an fr 6= .i .i64 0)(o2:b7 lh 2=⟨1,.cells [zT,aT,fT] 0 true⟩):
  Lp pE 24 wW fr lh sh (.ext 0) fun f q s=>s=sh∧jG q (an f 5) 22 1 (Iu (jw xs) N).length (ints ((Iu (jw xs) N).map Int.ofNat))∧b7 q 2=⟨1,.cells [zT,aT,fT] 0 true⟩:=by
 have O:=hf.lenI
 refine ky Jd (fun k f q s=>an f 6= .i .i64 (k:Int)∧s=sh∧jG q (an f 5) 22 1 (Iu (jw xs) k).length (ints ((Iu (jw xs) k).map Int.ofNat))∧b7 q 2=⟨1,.cells [zT,aT,fT] 0 true⟩) N ⟨h6,rfl,by rw[h5];exact jG.nil,o2⟩ ?_ ?_
 ·rintro k f q _ hk F ⟨H,rfl,D,Ja⟩
  have X:(k:Int)<N:=by omega
  have Y:=iN (k:=k) (by omega)
  have Z:=oL l xs hl k (by omega)
  have I:=Ja
  have hz:=hl.froz
  have hlen:=adw (jw xs) k
  have U:=vv xs k
  have J:=fun(iR:iq b8) (iT:List b8) (e:b7 iR 22=b7 q 22)=>m6 (sh:=iT) (D.congr e) [.i .i64 (k:Int)] rfl (bytes:=8) (by unfold roomy;omega) true
  have V:=D.notS
  have ht:(jw xs k).tmod 8=jw xs k%8:=lr U
  rw[YR]
  generalize Iu (jw xs) k=r at*
  generalize SS:an f 5=v5 at D J V
  by_cases hb:0<jw xs k%8
  ·simp(maxDischargeDepth:=6) only[qA,seval,gd,wW,F,W,K,H,I,O,X,Y,Z,ht,hb,sA,hz,SS,J,V,repl]
   obtain⟨_,k1,k2⟩:=J q _ rfl
   rw[show ints ((r++ [k]).map Int.ofNat)=ints (r.map Int.ofNat)++ [.i .i64 (k:Int)]by simp[ints],show(r++ [k]).length=r.length+1 by simp]
   exact by first|exact k1|exact⟨k1,(k2 2 (by decide)).trans Ja⟩
  ·simp(maxDischargeDepth:=6) only[qA,seval,gd,wW,F,W,K,H,I,O,X,Y,Z,ht,hb,sA,hz,SS,J,V,repl]
   exact D
 ·rintro f q _ F ⟨H,rfl,D,Ja⟩
  have I:=Ja
  simp only[qA,seval,gd,wW,F,K,I,H,O,Int.lt_irrefl]
  exact D
theorem akg(i:froz1 zT=true∧froz1 aT=true∧froz1 fT=true):be pE 22 [.agg [zT,aT,fT],l] []=some (lu (Iu (jw xs) N).length (ints ((Iu (jw xs) N).map Int.ofNat)),[]):=by
 have r:=fun fr lh sh=>aAC xs l hl zT aT fT N fc hf hN fr lh sh
 obtain⟨F,H,I⟩:=i
 rw[il ahb (by simp[c22])]
 simp(maxDischargeDepth:=6) only[qA,seval,c22,F,H,I]
 generalize J:DC pE 24 (.loop wW) _=D
 obtain⟨O,U,V,rfl,⟨rfl,K,Ja⟩,W⟩:=Ba Jd J (r _ _ _ (by simp only[qA,seval]) (by simp only[qA,seval]) (by simp only[qA,seval]) (by simp only[qA,seval]) (by simp only[qA,seval]))
 have e:=K.fzV (sh:=([]:List b8)) (keep:=false)
 simp(maxDischargeDepth:=6) only[qA,Ee,seval,e]
end
def zP:List (List Nat):= [[100,117,116,121,32,114,117,108,101,32,115,105,122,101,32,105,115,32,108,101,103,115,32,43,32,104,101,97,100,115,32,60,61,32,51],
 [100,117,116,121,32,114,117,108,101,32,115,112,97,110,32,105,115,32,115,112,97,110,32,60,61,32,49,51,58,48,48,32,45,32,48,58,51,48,32,42,32,40,108,101,103,115,32,45,32,49,41],
 [100,117,116,121,32,114,117,108,101,32,110,105,103,104,116,32,105,115,32,115,116,97,114,116,32,105,110,32,64,50,50,58,48,48,32,116,111,32,64,48,53,58,48,48,32,105,109,112,108,105,101,115,32,115,112,97,110,32,60,61,32,56,58,48,48],
 [100,117,116,121,32,114,117,108,101,32,98,108,111,99,107,32,105,115,32,98,108,111,99,107,32,60,61,32,54,58,48,48],
 [100,117,116,121,32,114,117,108,101,32,116,121,112,101,115,32,105,115,32,116,121,112,101,115,32,60,61,32,49],
 [100,117,116,121,32,114,117,108,101,32,111,100,100,32,105,115,32,108,101,103,115,32,61,32,49,32,111,114,32,108,101,103,115,32,61,32,51,32,111,114,32,104,101,97,100,115,32,61,32,49],
 [100,117,116,121,32,114,117,108,101,32,103,97,112,32,105,115,32,108,111,110,103,101,115,116,32,60,61,32,50,58,48,48,32,111,114,32,54,58,48,48,32,60,61,32,115,112,97,110],
 [114,101,115,116,32,114,117,108,101,32,108,101,97,115,116,32,105,115,32,56,58,48,48,32,60,61,32,114,101,115,116],
 [114,101,115,116,32,114,117,108,101,32,98,101,102,111,114,101,32,105,115,32,109,97,120,40,54,58,48,48,44,32,98,101,102,111,114,101,46,115,112,97,110,41,32,60,61,32,114,101,115,116],
 [114,101,115,116,32,114,117,108,101,32,110,105,103,104,116,115,32,105,115,32,110,105,103,104,116,115,32,60,61,32,49,32,111,114,32,104,111,109,101],
 [114,101,115,116,32,114,117,108,101,32,104,111,109,101,32,105,115,32,104,111,109,101,32,105,109,112,108,105,101,115,32,114,101,115,116,32,60,61,32,50,48,58,48,48],
 [114,101,115,116,32,114,117,108,101,32,97,102,116,101,114,32,105,115,32,97,102,116,101,114,46,115,116,97,114,116,32,105,110,32,64,48,54,58,48,48,32,116,111,32,64,50,48,58,48,48,32,111,114,32,57,58,48,48,32,60,61,32,114,101,115,116],
 [112,97,105,114,105,110,103,32,114,117,108,101,32,100,97,121,115,32,105,115,32,100,97,121,115,32,60,61,32,51],
 [112,97,105,114,105,110,103,32,114,117,108,101,32,100,117,116,105,101,115,32,105,115,32,100,117,116,105,101,115,32,60,61,32,51],
 [112,97,105,114,105,110,103,32,114,117,108,101,32,98,108,111,99,107,32,105,115,32,98,108,111,99,107,32,60,61,32,57,58,48,48],
 [112,97,105,114,105,110,103,32,114,117,108,101,32,99,114,101,100,105,116,32,105,115,32,99,114,101,100,105,116,32,60,61,32,49,50,58,48,48],
 [112,97,105,114,105,110,103,32,114,117,108,101,32,115,112,97,110,32,105,115,32,115,112,97,110,32,60,61,32,53,48,58,48,48],
 [112,97,105,114,105,110,103,32,114,117,108,101,32,108,101,103,115,32,105,115,32,50,32,60,61,32,108,101,103,115]]
def zQ:List (List Nat):= [[100,117,116,121,32,99,111,115,116,32,105,115,32,49,48,48,32,43,32,49,48,32,42,32,108,101,103,115],
 [100,117,116,121,32,99,111,115,116,32,105,115,32,40,115,112,97,110,32,45,32,98,108,111,99,107,41,32,47,32,48,58,49,53],
 [100,117,116,121,32,99,111,115,116,32,105,115,32,105,102,32,110,105,103,104,116,32,60,61,32,50,58,48,48,32,116,104,101,110,32,48,32,101,108,115,101,32,51,48],
 [114,101,115,116,32,99,111,115,116,32,105,115,32,105,102,32,104,111,109,101,32,116,104,101,110,32,48,32,101,108,115,101,32,53,48],
 [114,101,115,116,32,99,111,115,116,32,105,115,32,114,101,115,116,32,47,32,49,58,48,48],
 [112,97,105,114,105,110,103,32,99,111,115,116,32,105,115,32,50,48,32,42,32,100,97,121,115],
 [112,97,105,114,105,110,103,32,99,111,115,116,32,105,115,32,109,97,120,40,48,58,48,48,44,32,99,114,101,100,105,116,32,45,32,56,58,48,48,41,32,47,32,48,58,51,48],
 [100,117,116,121,32,99,111,115,116,32,105,115,32,45,40,53,32,42,32,104,101,97,100,115,41],
 [100,117,116,121,32,99,111,115,116,32,105,115,32,116,121,112,101,115,32,42,32,116,121,112,101,115],
 [112,97,105,114,105,110,103,32,99,111,115,116,32,105,115,32,45,40,51,32,42,32,108,101,103,115,41,32,43,32,115,104,105,102,116,115]]
def Mr:List (List Nat):= [[100,117,116,121,32,99,114,101,100,105,116,32,105,115,32,109,97,120,40,98,108,111,99,107,44,32,52,58,48,48,41],
 [100,117,116,121,32,99,114,101,100,105,116,32,105,115,32,115,112,97,110,32,47,32,50],
 [100,117,116,121,32,99,114,101,100,105,116,32,105,115,32,98,108,111,99,107,32,43,32,48,58,50,48,32,42,32,108,101,103,115]]
def En(r:Int):List Nat:=([[48,58,48,48],[48,58,52,53],[49,58,48,48]]:List (List Nat)).getD r.toNat []
def U7(r:Int):List Nat:=([[48,58,48,48],[48,58,49,53],[48,58,51,48]]:List (List Nat)).getD r.toNat []
def MA(r:Int):List Nat:=([[48,58,51,48],[48,58,52,48],[48,58,49,53]]:List (List Nat)).getD r.toNat []
def Ti(r:Int):List Nat:=([[51,58,48,48],[50,52,58,48,48],[49,58,48,48]]:List (List Nat)).getD r.toNat []
def hv4(r:Int):List Nat:=([[50,52,58,48,48],[49,54,58,48,48],[51,54,58,48,48]]:List (List Nat)).getD r.toNat []
def SS(r:Int):List Nat:=([[64,50,50,58,48,48,32,116,111,32,64,48,54,58,48,48],[64,48,48,58,48,48,32,116,111,32,64,48,53,58,48,48],[64,49,50,58,48,48,32,116,111,32,64,49,50,58,48,48]]:List (List Nat)).getD r.toNat []
def Tz(r:Int):List Nat:=([[50],[55,32,47,32,50],[45,40,49,41]]:List (List Nat)).getD r.toNat []
def Z7(b:Nat→Int):List (List Nat):= [[114,101,112,111,114,116,32]++En (b 0%3),[114,101,108,101,97,115,101,32]++U7 (b 1%3),[99,111,110,110,101,99,116,32]++MA (b 2%3),[115,105,116,32]++Ti (b 3%3),[108,97,121,111,118,101,114,32]++hv4 (b 4%3),[110,105,103,104,116,32]++SS (b 5%3),[99,111,110,115,116,32,115,104,105,102,116,115,32,105,115,32]++Tz (b 6%3)]
def crD(b:Nat→Int):List (List Nat):=if b 41%4<3 then [Mr.getD (b 41%4).toNat []]else []
def CU(b:Nat→Int)(i:Nat):Bool:=decide (b (7+i)%4=0)
def Iw(b:Nat→Int)(i:Nat):Bool:=decide (b (30+i)%3=0)
def SU(b:Nat→Int):List (List Nat):=Z7 b++jE (CU b) 0 zP++jE (Iw b) 0 zQ++crD b
theorem LJ{α:Type}(p:Nat→Bool): ∀(i:Nat) (a b:List α),jE p i (a++b)=jE p i a++jE p (i+a.length) b
 |_,[],b=>rfl
 |i,x::a,b=>by
  rw[List.cons_append,jE,jE,LJ p (i+1) a b,List.length_cons,show i+1+a.length=i+(a.length+1)by omega]
  split <;> simp
theorem wg{α:Type}(p:Nat→Bool)(l:List α)(k:Nat)(hk:k<l.length):jE p 0 (l.take (k+1))=jE p 0 (l.take k)++if p k=true then [l[k]]else []:=by
 rw[List.take_succ_eq_append_getElem hk,LJ,List.length_take,Nat.min_eq_left (by omega),Nat.zero_add,jE]
 rfl
theorem zR(a b:List (List Nat)):qg (a++b)=qg a++qg b:=by unfold qg;rw[List.flatMap_append]
theorem Ix(a:List Nat):qg [a]=a++ [10]:=by simp[qg]
theorem ES(a b c:List Nat)(r:Int)(D:0≤r)(F:r<3): ∃q,∀kk,lY (.sl [.s a,.s b,.s c] 3 true) (.i kk r) 1=some (.vp (.s (([a,b,c]:List (List Nat)).getD r.toNat [])::q)):=by
 have:r=0∨r=1∨r=2:=by omega
 rcases this with rfl|rfl|rfl <;> exact⟨_,fun _=>rfl⟩
theorem zS{v:T}{L:List (List Nat)}(r:IsSl v L.length (strs L))(k:Nat)(hk:k<L.length): ∃q,∀kk,lY v (.i kk (k:Int)) 1=some (.vp (.s L[k]::q)):=by
 refine⟨(strs L).drop (k+1),fun kk=> ?_⟩
 rw[r.ia (sz:=1) (by simp[strs]) hk,Nat.mul_one,List.drop_eq_getElem_cons (by simp[strs];exact hk)]
 simp[strs]
theorem aki:be pE 81 [] []=some (.sl (strs zP) 18 true,[]):=by
 rw[il aqc (by simp[c81])]
 simp(maxDischargeDepth:=6) only[qA,seval,c81,repl,strs,zP]
theorem akj:be pE 82 [] []=some (.sl (strs zQ) 10 true,[]):=by
 rw[il aqd (by simp[c82])]
 simp(maxDischargeDepth:=6) only[qA,seval,c82,repl,strs,zQ]
theorem akk:be pE 83 [] []=some (.sl (strs Mr) 3 true,[]):=by
 rw[il aqf (by simp[c83])]
 simp(maxDischargeDepth:=6) only[qA,seval,c83,repl,strs,Mr]
theorem Qk: ∀(i:List (List Nat)),(∀l∈i,l.length≤100)→(qg i).length≤i.length*101
 | [],_=>by simp[qg]
 |x::m,r=>by
  have D:=r x List.mem_cons_self
  have F:=Qk m fun l hl=>r l (List.mem_cons_of_mem _ hl)
  have e:qg (x::m)=x++ [10]++qg m:=by simp[qg]
  rw[e,List.length_append,List.length_append,List.length_singleton,List.length_cons]
  omega
theorem CV(p:Nat→Bool)(l:List (List Nat))(h: ∀x∈l,x.length≤100)(k:Nat):(qg (jE p 0 (l.take k))).length≤k*101:=by
 have i:=(lG p 0 (l.take k)).length_le
 have r:=Qk (jE p 0 (l.take k)) fun x hx=>h x (List.mem_of_mem_take ((lG p 0 (l.take k)).subset hx))
 have D:(l.take k).length≤k:=by rw[List.length_take];omega
 have F:(jE p 0 (l.take k)).length*101≤k*101:=Nat.mul_le_mul_right _ (by omega)
 omega
theorem Iy: ∀x∈zP,x.length≤100:=by decide
theorem Iz: ∀x∈zQ,x.length≤100:=by decide
theorem adx: ∀x∈Mr,x.length≤100:=by decide
theorem xQ(a b c:List Nat)(n:Nat)(h:a.length≤20∧b.length≤20∧c.length≤20):(([a,b,c]:List (List Nat)).getD n []).length≤20:=by
 match n with
 |0=>exact h.1
 |1=>exact h.2.1
 |2=>exact h.2.2
 |n+3=>simp
section
variable(xs:List Int)(la:T)(hl:IsSl la xs.length (ints xs))
include hl
theorem aAD(F:List Nat)(hs0:F.length≤5000)(fr:Fr)(lh:iq b8)(sh:List b8)(K:an fr 0=la)(h3:an fr 3= .s F)(I:an fr 4= .sl (strs zP) 18 true)(h5:an fr 5= .i .i64 0):
  Lp pE 119 xb fr lh sh (.ext 0) fun f l s=>s=sh∧l=lh∧an f 3= .s (F++qg (jE (CU (jw xs)) 0 zP)):=by
 have IV:zP.length=18:=rfl
 have J:IsSl (T.sl (strs zP) 18 true) zP.length (strs zP):= .inr ⟨_,rfl⟩
 have O:=hl.froz
 generalize T.sl (strs zP) 18 true=v at*
 refine ky Jj (fun k f l s=>an f 5= .i .i64 (k:Int)∧s=sh∧l=lh∧an f 3= .s (F++qg (jE (CU (jw xs)) 0 (zP.take k)))) 18 ⟨h5,rfl,rfl,by rw[h3];simp[jE,qg]⟩ ?_ ?_
 ·rintro k f _ _ hk H ⟨r,rfl,rfl,g3⟩
  have U:(k:Int)<18:=by omega
  have V:=iN (k:=k) (by omega)
  have W:=oL la xs hl (7+k) (by omega)
  have X:wr .i64 (7+(k:Int))=((7+k:Nat):Int):=by rw[js (by omega)];omega
  have hn:=vv xs (7+k)
  have Y:(jw xs (7+k)).tmod 4=jw xs (7+k)%4:=lr hn
  obtain⟨q,Z⟩:=zS J k (by omega)
  have D:=J.lenI
  rw[IV]at D
  rw[wg _ _ k (by omega)]
  have hp:CU (jw xs) k=decide (jw xs (7+k)%4=0):=rfl
  rw[hp]
  have b1:=CV (CU (jw xs)) zP Iy k
  have b2:=Iy zP[k] (List.getElem_mem (by omega))
  generalize jE (CU (jw xs)) 0 (zP.take k)=S at*
  generalize zP[k]=R at*
  by_cases hb:jw xs (7+k)%4=0
  ·simp(maxDischargeDepth:=6) only[qA,seval,gd,xb,H,K,I,r,g3,D,U,V,W,X,Y,Z,O,hb,sA]
   simp[zR,Ix,List.append_assoc]
   exact⟨fun _ h=>absurd h (by omega),fun h=>absurd h (by omega)⟩
  ·simp(maxDischargeDepth:=6) only[qA,seval,gd,xb,H,K,I,r,g3,D,U,V,W,X,Y,Z,O,hb,sA]
 ·rintro f _ _ H ⟨r,rfl,rfl,g3⟩
  have D:=J.lenI
  rw[IV]at D
  have ht:zP.take 18=zP:=rfl
  rw[ht]at g3
  have r:an f 5= .i .i64 18:=r
  simp only[qA,seval,gd,xb,H,I,r,D,Int.lt_irrefl]
  exact g3
theorem aAE(F:List Nat)(hs0:F.length≤5000)(fr:Fr)(lh:iq b8)(sh:List b8)(K:an fr 0=la)(h3:an fr 3= .s F)(I:an fr 6= .sl (strs zQ) 10 true)(h5:an fr 7= .i .i64 0):
  Lp pE 119 wZ fr lh sh (.ext 2) fun f l s=>s=sh∧l=lh∧an f 3= .s (F++qg (jE (Iw (jw xs)) 0 zQ)):=by
 have IV:zQ.length=10:=rfl
 have J:IsSl (T.sl (strs zQ) 10 true) zQ.length (strs zQ):= .inr ⟨_,rfl⟩
 have O:=hl.froz
 generalize T.sl (strs zQ) 10 true=v at*
 refine ky Ji (fun k f l s=>an f 7= .i .i64 (k:Int)∧s=sh∧l=lh∧an f 3= .s (F++qg (jE (Iw (jw xs)) 0 (zQ.take k)))) 10 ⟨h5,rfl,rfl,by rw[h3];simp[jE,qg]⟩ ?_ ?_
 ·rintro k f _ _ hk H ⟨r,rfl,rfl,g3⟩
  have U:(k:Int)<10:=by omega
  have V:=iN (k:=k) (by omega)
  have W:=oL la xs hl (30+k) (by omega)
  have X:wr .i64 (30+(k:Int))=((30+k:Nat):Int):=by rw[js (by omega)];omega
  have hn:=vv xs (30+k)
  have Y:(jw xs (30+k)).tmod 3=jw xs (30+k)%3:=lr hn
  obtain⟨q,Z⟩:=zS J k (by omega)
  have D:=J.lenI
  rw[IV]at D
  rw[wg _ _ k (by omega)]
  have hp:Iw (jw xs) k=decide (jw xs (30+k)%3=0):=rfl
  rw[hp]
  have b1:=CV (Iw (jw xs)) zQ Iz k
  have b2:=Iz zQ[k] (List.getElem_mem (by omega))
  generalize jE (Iw (jw xs)) 0 (zQ.take k)=S at*
  generalize zQ[k]=R at*
  by_cases hb:jw xs (30+k)%3=0
  ·simp(maxDischargeDepth:=6) only[qA,seval,gd,wZ,H,K,I,r,g3,D,U,V,W,X,Y,Z,O,hb,sA]
   simp[zR,Ix,List.append_assoc]
   exact⟨fun _ h=>absurd h (by omega),fun h=>absurd h (by omega)⟩
  ·simp(maxDischargeDepth:=6) only[qA,seval,gd,wZ,H,K,I,r,g3,D,U,V,W,X,Y,Z,O,hb,sA]
 ·rintro f _ _ H ⟨r,rfl,rfl,g3⟩
  have D:=J.lenI
  rw[IV]at D
  have ht:zQ.take 10=zQ:=rfl
  rw[ht]at g3
  have r:an f 7= .i .i64 10:=r
  simp only[qA,seval,gd,wZ,H,I,r,D,Int.lt_irrefl]
  exact g3
theorem ady:be pE 48 [la] []=some (.s (qg (SU (jw xs))),[]):=by
 have h0:be pE 18 [la,.i .i64 0] []=some (.i .i64 (jw xs 0),[]):=oL la xs hl 0 (by omega)
 have h1:be pE 18 [la,.i .i64 1] []=some (.i .i64 (jw xs 1),[]):=oL la xs hl 1 (by omega)
 have h2:be pE 18 [la,.i .i64 2] []=some (.i .i64 (jw xs 2),[]):=oL la xs hl 2 (by omega)
 have h3:be pE 18 [la,.i .i64 3] []=some (.i .i64 (jw xs 3),[]):=oL la xs hl 3 (by omega)
 have h4:be pE 18 [la,.i .i64 4] []=some (.i .i64 (jw xs 4),[]):=oL la xs hl 4 (by omega)
 have h5:be pE 18 [la,.i .i64 5] []=some (.i .i64 (jw xs 5),[]):=oL la xs hl 5 (by omega)
 have h6:be pE 18 [la,.i .i64 6] []=some (.i .i64 (jw xs 6),[]):=oL la xs hl 6 (by omega)
 have Xk:be pE 18 [la,.i .i64 41] []=some (.i .i64 (jw xs 41),[]):=oL la xs hl 41 (by omega)
 have U:=fun i=>vv xs i
 have ht:=fun i=>lr (b:=3) (U i)
 have r:=lr (b:=4) (U 41)
 obtain⟨q0,V⟩:=ES [48,58,48,48] [48,58,52,53] [49,58,48,48] (jw xs 0%3) (by omega) (by omega)
 change ∀kk,lY _ _ 1=some (.vp (.s (En (jw xs 0%3))::q0))at V
 obtain⟨q1,W⟩:=ES [48,58,48,48] [48,58,49,53] [48,58,51,48] (jw xs 1%3) (by omega) (by omega)
 change ∀kk,lY _ _ 1=some (.vp (.s (U7 (jw xs 1%3))::q1))at W
 obtain⟨q2,X⟩:=ES [48,58,51,48] [48,58,52,48] [48,58,49,53] (jw xs 2%3) (by omega) (by omega)
 change ∀kk,lY _ _ 1=some (.vp (.s (MA (jw xs 2%3))::q2))at X
 obtain⟨q3,Y⟩:=ES [51,58,48,48] [50,52,58,48,48] [49,58,48,48] (jw xs 3%3) (by omega) (by omega)
 change ∀kk,lY _ _ 1=some (.vp (.s (Ti (jw xs 3%3))::q3))at Y
 obtain⟨q4,Z⟩:=ES [50,52,58,48,48] [49,54,58,48,48] [51,54,58,48,48] (jw xs 4%3) (by omega) (by omega)
 change ∀kk,lY _ _ 1=some (.vp (.s (hv4 (jw xs 4%3))::q4))at Z
 obtain⟨q5,e5⟩:=ES [64,50,50,58,48,48,32,116,111,32,64,48,54,58,48,48] [64,48,48,58,48,48,32,116,111,32,64,48,53,58,48,48] [64,49,50,58,48,48,32,116,111,32,64,49,50,58,48,48] (jw xs 5%3) (by omega) (by omega)
 change ∀kk,lY _ _ 1=some (.vp (.s (SS (jw xs 5%3))::q5))at e5
 obtain⟨q6,e6⟩:=ES [50] [55,32,47,32,50] [45,40,49,41] (jw xs 6%3) (by omega) (by omega)
 change ∀kk,lY _ _ 1=some (.vp (.s (Tz (jw xs 6%3))::q6))at e6
 have hz:=hl.froz
 have hru:=aki
 have uB:=akj
 have Rp:=akk
 have ZU:=fun s0 hs fr lh sh=>aAD xs la hl s0 hs fr lh sh
 have FM:=fun s0 hs fr lh sh=>aAE xs la hl s0 hs fr lh sh
 have y0:(En (jw xs 0%3)).length≤20:=xQ _ _ _ _ (by decide)
 have y1:(U7 (jw xs 1%3)).length≤20:=xQ _ _ _ _ (by decide)
 have y2:(MA (jw xs 2%3)).length≤20:=xQ _ _ _ _ (by decide)
 have y3:(Ti (jw xs 3%3)).length≤20:=xQ _ _ _ _ (by decide)
 have y4:(hv4 (jw xs 4%3)).length≤20:=xQ _ _ _ _ (by decide)
 have y5:(SS (jw xs 5%3)).length≤20:=xQ _ _ _ _ (by decide)
 have y6:(Tz (jw xs 6%3)).length≤20:=xQ _ _ _ _ (by decide)
 have hcv:IsSl (T.sl (strs Mr) 3 true) Mr.length (strs Mr):= .inr ⟨_,rfl⟩
 have at8: ∀h:jw xs 41%4<3,∃q,∀kk,lY (T.sl (strs Mr) 3 true) (.i kk (jw xs 41%4)) 1=some (.vp (.s (Mr.getD (jw xs 41%4).toNat [])::q)):=fun h=>by
  have hk:(jw xs 41%4).toNat<Mr.length:=by show(jw xs 41%4).toNat<3;omega
  obtain⟨q,e⟩:=zS hcv (jw xs 41%4).toNat hk
  have h0:=U 41
  rw[Int.toNat_of_nonneg (by omega)]at e
  refine⟨q,fun kk=> ?_⟩
  rw[e,List.getD_eq_getElem?_getD,List.getElem?_eq_getElem hk]
  rfl
 unfold SU crD
 rw[zR,zR,zR]
 generalize T.sl (strs Mr) 3 true=crT at*
 generalize aGX:T.sl (strs zP) 18 true=lN at*
 generalize aGY:T.sl (strs zQ) 10 true=ET at*
 generalize ZK:En (jw xs 0%3)=x0 at*
 generalize DG:U7 (jw xs 1%3)=x1 at*
 generalize F:MA (jw xs 2%3)=x2 at*
 generalize H:Ti (jw xs 3%3)=x3 at*
 generalize I:hv4 (jw xs 4%3)=x4 at*
 generalize J:SS (jw xs 5%3)=x5 at*
 generalize K:Tz (jw xs 6%3)=x6 at*
 have hHl:(qg (Z7 (jw xs))).length≤1000:=by
  simp only[qg,Z7,ZK,DG,F,H,I,J,K,List.flatMap_cons,List.flatMap_nil,List.length_append,List.length_cons,List.length_nil]
  omega
 have hH:=Eq.refl (qg (Z7 (jw xs)))
 conv at hH=>
  rhs
  simp only[qg,Z7,ZK,DG,F,H,I,J,K,List.flatMap_cons,List.flatMap_nil,List.append_nil,List.append_assoc,List.cons_append,List.nil_append]
 have IV:(qg (jE (CU (jw xs)) 0 zP)).length≤18*101:=CV (CU (jw xs)) zP Iy 18
 have mJ:(qg (jE (Iw (jw xs)) 0 zQ)).length≤10*101:=CV (Iw (jw xs)) zQ Iz 10
 generalize qg (jE (CU (jw xs)) 0 zP)=XR at*
 generalize qg (jE (Iw (jw xs)) 0 zQ)=XC at*
 generalize qg (Z7 (jw xs))=HB at*
 rw[il apN (by simp[c48])]
 simp(maxDischargeDepth:=6) only[qA,jI,sW,iE,seval,c48,repl,h0,h1,h2,h3,h4,h5,h6,ht,V,W,X,Y,Z,e5,e6,hz,hru,uB,Rp,sA,axA,aya,aqe,aqg]
 repeat refine Eq.trans (if_pos (by first|omega|(simp only[List.length_append,List.length_cons,List.length_nil];omega))) ?_
 generalize O:DC pE 119 (.loop xb) _=D
 obtain⟨f2,l2,s2,rfl,⟨rfl,rfl,g3⟩,mM⟩:=Ba Jj O (ZU HB (by omega) _ _ _ (by simp only[qA,seval]) (by rw[hH];simp only[qA,seval,List.append_assoc]) (by simp only[qA,seval]) (by simp only[qA,seval]))
 have p0:an f2 0=la:=by rw[mM 0 (by decide)];simp only[qA,seval]
 clear mM O hH V W X Y Z e5 e6
 simp(maxDischargeDepth:=6) only[qA,seval,uB,aqe]
 generalize O:DC pE 119 (.loop wZ) _=D
 obtain⟨f3,l3,s3,rfl,⟨rfl,rfl,k3⟩,CN⟩:=Ba Ji O (FM (HB++XR) (by rw[List.length_append];omega) _ _ _ (by simp only[qA,seval,p0]) (by simp only[qA,seval,g3]) (by simp only[qA,seval]) (by simp only[qA,seval]))
 have p1:an f3 0=la:=by rw[CN 0 (by decide)];simp only[qA,seval,p0]
 clear CN O FM ZU
 by_cases h:jw xs 41%4<3
 ·obtain⟨q,e⟩:=at8 h
  have b1:(Mr.getD (jw xs 41%4).toNat []).length≤20*5:=by
   have hk:(jw xs 41%4).toNat<Mr.length:=by show(jw xs 41%4).toNat<3;omega
   rw[List.getD_eq_getElem?_getD,List.getElem?_eq_getElem hk]
   exact adx _ (List.getElem_mem hk)
  rw[if_pos h,Ix]
  generalize Mr.getD (jw xs 41%4).toNat []=CR at*
  have hA:(HB++XR++XC).length≤10000:=by simp only[List.length_append];omega
  generalize HB++XR++XC=A at*
  simp(maxDischargeDepth:=6) only[qA,seval,p1,k3,Xk,r,hz,h,Rp,e,sA,aqg]
  repeat refine Eq.trans (if_pos (by first|omega|(simp only[List.length_append,List.length_cons,List.length_nil];omega))) ?_
  simp only[List.append_assoc]
 ·rw[if_neg h]
  have ht0:qg []= []:=rfl
  rw[ht0]
  simp(maxDischargeDepth:=6) only[qA,seval,p1,k3,Xk,r,hz,h,sA]
end
theorem EU(f:Nat→Int)(k:Nat):ints (atR f (k+1))=ints (atR f k)++ [.i .i64 (f k)]:=by simp[atR,ints,List.range_succ]
section
variable(xs:List Int)(la:T)(hl:IsSl la xs.length (ints xs))
include hl
theorem aAF(fr:Fr)(lh:iq b8)(sh:List b8)(h0:an fr 0=la)(h6:an fr 6= .nilsl)(h7:an fr 7= .nilsl)(h8:an fr 8= .nilsl)(h9:an fr 9= .i .i64 0):
  Lp pE 44 F2 fr lh sh (.ext 0) fun f q s=>s=sh∧jG q (an f 6) 20 1 60 (ints (atR (jw xs) 60))∧jG q (an f 7) 27 1 60 (ints (atR (fun i=>jw xs (60+i)) 60))∧jG q (an f 8) 34 1 60 (ints (atR (fun i=>jw xs (120+i)) 60))∧b7 q 2=b7 lh 2∧b7 q 3=b7 lh 3:=by
 refine ky Ov (fun k f q s=>an f 9= .i .i64 (k:Int)∧s=sh∧jG q (an f 6) 20 1 k (ints (atR (jw xs) k))∧jG q (an f 7) 27 1 k (ints (atR (fun i=>jw xs (60+i)) k))∧jG q (an f 8) 34 1 k (ints (atR (fun i=>jw xs (120+i)) k))∧b7 q 2=b7 lh 2∧b7 q 3=b7 lh 3) 60 ⟨h9,rfl,by rw[h6];exact jG.nil,by rw[h7];exact jG.nil,by rw[h8];exact jG.nil,rfl,rfl⟩ ?_ ?_
 ·rintro k f q _ hk V ⟨g9,rfl,H,I,J,W,X⟩
  have iX:(k:Int)<60:=by omega
  have hw:=iN (k:=k) (by omega)
  have e1:=oL la xs hl k (by omega)
  have e2:=oL la xs hl (60+k) (by omega)
  have e3:=oL la xs hl (120+k) (by omega)
  have w2:wr .i64 (60+(k:Int))=((60+k:Nat):Int):=by rw[js (by omega)];omega
  have w3:wr .i64 (120+(k:Int))=((120+k:Nat):Int):=by rw[js (by omega)];omega
  have hz:=hl.froz
  have pA:=fun(x:T) (D:iq b8) (r:List b8) (e:b7 D 20=b7 q 20)=>m6 (sh:=r) (H.congr e) [x] rfl (bytes:=8) (by unfold roomy;omega) true
  have pB:=fun(x:T) (D:iq b8) (r:List b8) (e:b7 D 27=b7 q 27)=>m6 (sh:=r) (I.congr e) [x] rfl (bytes:=8) (by unfold roomy;omega) true
  have pC:=fun(x:T) (D:iq b8) (r:List b8) (e:b7 D 34=b7 q 34)=>m6 (sh:=r) (J.congr e) [x] rfl (bytes:=8) (by unfold roomy;omega) true
  have nA:=H.notS
  have nB:=I.notS
  have nC:=J.notS
  rw[EU,EU,EU]
  generalize Tz:an f 6=v6 at*
  generalize Y:an f 7=v7 at*
  generalize Z:an f 8=v8 at*
  have kA:=fun x r=>pA x q r rfl
  have K:=fun x r j F=>(kA x r).2.2 j F
  have kB:=fun x y r=>pB y (WS q r 20 1 8 v6 (.sl [x] 1 true)) r (K x r 27 (by decide))
  have O:=fun x y r j F=>(kB x y r).2.2 j F
  have kC:=fun x y z r=>pC z (WS (WS q r 20 1 8 v6 (.sl [x] 1 true)) r 27 1 8 v7 (.sl [y] 1 true)) r ((O x y r 34 (by decide)).trans (K x r 34 (by decide)))
  have U:=fun x y z r j F=>(kC x y z r).2.2 j F
  have rA:=fun x r=>(kA x r).1
  have rB:=fun x y r=>(kB x y r).1
  have rC:=fun x y z r=>(kC x y z r).1
  simp(maxDischargeDepth:=6) only[qA,seval,gd,repl,F2,V,h0,g9,Tz,Y,Z,iX,hw,e1,e2,e3,w2,w3,hz,rA,rB,rC,nA,nB,nC,sA]
  refine⟨((kA _ _).2.1.congr ?_),((kB _ _ _).2.1.congr ?_),(kC _ _ _ _).2.1, ?_, ?_⟩
  ·exact(U _ _ _ _ 20 (by decide)).trans (O _ _ _ 20 (by decide))
  ·exact U _ _ _ _ 27 (by decide)
  ·exact((U _ _ _ _ 2 (by decide)).trans (O _ _ _ 2 (by decide))).trans ((K _ _ 2 (by decide)).trans W)
  ·exact((U _ _ _ _ 3 (by decide)).trans (O _ _ _ 3 (by decide))).trans ((K _ _ 3 (by decide)).trans X)
 ·rintro f q _ V ⟨g9,rfl,H,I,J,W,X⟩
  have g9:an f 9= .i .i64 60:=g9
  simp only[qA,seval,gd,F2,V,g9,Int.lt_irrefl]
  exact⟨H,I,J,W,X⟩
end
end Go.Proofs.YtcpceiclnbmgiaaGreat
