/- Walks of functions of the program and of the reference, and their plain laws, part 21. Conditions: the theorems' own. -/
import Derived.Test.YtcpceiclnbmgiaaGreatM20
import Derived.KernelRfl
set_option maxRecDepth 100000
set_option linter.unusedSimpArgs false
set_option linter.unusedVariables false
set_option maxHeartbeats 16000000
namespace Go.Proofs.YtcpceiclnbmgiaaGreat
open Go Go.Ev
def lQ:List Ru:= [
 ⟨1,[115,105,122,101],.mk 17 0 [] [.mk 8 0 [] [.mk 6 0 [108,101,103,115] [],.mk 6 0 [104,101,97,100,115] []],.mk 1 3 [] []]⟩,
 ⟨1,[115,112,97,110],.mk 17 0 [] [.mk 6 0 [115,112,97,110] [],.mk 9 0 [] [.mk 2 780 [] [],.mk 10 0 [] [.mk 2 30 [] [],.mk 9 0 [] [.mk 6 0 [108,101,103,115] [],.mk 1 1 [] []]]]]⟩,
 ⟨1,[110,105,103,104,116],.mk 22 0 [] [.mk 15 0 [] [.mk 6 0 [115,116,97,114,116] [],.mk 3 1320 [] [],.mk 3 300 [] []],.mk 17 0 [] [.mk 6 0 [115,112,97,110] [],.mk 2 480 [] []]]⟩,
 ⟨1,[98,108,111,99,107],.mk 17 0 [] [.mk 6 0 [98,108,111,99,107] [],.mk 2 360 [] []]⟩,
 ⟨1,[116,121,112,101,115],.mk 17 0 [] [.mk 6 0 [116,121,112,101,115] [],.mk 1 1 [] []]⟩,
 ⟨1,[111,100,100],.mk 21 0 [] [.mk 21 0 [] [.mk 18 0 [] [.mk 6 0 [108,101,103,115] [],.mk 1 1 [] []],.mk 18 0 [] [.mk 6 0 [108,101,103,115] [],.mk 1 3 [] []]],.mk 18 0 [] [.mk 6 0 [104,101,97,100,115] [],.mk 1 1 [] []]]⟩,
 ⟨1,[103,97,112],.mk 21 0 [] [.mk 17 0 [] [.mk 6 0 [108,111,110,103,101,115,116] [],.mk 2 120 [] []],.mk 17 0 [] [.mk 2 360 [] [],.mk 6 0 [115,112,97,110] []]]⟩,
 ⟨2,[108,101,97,115,116],.mk 17 0 [] [.mk 2 480 [] [],.mk 6 0 [114,101,115,116] []]⟩,
 ⟨2,[98,101,102,111,114,101],.mk 17 0 [] [.mk 13 0 [] [.mk 2 360 [] [],.mk 6 0 [98,101,102,111,114,101,46,115,112,97,110] []],.mk 6 0 [114,101,115,116] []]⟩,
 ⟨2,[110,105,103,104,116,115],.mk 21 0 [] [.mk 17 0 [] [.mk 6 0 [110,105,103,104,116,115] [],.mk 1 1 [] []],.mk 6 0 [104,111,109,101] []]⟩,
 ⟨2,[104,111,109,101],.mk 22 0 [] [.mk 6 0 [104,111,109,101] [],.mk 17 0 [] [.mk 6 0 [114,101,115,116] [],.mk 2 1200 [] []]]⟩,
 ⟨2,[97,102,116,101,114],.mk 21 0 [] [.mk 15 0 [] [.mk 6 0 [97,102,116,101,114,46,115,116,97,114,116] [],.mk 3 360 [] [],.mk 3 1200 [] []],.mk 17 0 [] [.mk 2 540 [] [],.mk 6 0 [114,101,115,116] []]]⟩,
 ⟨3,[100,97,121,115],.mk 17 0 [] [.mk 6 0 [100,97,121,115] [],.mk 1 3 [] []]⟩,
 ⟨3,[100,117,116,105,101,115],.mk 17 0 [] [.mk 6 0 [100,117,116,105,101,115] [],.mk 1 3 [] []]⟩,
 ⟨3,[98,108,111,99,107],.mk 17 0 [] [.mk 6 0 [98,108,111,99,107] [],.mk 2 540 [] []]⟩,
 ⟨3,[99,114,101,100,105,116],.mk 17 0 [] [.mk 6 0 [99,114,101,100,105,116] [],.mk 2 720 [] []]⟩,
 ⟨3,[115,112,97,110],.mk 17 0 [] [.mk 6 0 [115,112,97,110] [],.mk 2 3000 [] []]⟩,
 ⟨3,[108,101,103,115],.mk 17 0 [] [.mk 1 2 [] [],.mk 6 0 [108,101,103,115] []]⟩]
def n6:List Co:= [
 ⟨1,.mk 8 0 [] [.mk 1 100 [] [],.mk 10 0 [] [.mk 1 10 [] [],.mk 6 0 [108,101,103,115] []]]⟩,
 ⟨1,.mk 11 0 [] [.mk 9 0 [] [.mk 6 0 [115,112,97,110] [],.mk 6 0 [98,108,111,99,107] []],.mk 2 15 [] []]⟩,
 ⟨1,.mk 14 0 [] [.mk 17 0 [] [.mk 6 0 [110,105,103,104,116] [],.mk 2 120 [] []],.mk 1 0 [] [],.mk 1 30 [] []]⟩,
 ⟨2,.mk 14 0 [] [.mk 6 0 [104,111,109,101] [],.mk 1 0 [] [],.mk 1 50 [] []]⟩,
 ⟨2,.mk 11 0 [] [.mk 6 0 [114,101,115,116] [],.mk 2 60 [] []]⟩,
 ⟨3,.mk 10 0 [] [.mk 1 20 [] [],.mk 6 0 [100,97,121,115] []]⟩,
 ⟨3,.mk 11 0 [] [.mk 13 0 [] [.mk 2 0 [] [],.mk 9 0 [] [.mk 6 0 [99,114,101,100,105,116] [],.mk 2 480 [] []]],.mk 2 30 [] []]⟩,
 ⟨1,.mk 7 0 [] [.mk 10 0 [] [.mk 1 5 [] [],.mk 6 0 [104,101,97,100,115] []]]⟩,
 ⟨1,.mk 10 0 [] [.mk 6 0 [116,121,112,101,115] [],.mk 6 0 [116,121,112,101,115] []]⟩,
 ⟨3,.mk 8 0 [] [.mk 7 0 [] [.mk 10 0 [] [.mk 1 3 [] [],.mk 6 0 [108,101,103,115] []]],.mk 6 0 [115,104,105,102,116,115] []]⟩]
def It:List Ex:= [
 .mk 13 0 [] [.mk 6 0 [98,108,111,99,107] [],.mk 2 240 [] []],
 .mk 11 0 [] [.mk 6 0 [115,112,97,110] [],.mk 1 2 [] []],
 .mk 8 0 [] [.mk 6 0 [98,108,111,99,107] [],.mk 10 0 [] [.mk 2 20 [] [],.mk 6 0 [108,101,103,115] []]]]
def shB:List Ex:= [.mk 1 2 [] [],.mk 11 0 [] [.mk 1 7 [] [],.mk 1 2 [] []],.mk 7 0 [] [.mk 1 1 [] []]]
def CT:List Nat:= [115,104,105,102,116,115]
def at3(l:List Int)(k:Nat):Int:=l.getD k 0
def rpB(k:Nat):Int:=at3 [0,45,60] k
def rlB(k:Nat):Int:=at3 [0,15,30] k
def NT(k:Nat):Int:=at3 [30,40,15] k
def FI(k:Nat):Int:=at3 [180,1440,60] k
def lyB(k:Nat):Int:=at3 [1440,960,2160] k
def nfB(k:Nat):Int:=at3 [1320,0,720] k
def ntB(k:Nat):Int:=at3 [360,300,720] k
def Bh(k:Nat):Ex:=shB.getD k (.mk 1 2 [] [])
def Ag(k:Nat→Nat)(i:List Ru)(r:List Co)(cr:List Ex):Ct:=⟨rpB (k 0),rlB (k 1),NT (k 2),FI (k 3),lyB (k 4),nfB (k 5),ntB (k 5),[(CT,Bh (k 6))],i,r,cr,[],[],0⟩
def jE{α:Type}(p:Nat→Bool):Nat→List α→List α
 |_,[]=> []
 |i,x::l=>if p i=true then x::jE p (i+1) l else jE p (i+1) l
theorem lG{α:Type}(p:Nat→Bool): ∀(i:Nat) (l:List α),(jE p i l).Sublist l
 |_,[]=>List.Sublist.slnil
 |i,x::l=>by
  rw[jE]
  split
  ·exact(lG p (i+1) l).cons_cons x
  ·exact(lG p (i+1) l).cons x
def kB(b:Nat→Int)(i:Nat):Nat:=(b i%3).toNat
def NU(b:Nat→Int):List Ex:=if b 41%4<3 then [It.getD (b 41%4).toNat (.mk 1 2 [] [])]else []
def rU(b:Nat→Int):Ct:=Ag (kB b) (jE (fun i=>decide (b (7+i)%4=0)) 0 lQ) (jE (fun i=>decide (b (30+i)%3=0)) 0 n6) (NU b)
theorem three{k:Nat}(P:Nat→Prop)(i:P 0)(r:P 1)(D:P 2)(h:k≤2):P k:=by
 have:k=0∨k=1∨k=2:=by omega
 rcases this with rfl|rfl|rfl <;> assumption
def NV(l:Cs)(u:Ru):Bool:=rk u.sc 1 3&&(ou u.nm&&(decide (jy u.x=0)&&decide (Mi l u.sc u.x 4=0)))
def NW(l:Cs)(u:Co):Bool:=rk u.sc 1 3&&(decide (jy u.x=0)&&decide (Mi l u.sc u.x 1=0))
def NX(l:Cs)(x:Ex):Bool:=decide (jy x=0)&&decide (Mi l 1 x 2=0)
theorem P8(l:Cs): ∀(r:List Ru) (seen:List (Int×List Nat)),(∀u∈r,NV l u=true)→(r.map fun u=>(u.sc,u.nm)).Nodup→(∀u∈r,(u.sc,u.nm)∉seen)→I4 seen r=0
 | [],_,_,_,_=>rfl
 |u::r,seen,F,D,H=>by
  have h:=F u List.mem_cons_self
  unfold NV at h
  simp only[Bool.and_eq_true,decide_eq_true_eq]at h
  obtain⟨a1,a2,I,J⟩:=h
  rw[List.map_cons,List.nodup_cons]at D
  rw[I4,if_neg (by simp[a1,a2]),if_neg (H u List.mem_cons_self),if_neg (by simp[I])]
  refine P8 l r _ (fun v i=>F v (List.mem_cons_of_mem _ i)) D.2 fun v i hm=> ?_
  rcases List.mem_append.1 hm with hm|hm
  ·exact H v (List.mem_cons_of_mem _ i) hm
  ·rw[List.mem_singleton]at hm
   exact D.1 (hm▸List.mem_map_of_mem (f:=fun u:Ru=>(u.sc,u.nm)) i)
theorem P9(l:Cs): ∀(r:List Co),(∀u∈r,NW l u=true)→K4 r=0
 | [],_=>rfl
 |u::r,i=>by
  have h:=i u List.mem_cons_self
  unfold NW at h
  simp only[Bool.and_eq_true,decide_eq_true_eq]at h
  rw[K4,if_neg (by simp[h.1]),if_neg (by simp[h.2.1])]
  exact P9 l r fun v D=>i v (List.mem_cons_of_mem _ D)
theorem Qa(l:Cs): ∀(r:List Ex),(∀u∈r,NX l u=true)→K5 r=0
 | [],_=>rfl
 |u::r,i=>by
  have h:=i u List.mem_cons_self
  unfold NX at h
  simp only[Bool.and_eq_true,decide_eq_true_eq]at h
  rw[K5,if_neg (by simp[h.1])]
  exact Qa l r fun v D=>i v (List.mem_cons_of_mem _ D)
theorem Qb(l:Cs): ∀(r:List Ru),(∀u∈r,NV l u=true)→Tw l r=0
 | [],_=>rfl
 |u::r,i=>by
  have h:=i u List.mem_cons_self
  unfold NV at h
  simp only[Bool.and_eq_true,decide_eq_true_eq]at h
  rw[Tw,if_neg (by simp[h.2.2.2])]
  exact Qb l r fun v D=>i v (List.mem_cons_of_mem _ D)
theorem Qc(l:Cs): ∀(r:List Co),(∀u∈r,NW l u=true)→Tx l r=0
 | [],_=>rfl
 |u::r,i=>by
  have h:=i u List.mem_cons_self
  unfold NW at h
  simp only[Bool.and_eq_true,decide_eq_true_eq]at h
  rw[Tx,if_neg (by simp[h.2.2])]
  exact Qc l r fun v D=>i v (List.mem_cons_of_mem _ D)
theorem Qd(l:Cs): ∀(r:List Ex),(∀u∈r,NX l u=true)→Xw l r=0
 | [],_=>rfl
 |u::r,i=>by
  have h:=i u List.mem_cons_self
  unfold NX at h
  simp only[Bool.and_eq_true,decide_eq_true_eq]at h
  rw[Xw,if_neg (by simp[h.2])]
  exact Qd l r fun v D=>i v (List.mem_cons_of_mem _ D)
theorem aj4(k:Nat)(h:k≤2):lQ.all (NV [(CT,Bh k)])=true:=three (fun k=>lQ.all (NV [(CT,Bh k)])=true) (by decide+kernel) (by decide+kernel) (by decide+kernel) h
theorem aj5(k:Nat)(h:k≤2):n6.all (NW [(CT,Bh k)])=true:=three (fun k=>n6.all (NW [(CT,Bh k)])=true) (by decide+kernel) (by decide+kernel) (by decide+kernel) h
theorem aj6(k:Nat)(h:k≤2):It.all (NX [(CT,Bh k)])=true:=three (fun k=>It.all (NX [(CT,Bh k)])=true) (by decide+kernel) (by decide+kernel) (by decide+kernel) h
theorem aj7(k:Nat)(h:k≤2):Mp [] [(CT,Bh k)]=0∧Z4 [(CT,Bh k)] 0 [(CT,Bh k)]=0:=three (fun k=>Mp [] [(CT,Bh k)]=0∧Z4 [(CT,Bh k)] 0 [(CT,Bh k)]=0) (by decide+kernel) (by decide+kernel) (by decide+kernel) h
theorem aj8:(lQ.map fun u=>(u.sc,u.nm)).Nodup:=by decide+kernel
theorem NY(k:Nat→Nat)(hk: ∀i,k i≤2)(r:List Ru)(D:List Co)(cr:List Ex)(H:r.Sublist lQ)(I:D.Sublist n6)(O: ∀x∈cr,x∈It)(h4:cr.length≤1):mK (Ag k r D cr)=0:=by
 have J: ∀u∈r,NV [(CT,Bh (k 6))] u=true:=fun u F=>List.all_eq_true.1 (aj4 (k 6) (hk 6)) u (H.subset F)
 have K: ∀u∈D,NW [(CT,Bh (k 6))] u=true:=fun u F=>List.all_eq_true.1 (aj5 (k 6) (hk 6)) u (I.subset F)
 have N: ∀u∈cr,NX [(CT,Bh (k 6))] u=true:=fun u F=>List.all_eq_true.1 (aj6 (k 6) (hk 6)) u (O u F)
 obtain⟨U,V⟩:=aj7 (k 6) (hk 6)
 have l1:r.length≤18:=H.length_le
 have l2:D.length≤10:=I.length_le
 have hr:qe (Ag k r D cr)=true:=by
  have a0:rk (rpB (k 0)) 0 1440=true:=three (fun k=>rk (rpB k) 0 1440=true) rfl rfl rfl (hk 0)
  have a1:rk (rlB (k 1)) 0 1440=true:=three (fun k=>rk (rlB k) 0 1440=true) rfl rfl rfl (hk 1)
  have a2:rk (NT (k 2)) 0 1440=true:=three (fun k=>rk (NT k) 0 1440=true) rfl rfl rfl (hk 2)
  have W: ∀j,j≤2→rk (FI (k 3)) (NT j) 1440=true:=fun j X=>three (fun j=>rk (FI (k 3)) (NT j) 1440=true) (three (fun k=>rk (FI k) (NT 0) 1440=true) rfl rfl rfl (hk 3)) (three (fun k=>rk (FI k) (NT 1) 1440=true) rfl rfl rfl (hk 3)) (three (fun k=>rk (FI k) (NT 2) 1440=true) rfl rfl rfl (hk 3)) X
  have Y:rk (lyB (k 4)) 0 10080=true:=three (fun k=>rk (lyB k) 0 10080=true) rfl rfl rfl (hk 4)
  have Z:rk (nfB (k 5)) 0 1439=true:=three (fun k=>rk (nfB k) 0 1439=true) rfl rfl rfl (hk 5)
  have a6:rk (ntB (k 5)) 0 1439=true:=three (fun k=>rk (ntB k) 0 1439=true) rfl rfl rfl (hk 5)
  unfold qe Ag
  simp only[a0,a1,a2,W _ (hk 2),Y,Z,a6,Bool.true_and]
  rfl
 have hs:qo (Ag k r D cr)=true:=by
  unfold qo Ag
  simp only[Bool.and_eq_true,decide_eq_true_eq,List.length_cons,List.length_nil]
  omega
 have hg:m5 (Ag k r D cr)=0:=by
  unfold m5
  rw[if_neg (by simp[hr]),if_neg (by simp[hs])]
  unfold Ag
  simp only
  rw[if_neg (by simp[U]),P8 _ r [] J (aj8.sublist (H.map _)) (by simp),if_neg (by simp),P9 _ D K,if_neg (by simp),Qa _ cr N,if_neg (by simp)]
  rfl
 unfold mK
 rw[if_neg (by simp[hg])]
 unfold Ag
 simp only
 rw[if_neg (by simp[V]),Qb _ r J,if_neg (by simp),Qc _ D K,if_neg (by simp),Qd _ cr N]
theorem YL(b:Nat→Int)(i:Nat):kB b i≤2:=by unfold kB;omega
theorem EP(b:Nat→Int):(∀x∈NU b,x∈It)∧(NU b).length≤1:=by
 unfold NU
 split
 ·rename_i h
  refine⟨fun x hx=> ?_,by simp⟩
  rw[List.mem_singleton]at hx
  subst hx
  have hk:(b 41%4).toNat<It.length:=by show(b 41%4).toNat<3;omega
  rw[List.getD_eq_getElem?_getD,List.getElem?_eq_getElem hk]
  exact List.getElem_mem hk
 ·exact⟨fun x hx=>by simp at hx,by simp⟩
theorem aj9(b:Nat→Int):mK (rU b)=0:=NY _ (YL b) _ _ _ (lG _ _ _) (lG _ _ _) (EP b).1 (EP b).2
def Iu(o:Nat→Int)(n:Nat):List Nat:=(List.range n).filter fun i=>decide (0<o i%8)
def Mq(o:Nat→Int)(n:Nat):List Int:=(Iu o n).map Int.ofNat
theorem Qe(N:Nat): ∀(l:List Nat) (p:Option Int),l.Pairwise (· < ·)→(∀x∈l,x<N)→(∀q,p=some q→ ∀x∈l,q<(x:Int))→EB N p (l.map Int.ofNat)=0
 | [],_,_,_,_=>rfl
 |x::l,p,i,D,F=>by
  rw[List.pairwise_cons]at i
  have hx:=D x List.mem_cons_self
  have ih:=Qe N l (some (x:Int)) i.2 (fun y r=>D y (List.mem_cons_of_mem _ r)) fun q H y r=>by
   cases H
   have:=i.1 y r
   omega
  rw[List.map_cons,EC]
  show(if 0≤(x:Int)∧(x:Int)<(N:Int)then _ else _)=_
  rw[if_pos (by omega)]
  cases p with
  |none=>exact ih
  |some q=>
   have I:=F q rfl x List.mem_cons_self
   simpa[show¬((x:Int)≤q)by omega]using ih
theorem aka(o:Nat→Int)(n:Nat):EB n none (Mq o n)=0:=
 Qe n _ none (List.Pairwise.filter _ List.pairwise_lt_range) (fun x hx=>List.mem_range.1 (List.mem_filter.1 hx).1) (by simp)
theorem Qf(o:Nat→Int)(n:Nat):(Mq o n).length≤n:=by
 unfold Mq Iu
 rw[List.length_map]
 exact Nat.le_trans (List.length_filter_le _ _) (by simp)
theorem YM(a:Nat→Int): ∀(m i x:Nat) (r:Int),1440000≤r→r≤1441425+915*i→i+m≤8→ ∀f∈pV a m i x r,f.dp+60≤f.ar∧1440000≤f.dp∧f.ar≤1500000
 |0,_,_,_,_,_,_,f,hf=>by simp[pV]at hf
 |m+1,i,x,r,F,H,I,f,hf=>by
  obtain⟨J,K⟩:=th (a (2+i)/16%8).toNat
  have D:wH (a (2+i)) r=r+EM (a (2+i)/16%8).toNat:=rfl
  have N:G3 (a (2+i)) r=wH (a (2+i)) r+60+15*(a (2+i)/128%6):=rfl
  have Bz:Cj (a (2+i)) r=wH (a (2+i)) r+20∨Cj (a (2+i)) r=G3 (a (2+i)) r:=by unfold Cj;split <;> simp
  rw[pV]at hf
  rcases List.mem_cons.1 hf with rfl|hf
  ·show wH _ _+60≤G3 _ _∧1440000≤wH _ _∧G3 _ _≤1500000
   omega
  ·exact YM a m (i+1) _ _ (by omega) (by push_cast;omega) (by omega) f hf
theorem we(a:Nat→Int):(rm a).fl.length=tq a:=EN a _ _ _ _
theorem agm(a:Nat→Int)(c:Ct)(hc:0≤c.cn)(i j:Nat)(h:jn c (rm a).fl i j=true):i<j:=by
 have K:=ug a
 have hl:=we a
 have F:=YM a (tq a) 0 0 (1440000+15*(a 0%96)) (by omega) (by omega) (by omega)
 have r:=P5 a (tq a) 0 0 (1440000+15*(a 0%96))
 by_cases hi:i<(rm a).fl.length
 ·by_cases D:j<(rm a).fl.length
  ·rw[PO hi D]at h
   have N:=F (rm a).fl[i] (List.getElem_mem hi)
   have O:=F (rm a).fl[j] (List.getElem_mem D)
   unfold K7 at h
   simp only[Bool.and_eq_true,decide_eq_true_eq]at h
   obtain⟨_,H,_⟩:=h
   rw[js (by omega)]at H
   have U:(rm a).fl[i].dp<(rm a).fl[j].dp:=by omega
   refine Nat.lt_of_not_le fun I=> ?_
   by_cases he:j=i
   ·subst he;omega
   ·have:=(r j i D hi).2 (by omega)
    have V:(rm a).fl[i].dp=(pV a (tq a) 0 0 (1440000+15*(a 0%96)))[i].dp:=rfl
    have W:(rm a).fl[j].dp=(pV a (tq a) 0 0 (1440000+15*(a 0%96)))[j].dp:=rfl
    omega
  ·unfold jn at h
   rw[List.getElem?_eq_none (by omega:(rm a).fl.length≤j)]at h
   cases J:(rm a).fl[i]? <;> rw[J]at h <;> cases h
 ·unfold jn at h
  rw[List.getElem?_eq_none (by omega:(rm a).fl.length≤i)]at h
  cases h
theorem adt(a:Nat→Int)(o:Nat→Int)(c:Ct)(hc:mK c=0)(H:Nat)(i:H≤2):Yp (rm a) c (Mq o (tq a)) H=0:=by
 have hk:uF (rm a) c=0:=by unfold uF;rw[YJ];simpa using hc
 unfold Yp
 rw[if_pos hk,we,if_pos (aka o _),if_neg (by omega)]
theorem akb(a:Nat→Int)(o:Nat→Int)(c:Ct)(hc:0≤c.cn)(H:Nat)(r:H≤2): ¬aj2 (rm a) c (Mq o (tq a)) H:=by
 have D:=ug a
 have hl:=we a
 unfold aj2 ac9
 rintro(h|h)
 ·exact SR _ _ _ (fun i j=>agm a c hc i j) H (by omega) r h
 ·exact adn _ _ _ _ _ (fun i j=>agm a c hc i j) H (by omega) r h
theorem akc(k:Nat→Nat)(hk: ∀i,k i≤2)(r:List Ru)(D:List Co)(cr:List Ex):0≤(Ag k r D cr).cn:=three (fun k=>0≤NT k) (by decide) (by decide) (by decide) (hk 2)
def adu(a b:Int):Int:=if a<b then-1 else qm (decide (b<a))
def Iv(x y:Int×Bool):Int:=if x.1=y.1 then qm x.2-qm y.2 else if x.1<y.1 then-1 else 1
def Bi:List (Int×Bool)→List (Int×Bool)→Int
 |x::a,y::b=>if Iv x y≠0 then Iv x y else Bi a b
 |_,_=>0
def Ck(a b:List (Int×Bool)):Int:=if Bi a b≠0 then Bi a b else adu a.length b.length
theorem LC{a b:List (Int×Bool)}(h:a= []∨b= []):Bi a b=0:=by
 rcases h with rfl|rfl
 ·rfl
 ·cases a <;> rfl
section
variable(d e:List (Int×Bool))(a b:T)(ha:IsSl a d.length (oD d))(hb:IsSl b e.length (oD e))(hd:d.length≤4611686018427387000)(he:e.length≤4611686018427387000)
include ha hb hd he
end
def jw(xs:List Int)(i:Nat):Int:=if xs.length=0 then(i:Int)%65536 else xs.getD (i%xs.length) 0%65536+((i/xs.length:Nat):Int)
theorem vv(xs:List Int)(i:Nat):0≤jw xs i:=by
 unfold jw;split
 ·omega
 ·have:(0:Int)≤((i/xs.length:Nat):Int):=Int.natCast_nonneg _
  omega
theorem lr{a b:Int}(h:0≤a):a.tmod b=a%b:=by rw[Int.tmod_eq_emod_of_nonneg h]
theorem oL(l:T)(xs:List Int)(hl:IsSl l xs.length (ints xs))(i:Nat)(hi:i<1000000):be pE 18 [l,.i .i64 (i:Int)] []=some (.i .i64 (jw xs i),[]):=by
 rw[il ag8 (by simp[c18])]
 by_cases h:xs.length=0
 ·have r:((xs.length:Nat):Int)=0:=by omega
  have ha:jw xs i=(i:Int)%65536:=by unfold jw;rw[if_pos h]
  simp only[qA,seval,c18,hl.lenI,r,ha]
 ·have r: ¬((xs.length:Nat):Int)=0:=by omega
  have D:i%xs.length<xs.length:=Nat.mod_lt _ (by omega)
  have ha:jw xs i=xs[i%xs.length]%65536+((i/xs.length:Nat):Int):=by
   unfold jw;rw[if_neg h];simp[List.getD_eq_getElem?_getD,D]
  have H:((i:Int)).tmod (xs.length:Int)=((i%xs.length:Nat):Int):=by rw[lr (Int.natCast_nonneg i)];exact(Int.natCast_emod i xs.length).symm
  have I:((i:Int)).tdiv (xs.length:Int)=((i/xs.length:Nat):Int):=by rw[Int.tdiv_eq_ediv_of_nonneg (Int.natCast_nonneg i)];exact(Int.natCast_ediv i xs.length).symm
  have F:i/xs.length≤i:=Nat.div_le_self _ _
  have J:0≤((i/xs.length:Nat):Int):=Int.natCast_nonneg _
  have K:((i/xs.length:Nat):Int)≤(i:Int):=Int.ofNat_le.2 F
  have Hp:(i:Int)<1000000:=by omega
  generalize ((i/xs.length:Nat):Int)=q at*
  have N:wr .i64 q=q:=js (by omega)
  have O:wr .i64 (xs[i%xs.length]%65536+q)=xs[i%xs.length]%65536+q:=js (by omega)
  have U: ∀kk,lY l (.i kk ((i%xs.length:Nat):Int)) 1=some (.vp (T.i .i64 xs[i%xs.length]::(ints xs).drop (i%xs.length+1))):=fun kk=>by rw[hl.ia (sz:=1) (by rw[kO];omega) D,Nat.mul_one,oX xs _ D]
  simp only[qA,jI,seval,iE,c18,hl.lenI,r,H,I,U,N,O,ha]
def qg(i:List (List Nat)):List Nat:=i.flatMap (· ++ [10])
def ER(tx:List Nat):Nat→List (List Nat)×Nat
 |0=>([],0)
 |k+1=>if tx.getD k 0=10 then((ER tx k).1++ [(tx.drop (ER tx k).2).take (k-(ER tx k).2)],k+1)else ER tx k
theorem YN(tx:List Nat): ∀k,(ER tx k).1.length≤k∧(ER tx k).2≤k
 |0=>⟨Nat.le_refl _,Nat.le_refl _⟩
 |k+1=>by
  have:=YN tx k
  rw[ER]
  split
  ·simp;omega
  ·omega
theorem LD(a l b:List Nat)(L:List (List Nat))(hl:10∉l)(h:ER (a++l++b) a.length=(L,a.length)): ∀j,j≤l.length→ER (a++l++b) (a.length+j)=(L,a.length)
 |0,_=>h
 |j+1,i=>by
  have ih:=LD a l b L hl h j (by omega)
  rw[←Nat.add_assoc,ER,ih]
  have e:(a++l++b).getD (a.length+j) 0=l[j]:=by
   rw[List.getD_eq_getElem?_getD,List.append_assoc,List.getElem?_append_right (by omega),Nat.add_sub_cancel_left,List.getElem?_append_left (by omega),List.getElem?_eq_getElem (by omega)]
   rfl
  rw[if_neg]
  rw[e]
  exact fun h=>hl (h▸List.getElem_mem _)
theorem Qg: ∀(i:List (List Nat)) (a:List Nat) (L:List (List Nat)) (tx:List Nat),(∀l∈i,10∉l)→tx=a++qg i→ER tx a.length=(L,a.length)→ER tx tx.length=(L++i,tx.length)
 | [],a,L,tx,_,e,h=>by
   have:tx=a:=by rw[e];simp[qg]
   rw[this]at h ⊢
   simpa using h
 |l::i,a,L,tx,hl,e,h=>by
  have r:tx=a++l++([10]++qg i):=by rw[e];simp[qg]
  have D:=h
  rw[r]at D
  have F:=LD a l _ L (hl l List.mem_cons_self) D l.length (Nat.le_refl _)
  rw[←r]at F
  have H:ER tx (a++l++ [10]).length=(L++ [l],(a++l++ [10]).length):=by
   rw[List.length_append,List.length_append,List.length_singleton,ER,F]
   have I:tx.getD (a.length+l.length) 0=10:=by
    rw[r,List.getD_eq_getElem?_getD,List.getElem?_append_right (by simp)]
    simp
   rw[if_pos I]
   have J:(tx.drop a.length).take (a.length+l.length-a.length)=l:=by
    rw[r,List.append_assoc,List.drop_left,Nat.add_sub_cancel_left,List.take_left]
   rw[J]
  have K:=Qg i (a++l++ [10]) (L++ [l]) tx (fun x hx=>hl x (List.mem_cons_of_mem _ hx)) (by rw[r];simp) H
  rw[K,List.append_assoc]
  rfl
def YO(tx:List Nat):Prop:=tx.length≤20000∧ ∀c∈tx,c=10∨(32≤c∧c≤126)
theorem Qh{c:Nat}:(do let a ←(some c:Option Nat);pure (a:Int))=some (c:Int):=rfl
section
variable(tx:List Nat)(hx:YO tx)
include hx
theorem aAv(fr:Fr)(lh:iq b8)(sh:List b8)(F:an fr 0= .s tx)(U:an fr 4= .i .i64 0):
  Lp pE 66 xi fr lh sh (.ext 0) fun f q s=>s=sh∧q=lh:=by
 obtain⟨DG,H⟩:=hx
 refine ky JF (fun k f q s=>an f 4= .i .i64 (k:Int)∧s=sh∧q=lh) tx.length ⟨U,rfl,rfl⟩ ?_ ?_
 ·rintro k f _ _ hk r ⟨D,rfl,rfl⟩
  have K:(k:Int)<tx.length:=by omega
  have N:=iN (k:=k) (by omega)
  have hc:=H tx[k] (List.getElem_mem hk)
  have O:tx[k]? =some tx[k]:=List.getElem?_eq_getElem hk
  have V:(0:Int)≤(k:Int):=by omega
  generalize tx[k]=c at*
  by_cases I:c=10
  ·subst I
   simp(maxDischargeDepth:=6) only[qA,seval,gd,xi,r,F,D,K,O,Qh,N]
  ·have hi: ¬((c:Nat):Int)=10:=by omega
   have BS: ¬((c:Nat):Int)<32:=by omega
   have J: ¬((c:Nat):Int)>126:=by omega
   simp(maxDischargeDepth:=6) only[qA,seval,gd,xi,r,F,D,K,O,Qh,N,hi,BS,J]
 ·rintro f _ _ r ⟨D,rfl,rfl⟩
  simp only[qA,seval,gd,xi,r,F,D,Int.lt_irrefl]
theorem aAx(fr:Fr)(lh:iq b8)(sh:List b8)(K:an fr 0= .s tx)(Y:an fr 5= .nilsl)(Z:an fr 6= .i .i64 0)(h7:an fr 7= .i .i64 0):
  Lp pE 66 xh fr lh sh (.ext 2) fun f q s=>s=sh∧jG q (an f 5) 49 1 (ER tx tx.length).1.length (strs (ER tx tx.length).1)∧an f 6= .i .i64 ((ER tx tx.length).2:Int):=by
 obtain⟨DG,hx2⟩:=hx
 refine ky JE (fun k f q s=>an f 7= .i .i64 (k:Int)∧s=sh∧jG q (an f 5) 49 1 (ER tx k).1.length (strs (ER tx k).1)∧an f 6= .i .i64 ((ER tx k).2:Int)) tx.length ⟨h7,rfl,by rw[Y];exact jG.nil,Z⟩ ?_ ?_
 ·rintro k f q _ hk H ⟨I,rfl,D,J⟩
  have V:(k:Int)<tx.length:=by omega
  have W:=iN (k:=k) (by omega)
  have N:tx[k]? =some tx[k]:=List.getElem?_eq_getElem hk
  have hD:tx.getD k 0=tx[k]:=by rw[List.getD_eq_getElem?_getD,N];rfl
  have h0k:(0:Int)≤(k:Int):=by omega
  obtain⟨b1,b2⟩:=YN tx k
  have I7:((ER tx k).2≤k∧k≤tx.length):=⟨b2,by omega⟩
  rw[ER,hD]
  generalize ER tx k=p at*
  obtain⟨L,r⟩:=p
  dsimp only at*
  have O:=fun(l:List Nat) (iR:iq b8) (U:List b8) (e:b7 iR 49=b7 q 49)=>m6 (sh:=U) (D.congr e) [.s l] rfl (bytes:=16) (by unfold roomy;omega) true
  have X:=D.notS
  generalize SS:an f 5=v5 at D O X
  generalize tx[k]=c at*
  by_cases F:c=10
  ·subst F
   simp(maxDischargeDepth:=6) only[qA,seval,gd,xh,H,K,I,J,SS,V,N,Qh,W,O,X,repl,D5,I7]
   have h:=fun U=>(O ((tx.drop r).take (k-r)) q U rfl).2.1
   rw[show strs (L++ [(tx.drop r).take (k-r)])=strs L++ [.s ((tx.drop r).take (k-r))]by simp[strs],List.length_append,List.length_singleton]
   exact h _
  ·have hi: ¬((c:Nat):Int)=10:=by omega
   simp(maxDischargeDepth:=6) only[qA,seval,gd,xh,H,K,I,J,SS,V,N,Qh,W,hi,F]
   exact D
 ·rintro f q _ H ⟨I,rfl,D,J⟩
  simp only[qA,seval,gd,xh,H,K,I,Int.lt_irrefl]
  exact⟨D,J⟩
end
theorem adv(i:List (List Nat))(h: ∀l∈i,l.length≤100∧ ∀c∈l,32≤c∧c≤126)(hl:i.length≤100):YO (qg i)∧ ∀l∈i,10∉l:=by
 refine⟨⟨?_,fun c hc=> ?_⟩,fun l hl r=> ?_⟩
 ·have: ∀m:List (List Nat),(∀l∈m,l.length≤100)→(qg m).length≤m.length*101:=by
   intro m
   induction m with
   |nil=>simp[qg]
   |cons x m ih=>
    intro D
    have F:=D x List.mem_cons_self
    have h2:=ih fun l hl=>D l (List.mem_cons_of_mem _ hl)
    have e:qg (x::m)=x++ [10]++qg m:=by simp[qg]
    rw[e,List.length_append,List.length_append,List.length_singleton,List.length_cons]
    omega
  have:=this i fun l hl=>(h l hl).1
  omega
 ·obtain⟨l,F,h2⟩:=List.mem_flatMap.1 hc
  rcases List.mem_append.1 h2 with h2|h2
  ·exact .inr ((h l F).2 c h2)
  ·exact .inl (List.mem_singleton.1 h2)
 ·have:=(h l hl).2 10 r
  omega
theorem YP(r:List (List Nat))(hx:YO (qg r))(F: ∀l∈r,10∉l)(hl:r.length≤1000):be pE 77 [.s (qg r)] []=some (.tup [lu r.length (strs r),.i .i64 0],[]):=by
 have e:=Qg r [] [] (qg r) F rfl rfl
 rw[List.nil_append]at e
 have O:=fun fr lh sh=>aAv (qg r) hx fr lh sh
 have J:=fun fr lh sh=>aAx (qg r) hx fr lh sh
 rw[e]at J
 have K:=hx.1
 have hb: ¬((qg r).length:Int)>20000:=by omega
 have U: ¬((r.length:Nat):Int)>1000:=by omega
 generalize qg r=tx at*
 rw[il aqa (by simp[c77])]
 simp(maxDischargeDepth:=6) only[qA,seval,c77,hb]
 generalize H:DC pE 66 (.loop xi) _=D
 obtain⟨f2,l2,s2,rfl,⟨rfl,rfl⟩,N⟩:=Ba JF H (O _ _ _ (by simp only[qA,seval]) (by simp only[qA,seval]))
 simp(maxDischargeDepth:=6) only[qA,seval]
 generalize H:DC pE 66 (.loop xh) _=D
 obtain⟨V,l3,s3,rfl,⟨rfl,I,W⟩,CN⟩:=Ba JE H (J _ _ _ (by simp only[qA,seval,N]) (by simp only[qA,seval]) (by simp only[qA,seval]) (by simp only[qA,seval]))
 have X:=fun m keep=>I.fzW (m:=m) (sh:=([]:List b8)) (keep:=keep)
 have Y:=I.lenI
 have Z:an V 0= .s tx:=by rw[CN 0 (by decide)];simp only[qA,seval,N]
 have q3:=I.notS
 simp(maxDischargeDepth:=6) only[qA,Ee,seval,Z,W,Y,U,Int.lt_irrefl,X]
def uh(a:Nat→Int):Nat→Nat→Nat→Int→Nat×Int
 |0,_,x,r=>(x,r)
 |m+1,i,x,r=>uh a m (i+1) (Ci (a (2+i)) x) (Cj (a (2+i)) r)
theorem LF(a:Nat→Int): ∀(m i x:Nat) (r:Int),pV a (m+1) i x r=pV a m i x r++ [uI (i+m) (a (2+(i+m))) (uh a m i x r).1 (uh a m i x r).2]
 |0,i,x,r=>by simp[pV,uh]
 |m+1,i,x,r=>by
  rw[pV,LF a m (i+1),pV,uh,List.cons_append,show i+1+m=i+(m+1)by omega]
theorem LG(a:Nat→Int): ∀(m i x:Nat) (r:Int),uh a (m+1) i x r=(Ci (a (2+(i+m))) (uh a m i x r).1,Cj (a (2+(i+m))) (uh a m i x r).2)
 |0,i,x,r=>rfl
 |m+1,i,x,r=>by
  rw[uh,LG a m (i+1),uh,show i+1+m=i+(m+1)by omega]
theorem Qi(a:Nat→Int): ∀(m i x:Nat) (r:Int),x≤2→1440000≤r→r≤1441425+915*i→(uh a m i x r).1≤2∧1440000≤(uh a m i x r).2∧(uh a m i x r).2≤1441425+915*(i+m)
 |0,i,x,r,D,F,H=>by rw[uh];exact⟨D,F,by omega⟩
 |m+1,i,x,r,D,F,H=>by
  obtain⟨K,N⟩:=th (a (2+i)/16%8).toNat
  have I:wH (a (2+i)) r=r+EM (a (2+i)/16%8).toNat:=rfl
  have O:G3 (a (2+i)) r=wH (a (2+i)) r+60+15*(a (2+i)/128%6):=rfl
  have Bz:Cj (a (2+i)) r=wH (a (2+i)) r+20∨Cj (a (2+i)) r=G3 (a (2+i)) r:=by unfold Cj;split <;> simp
  rw[uh]
  obtain⟨U,J,V⟩:=Iq (a (2+i)) x D
  have:=Qi a m (i+1) (Ci (a (2+i)) x) (Cj (a (2+i)) r) J (by omega) (by push_cast;omega)
  push_cast at this
  refine⟨this.1,this.2.1,by push_cast;omega⟩
theorem LH(a:Int)(k:IntKind):Ev.bin .shr (.i .i64 a) (.i k 7)=some (.i .i64 (a/128)):=zj (b:=7) (by omega)
theorem BZ(a:Int)(k:IntKind):Ev.bin .shr (.i .i64 a) (.i k 10)=some (.i .i64 (a/1024)):=zj (b:=10) (by omega)
def Fq:T:= .sl [.s [117,116,99],.i .i64 0,.nilsl,.s [111,115,108,111],.i .i64 60,.sl [.i .i64 1441500,.i .i64 120,.i .i64 1444000,.i .i64 60] 2 true,.s [121,111,114,107],.i .i64 (-300),.sl [.i .i64 1442900,.i .i64 (-240)] 1 true] 3 true
def Fs:T:= .sl [.s [65,65,65],.s [117,116,99],.s [66,66,66],.s [111,115,108,111],.s [67,67,67],.s [121,111,114,107]] 3 true
def gpT:T:= .sl [.i .i64 30,.i .i64 45,.i .i64 45,.i .i64 60,.i .i64 90,.i .i64 150,.i .i64 600,.i .i64 780] 8 true
def tyT:T:= .sl [.s [97,51,50,48],.s [98,55,51,55],.s [101,49,57,48]] 3 true
def cdT:T:= .sl [.s [65,65,65],.s [66,66,66],.s [67,67,67]] 3 true
theorem at5(r:Int)(D:0≤r)(F:r<8): ∃q,∀kk,lY gpT (.i kk r) 1=some (.vp (.i .i64 (EM r.toNat)::q)):=by
 have:r=0∨r=1∨r=2∨r=3∨r=4∨r=5∨r=6∨r=7:=by omega
 rcases this with rfl|rfl|rfl|rfl|rfl|rfl|rfl|rfl <;> exact⟨_,fun _=>rfl⟩
theorem at6(r:Int)(D:0≤r)(F:r<3): ∃q,∀kk,lY tyT (.i kk r) 1=some (.vp (.s (YG r.toNat)::q)):=by
 have:r=0∨r=1∨r=2:=by omega
 rcases this with rfl|rfl|rfl <;> exact⟨_,fun _=>rfl⟩
theorem YQ(x:Nat)(h:x≤2): ∃q,∀kk,lY cdT (.i kk (x:Int)) 1=some (.vp (.s (wG x)::q)):=by
 have:x=0∨x=1∨x=2:=by omega
 rcases this with rfl|rfl|rfl <;> exact⟨_,fun _=>rfl⟩
theorem akd:be pE 46 [] []=some (cdT,[]):=by
 rw[il ahg (by simp[c46])]
 unfold cdT
 simp(maxDischargeDepth:=6) only[qA,seval,c46,repl]
theorem aAA(k:Nat)(h:k<256):aa3 (.sl [.i .u8 (k:Int)] 1 true)=some (.s [k]):=by
 show(if k<256 then some (T.s [k])else none)=_
 rw[if_pos h]
theorem ttG{HP:iq b8}{r D F:T}{H:List T}{I:List Fl}{y:Fl}{i g:Nat}(h:jG HP r 91 9 (i+1) (I.flatMap I9++H))(e:I9 y=H): ∃v,jG HP v 91 9 (i+1) ((I++ [y]).flatMap I9)∧(⟨g,.cells [D,F,r] 0 true⟩:b8)=⟨g,.cells [D,F,v] 0 true⟩:=by
 refine⟨r, ?_,rfl⟩
 rw[List.flatMap_append,List.flatMap_cons,List.flatMap_nil,List.append_nil,e]
 exact h
theorem LI(i:Nat)(n:Int)(x:Nat)(r:Int){A B:Nat}(ha:P2 n x=A)(hb:Ci n x=B):I9 (uI i n x r)= [.s [70,48+i],.s (wG A),.s (wG B),.i .i64 (wH n r),.i .i64 (G3 n r),.s (YG (n/1024%3).toNat),.i .i64 1,.i .i64 1,.i .i64 2]:=by
 subst ha hb
 rfl
section
variable(xs:List Int)(la:T)(hl:IsSl la xs.length (ints xs))
include hl
theorem ttl(V:Int)(G5:1440000≤V)(FY:V≤1441425)(zT aT:T)(g:Nat)(fr:Fr)(lh:iq b8)(sh:List b8)(h0:an fr 0=la)(h3:an fr 3= .ptr .L 3 g 0)(h4:an fr 4= .i .i64 0)(h5:an fr 5= .i .i64 V)(h6:an fr 6=gpT)(h7:an fr 7=tyT)(h8:an fr 8= .i .i64 0)(W:b7 lh 3=⟨g,.cells [zT,aT,.nilsl] 0 true⟩):
  Lp pE 102 oM fr lh sh (.ext 0) fun f l s=>s=sh∧b7 l 2=b7 lh 2∧ ∃v,jG l v 91 9 (tq (jw xs)) ((pV (jw xs) (tq (jw xs)) 0 0 V).flatMap I9)∧b7 l 3=⟨g,.cells [zT,aT,v] 0 true⟩:=by
 refine ky Jc (fun i f l s=>an f 8= .i .i64 (i:Int)∧an f 4= .i .i64 ((uh (jw xs) i 0 0 V).1:Int)∧an f 5= .i .i64 (uh (jw xs) i 0 0 V).2∧s=sh∧b7 l 2=b7 lh 2∧ ∃v,jG l v 91 9 i ((pV (jw xs) i 0 0 V).flatMap I9)∧b7 l 3=⟨g,.cells [zT,aT,v] 0 true⟩) (tq (jw xs)) ⟨h8,h4,h5,rfl,rfl,.nilsl,jG.nil,W⟩ ?_ ?_
 ·rintro i f l _ hi Z ⟨g8,X,g5,rfl,o2,v,hO,W⟩
  have hn:=ug (jw xs)
  have a1:=oL la xs hl 1 (by omega)
  have kR:=oL la xs hl (2+i) (by omega)
  have n1:=vv xs 1
  have n2:=vv xs (2+i)
  have Z5:(i:Int)<2+jw xs 1%6:=by unfold tq at hi;omega
  have t1:(jw xs 1).tmod 6=jw xs 1%6:=lr n1
  have w1:wr .i64 (2+jw xs 1%6)=2+jw xs 1%6:=js (by omega)
  have w2:wr .i64 (2+(i:Int))=((2+i:Nat):Int):=by rw[js (by omega)];omega
  have hw:=iN (k:=i) (by omega)
  have nM:=LG (jw xs) i 0 0 V
  have FW:=LF (jw xs) i 0 0 V
  have hrg:=Qi (jw xs) i 0 0 V (by omega) (by omega) (by omega)
  rw[Nat.zero_add]at nM FW
  obtain⟨r1,r2,r3⟩:=hrg
  rw[nM,FW]
  generalize (uh (jw xs) i 0 0 V).1=x at*
  generalize (uh (jw xs) i 0 0 V).2=ck at*
  generalize pV (jw xs) i 0 0 V=fs at*
  have Z6:be pE 18 [la,.i .i64 1] []=some (.i .i64 (jw xs 1),[]):=a1
  generalize jw xs 1=m1 at*
  generalize jw xs (2+i)=n at*
  have t7:n.tmod 7=n%7:=lr n2
  have H:n.tmod 11=n%11:=lr n2
  have t5:n.tmod 5=n%5:=lr n2
  have t2:(n/8).tmod 2=n/8%2:=lr (by omega)
  have t8:(n/16).tmod 8=n/16%8:=lr (by omega)
  have t6:(n/128).tmod 6=n/128%6:=lr (by omega)
  have t3:(n/1024).tmod 3=n/1024%3:=lr (by omega)
  obtain⟨q1,e1⟩:=at5 (n/16%8) (by omega) (by omega)
  obtain⟨q2,e2⟩:=at6 (n/1024%3) (by omega) (by omega)
  obtain⟨g1,g2⟩:=th (n/16%8).toNat
  obtain⟨u1,u2,u3⟩:=Iq n x r1
  obtain⟨q3,e3⟩:=YQ (P2 n x) u3
  obtain⟨q4,e4⟩:=YQ (Ci n x) u2
  have Bz:=akd
  have hdp:wH n ck=ck+EM (n/16%8).toNat:=rfl
  have nq:G3 n ck=wH n ck+60+15*(n/128%6):=rfl
  have hz:=hl.froz
  have hi6:i≤6:=by omega
  have I:wr .i64 (48+(i:Int))=((48+i:Nat):Int):=by rw[js (by omega)];omega
  have w8:wr .u8 ((48+i:Nat):Int)=((48+i:Nat):Int):=by
   have:i=0∨i=1∨i=2∨i=3∨i=4∨i=5∨i=6:=by omega
   rcases this with rfl|rfl|rfl|rfl|rfl|rfl|rfl <;> rfl
  have sx:=aAA (48+i) (by omega)
  have w9:wr .i64 (ck+EM (n/16%8).toNat)=wH n ck:=by rw[js (by omega)];rfl
  have J:wr .i64 (wH n ck+60)=wH n ck+60:=js (by omega)
  have K:wr .i64 (15*(n/128%6))=15*(n/128%6):=js (by omega)
  have N:wr .i64 (wH n ck+60+15*(n/128%6))=G3 n ck:=by rw[js (by omega)];rfl
  have O:wr .i64 (wH n ck+20)=wH n ck+20:=js (by omega)
  have U:wr .i64 (1+n/8%2)=1+n/8%2:=js (by omega)
  have F:=fun(ps:List T) (vV:ps.length=9) (iR:iq b8) (iT:List b8) (e:b7 iR 91=b7 l 91)=>m6 (bytes:=104) (sh:=iT) (hO.congr e) ps vV (by unfold roomy;omega) true
  have mJ:=fun ps vV iR iT e=>(F ps vV iR iT e).2.1.cells
  have J9:=fun ps vV iR iT e=>(F ps vV iR iT e).2.1.noTup
  have ux:=hO.notS
  obtain⟨G,hG⟩: ∃G,(b7 l 12).g+1=G:=⟨_,rfl⟩
  have e0:lY cdT (.i .i64 0) 1=some (.vp [.s (wG 0),.s (wG 1),.s (wG 2)]):=rfl
  have e8: ∃q,lY cdT (.i .i64 (1+n/8%2)) 1=some (.vp (.s (wG (1+(n/8%2).toNat))::q)):=by
   obtain⟨q,h⟩:=YQ (1+(n/8%2).toNat) (by omega)
   refine⟨q, ?_⟩
   have:(1+n/8%2:Int)=((1+(n/8%2).toNat:Nat):Int):=by omega
   rw[this]
   exact h .i64
  obtain⟨q8,e8⟩:=e8
  generalize cdT=cdT at*
  by_cases hA:n%7=6
  ·have ha:P2 n x=0:=if_pos hA
   have Ih:Ci n x=1+(n/8%2).toNat:=by unfold Ci;rw[if_pos ha]
   have r:(1+n/8%2:Int)=((Ci n x:Nat):Int):=by rw[Ih];omega
   by_cases D:n%5=4
   ·have hc:Cj n ck=wH n ck+20:=if_pos D
    simp(maxDischargeDepth:=6) only[qA,seval,gd,repl,jI,sW,lj,iE,oM,Z,h0,h3,h6,h7,g8,X,g5,W,Z6,kR,t1,w1,w2,Z5,hw,hz,t7,H,t5,t2,t8,t6,t3,e1,e2,e0,e8,Bz,I,w8,sx,w9,J,K,N,O,U,F,mJ,J9,ux,hG,hA,D,LH,BZ,sA,JT,JU,BM,pP,List.length_cons,List.length_nil]
    exact⟨congrArg (T.i .i64) r,congrArg (T.i .i64) (hc.symm),o2,ttG ((mG (by decide)).mpr (F _ rfl _ _ (by simp only[qA,seval])).2.1) (LI i n x ck ha Ih)⟩
   ·have hc:Cj n ck=G3 n ck:=if_neg D
    simp(maxDischargeDepth:=6) only[qA,seval,gd,repl,jI,sW,lj,iE,oM,Z,h0,h3,h6,h7,g8,X,g5,W,Z6,kR,t1,w1,w2,Z5,hw,hz,t7,H,t5,t2,t8,t6,t3,e1,e2,e0,e8,Bz,I,w8,sx,w9,J,K,N,O,U,F,mJ,J9,ux,hG,hA,D,LH,BZ,sA,JT,JU,BM,pP,List.length_cons,List.length_nil]
    exact⟨congrArg (T.i .i64) r,congrArg (T.i .i64) (hc.symm),o2,ttG ((mG (by decide)).mpr (F _ rfl _ _ (by simp only[qA,seval])).2.1) (LI i n x ck ha Ih)⟩
  ·have Y:P2 n x=x:=if_neg hA
   by_cases hx:x=0
   ·subst hx
    have ha:P2 n 0=0:=Y
    have Ih:Ci n 0=1+(n/8%2).toNat:=by unfold Ci;rw[if_pos ha]
    have r:(1+n/8%2:Int)=((Ci n 0:Nat):Int):=by rw[Ih];omega
    have X:an f 4= .i .i64 0:=X
    by_cases D:n%5=4
    ·have hc:Cj n ck=wH n ck+20:=if_pos D
     simp(maxDischargeDepth:=6) only[qA,seval,gd,repl,jI,sW,lj,iE,oM,Z,h0,h3,h6,h7,g8,X,g5,W,Z6,kR,t1,w1,w2,Z5,hw,hz,t7,H,t5,t2,t8,t6,t3,e1,e2,e0,e8,Bz,I,w8,sx,w9,J,K,N,O,U,F,mJ,J9,ux,hG,hA,D,LH,BZ,sA,JT,JU,BM,pP,List.length_cons,List.length_nil]
     exact⟨congrArg (T.i .i64) r,congrArg (T.i .i64) (hc.symm),o2,ttG ((mG (by decide)).mpr (F _ rfl _ _ (by simp only[qA,seval])).2.1) (LI i n 0 ck ha Ih)⟩
    ·have hc:Cj n ck=G3 n ck:=if_neg D
     simp(maxDischargeDepth:=6) only[qA,seval,gd,repl,jI,sW,lj,iE,oM,Z,h0,h3,h6,h7,g8,X,g5,W,Z6,kR,t1,w1,w2,Z5,hw,hz,t7,H,t5,t2,t8,t6,t3,e1,e2,e0,e8,Bz,I,w8,sx,w9,J,K,N,O,U,F,mJ,J9,ux,hG,hA,D,LH,BZ,sA,JT,JU,BM,pP,List.length_cons,List.length_nil]
     exact⟨congrArg (T.i .i64) r,congrArg (T.i .i64) (hc.symm),o2,ttG ((mG (by decide)).mpr (F _ rfl _ _ (by simp only[qA,seval])).2.1) (LI i n 0 ck ha Ih)⟩
   ·have ha:P2 n x=x:=Y
    have AU: ¬((x:Nat):Int)=0:=by omega
    rw[Y]at e3
    by_cases hE:n%11=10
    ·have Ih:Ci n x=3-x:=by unfold Ci;rw[Y,if_neg hx,if_pos hE]
     have w15:wr .i64 (3-(x:Int))=3-(x:Int):=js (by omega)
     have e6: ∃q,lY cdT (.i .i64 (3-(x:Int))) 1=some (.vp (.s (wG (3-x))::q)):=⟨q4,by
      have:(3-(x:Int))=((Ci n x:Nat):Int):=by rw[Ih];omega
      rw[this,←Ih];exact e4 .i64⟩
     obtain⟨q6,e6⟩:=e6
     have r:(3-(x:Int))=((Ci n x:Nat):Int):=by rw[Ih];omega
     by_cases D:n%5=4
     ·have hc:Cj n ck=wH n ck+20:=if_pos D
      simp(maxDischargeDepth:=6) only[qA,seval,gd,repl,jI,sW,lj,iE,oM,Z,h0,h3,h6,h7,g8,X,g5,W,Z6,kR,t1,w1,w2,Z5,hw,hz,t7,H,t5,t2,t8,t6,t3,e1,e2,e0,e8,Bz,I,w8,sx,w9,J,K,N,O,U,F,mJ,J9,ux,hG,hA,D,LH,BZ,sA,JT,JU,BM,pP,List.length_cons,List.length_nil,AU,hE,w15,e3,e6]
      exact⟨congrArg (T.i .i64) r,congrArg (T.i .i64) (hc.symm),o2,ttG ((mG (by decide)).mpr (F _ rfl _ _ (by simp only[qA,seval])).2.1) (LI i n x ck ha Ih)⟩
     ·have hc:Cj n ck=G3 n ck:=if_neg D
      simp(maxDischargeDepth:=6) only[qA,seval,gd,repl,jI,sW,lj,iE,oM,Z,h0,h3,h6,h7,g8,X,g5,W,Z6,kR,t1,w1,w2,Z5,hw,hz,t7,H,t5,t2,t8,t6,t3,e1,e2,e0,e8,Bz,I,w8,sx,w9,J,K,N,O,U,F,mJ,J9,ux,hG,hA,D,LH,BZ,sA,JT,JU,BM,pP,List.length_cons,List.length_nil,AU,hE,w15,e3,e6]
      exact⟨congrArg (T.i .i64) r,congrArg (T.i .i64) (hc.symm),o2,ttG ((mG (by decide)).mpr (F _ rfl _ _ (by simp only[qA,seval])).2.1) (LI i n x ck ha Ih)⟩
    ·have Ih:Ci n x=0:=by unfold Ci;rw[Y,if_neg hx,if_neg hE]
     have r:(0:Int)=((Ci n x:Nat):Int):=by rw[Ih];rfl
     by_cases D:n%5=4
     ·have hc:Cj n ck=wH n ck+20:=if_pos D
      simp(maxDischargeDepth:=6) only[qA,seval,gd,repl,jI,sW,lj,iE,oM,Z,h0,h3,h6,h7,g8,X,g5,W,Z6,kR,t1,w1,w2,Z5,hw,hz,t7,H,t5,t2,t8,t6,t3,e1,e2,e0,e8,Bz,I,w8,sx,w9,J,K,N,O,U,F,mJ,J9,ux,hG,hA,D,LH,BZ,sA,JT,JU,BM,pP,List.length_cons,List.length_nil,AU,hE,e3]
      exact⟨congrArg (T.i .i64) r,congrArg (T.i .i64) (hc.symm),o2,ttG ((mG (by decide)).mpr (F _ rfl _ _ (by simp only[qA,seval])).2.1) (LI i n x ck ha Ih)⟩
     ·have hc:Cj n ck=G3 n ck:=if_neg D
      simp(maxDischargeDepth:=6) only[qA,seval,gd,repl,jI,sW,lj,iE,oM,Z,h0,h3,h6,h7,g8,X,g5,W,Z6,kR,t1,w1,w2,Z5,hw,hz,t7,H,t5,t2,t8,t6,t3,e1,e2,e0,e8,Bz,I,w8,sx,w9,J,K,N,O,U,F,mJ,J9,ux,hG,hA,D,LH,BZ,sA,JT,JU,BM,pP,List.length_cons,List.length_nil,AU,hE,e3]
      exact⟨congrArg (T.i .i64) r,congrArg (T.i .i64) (hc.symm),o2,ttG ((mG (by decide)).mpr (F _ rfl _ _ (by simp only[qA,seval])).2.1) (LI i n x ck ha Ih)⟩
 ·rintro f l _ Z ⟨g8,X,g5,rfl,o2,v,hO,W⟩
  have hn:=ug (jw xs)
  have a1:=oL la xs hl 1 (by omega)
  have n1:=vv xs 1
  have t1:(jw xs 1).tmod 6=jw xs 1%6:=lr n1
  have w1:wr .i64 (2+jw xs 1%6)=2+jw xs 1%6:=js (by omega)
  have Z5: ¬((tq (jw xs):Nat):Int)<2+jw xs 1%6:=by unfold tq;omega
  have Z6:be pE 18 [la,.i .i64 1] []=some (.i .i64 (jw xs 1),[]):=a1
  have hz:=hl.froz
  simp(maxDischargeDepth:=6) only[qA,seval,gd,oM,Z,h0,g8,Z6,t1,w1,Z5,hz,sA]
  exact⟨o2,v,hO,W⟩
omit hl in
theorem ake:be pE 27 [] []=some (Fq,[])∧be pE 28 [] []=some (Fs,[]):=by
 refine⟨?_, ?_⟩
 ·rw[il apC (by simp[c27])]
  unfold Fq
  simp(maxDischargeDepth:=6) only[qA,seval,c27,repl]
 ·rw[il apD (by simp[c28])]
  unfold Fs
  simp(maxDischargeDepth:=6) only[qA,seval,c28,repl]
theorem akf: ∃v,be pE 19 [la] []=some (.agg [Fq,Fs,v],[])∧v=lu (tq (jw xs)) ((rm (jw xs)).fl.flatMap I9):=by
 refine⟨_, ?_,rfl⟩
 have F:be pE 18 [la,.i .i64 0] []=some (.i .i64 (jw xs 0),[]):=oL la xs hl 0 (by omega)
 have n0:=vv xs 0
 have N:=fun fr lh sh F h3 h4 h5 h6 h7 h8 H=>ttl xs la hl (1440000+15*(jw xs 0%96)) (by omega) (by omega) Fq Fs 1 fr lh sh F h3 h4 h5 h6 h7 h8 H
 have t0:(jw xs 0).tmod 96=jw xs 0%96:=lr n0
 have w0:wr .i64 (15*(jw xs 0%96))=15*(jw xs 0%96):=js (by omega)
 have w1:wr .i64 (1440000+15*(jw xs 0%96))=1440000+15*(jw xs 0%96):=js (by omega)
 obtain⟨z1,z2⟩:=ake
 have hz:=hl.froz
 have O:froz1 Fq=true:=rfl
 have U:froz1 Fs=true:=rfl
 have V:froz Fq=true:=rfl
 have W:froz Fs=true:=rfl
 have X:cellsOf Fq= [Fq]:=rfl
 have Y:cellsOf Fs= [Fs]:=rfl
 have Z:noTup Fq=true:=rfl
 have k8:noTup Fs=true:=rfl
 rw[il apy (by simp[c19])]
 have r:gpT= .sl [.i .i64 30,.i .i64 45,.i .i64 45,.i .i64 60,.i .i64 90,.i .i64 150,.i .i64 600,.i .i64 780] 8 true:=rfl
 have Ab:tyT= .sl [.s [97,51,50,48],.s [98,55,51,55],.s [101,49,57,48]] 3 true:=rfl
 unfold rm
 simp only
 generalize Fq=zT at*
 generalize Fs=aT at*
 simp(maxDischargeDepth:=6) only[qA,seval,c19,repl,z1,z2,F,t0,w0,w1,hz,O,U,V,W,X,Y,Z,k8,sA,axG,axH,←r,←Ab]
 generalize hD:DC pE 102 (.loop oM) _=D
 obtain⟨f2,l2,s2,rfl,⟨rfl,o2,v,I,H⟩,J⟩:=Ba Jc hD (N _ _ _ (by simp only[qA,seval]) (by simp only[qA,seval]) (by simp only[qA,seval]) (by simp only[qA,seval]) (by simp only[qA,seval,r]) (by simp only[qA,seval,Ab]) (by simp only[qA,seval]) (by simp only[qA,seval]))
 have q2:an f2 2= .ptr .L 2 1 0:=by rw[J 2 (by decide)];simp only[qA,seval]
 have q3:an f2 3= .ptr .L 3 1 0:=by rw[J 3 (by decide)];simp only[qA,seval]
 have K:b7 l2 2=⟨1,.cells [.nilsl,.nilsl,.nilsl] 0 true⟩:=by rw[o2];simp only[qA,seval]
 have ez:=fun e m sh keep=>jG.fzW (m:=m) (sh:=sh) (keep:=keep) (I.congr (jz l2 e (show(91:Nat)≠2 by decide)))
 have mJ:=I.cells
 have J9:=I.noTup
 clear J N
 simp(maxDischargeDepth:=6) only[qA,Ee,seval,q2,q3,K,H,ez,mJ,J9,O,U,V,W,X,Y,Z,k8]
end
end Go.Proofs.YtcpceiclnbmgiaaGreat
