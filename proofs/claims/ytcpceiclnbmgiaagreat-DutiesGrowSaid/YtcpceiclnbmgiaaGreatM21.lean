/- Walks of functions of the program and of the reference, and their plain laws, part 21. Conditions: the theorems' own. -/
import Derived.Test.YtcpceiclnbmgiaaGreatM20
import Derived.KernelRfl
set_option maxRecDepth 100000
set_option linter.unusedSimpArgs false
set_option linter.unusedVariables false
set_option maxHeartbeats 16000000
namespace Go.Proofs.YtcpceiclnbmgiaaGreat
open Go Go.Ev
def lU:List Ru:= [
 ⟨1,[115,105,122,101],.mk 17 0 [] [.mk 8 0 [] [.mk 6 0 [108,101,103,115] [],.mk 6 0 [104,101,97,100,115] []],.mk 1 3 [] []]⟩,
 ⟨1,[115,112,97,110],.mk 17 0 [] [.mk 6 0 [115,112,97,110] [],.mk 9 0 [] [.mk 2 780 [] [],.mk 10 0 [] [.mk 2 30 [] [],.mk 9 0 [] [.mk 6 0 [108,101,103,115] [],.mk 1 1 [] []]]]]⟩,
 ⟨1,[110,105,103,104,116],.mk 22 0 [] [.mk 15 0 [] [.mk 6 0 [115,116,97,114,116] [],.mk 3 1320 [] [],.mk 3 300 [] []],.mk 17 0 [] [.mk 6 0 [115,112,97,110] [],.mk 2 480 [] []]]⟩,
 ⟨1,[98,108,111,99,107],.mk 17 0 [] [.mk 6 0 [98,108,111,99,107] [],.mk 2 360 [] []]⟩,
 ⟨1,[116,121,112,101,115],.mk 17 0 [] [.mk 6 0 [116,121,112,101,115] [],.mk 1 1 [] []]⟩,
 ⟨1,[111,100,100],.mk 21 0 [] [.mk 21 0 [] [.mk 18 0 [] [.mk 6 0 [108,101,103,115] [],.mk 1 1 [] []],.mk 18 0 [] [.mk 6 0 [108,101,103,115] [],.mk 1 3 [] []]],.mk 18 0 [] [.mk 6 0 [104,101,97,100,115] [],.mk 1 1 [] []]]⟩,
 ⟨1,[103,97,112],.mk 21 0 [] [.mk 17 0 [] [.mk 6 0 [108,111,110,103,101,115,116] [],.mk 2 120 [] []],.mk 17 0 [] [.mk 2 360 [] [],.mk 6 0 [115,112,97,110] []]]⟩,
 ⟨2,[108,101,97,115,116],.mk 17 0 [] [.mk 2 480 [] [],.mk 6 0 [114,101,115,116] []]⟩,
 ⟨2,[98,101,102,111,114,101],.mk 17 0 [] [.mk 13 0 [] [.mk 2 360 [] [],.mk 6 0 [98,101,102,111,114,101,46,115,112,97,110] []],.mk 6 0 [114,101,115,116] []]⟩,
 ⟨2,[110,105,103,104,116,115],.mk 21 0 [] [.mk 17 0 [] [.mk 6 0 [110,105,103,104,116,115] [],.mk 1 1 [] []],.mk 6 0 [104,111,109,101] []]⟩,
 ⟨2,[104,111,109,101],.mk 22 0 [] [.mk 6 0 [104,111,109,101] [],.mk 17 0 [] [.mk 6 0 [114,101,115,116] [],.mk 2 1200 [] []]]⟩,
 ⟨2,[97,102,116,101,114],.mk 21 0 [] [.mk 15 0 [] [.mk 6 0 [97,102,116,101,114,46,115,116,97,114,116] [],.mk 3 360 [] [],.mk 3 1200 [] []],.mk 17 0 [] [.mk 2 540 [] [],.mk 6 0 [114,101,115,116] []]]⟩,
 ⟨3,[100,97,121,115],.mk 17 0 [] [.mk 6 0 [100,97,121,115] [],.mk 1 3 [] []]⟩,
 ⟨3,[100,117,116,105,101,115],.mk 17 0 [] [.mk 6 0 [100,117,116,105,101,115] [],.mk 1 3 [] []]⟩,
 ⟨3,[98,108,111,99,107],.mk 17 0 [] [.mk 6 0 [98,108,111,99,107] [],.mk 2 540 [] []]⟩,
 ⟨3,[99,114,101,100,105,116],.mk 17 0 [] [.mk 6 0 [99,114,101,100,105,116] [],.mk 2 720 [] []]⟩,
 ⟨3,[115,112,97,110],.mk 17 0 [] [.mk 6 0 [115,112,97,110] [],.mk 2 3000 [] []]⟩,
 ⟨3,[108,101,103,115],.mk 17 0 [] [.mk 1 2 [] [],.mk 6 0 [108,101,103,115] []]⟩]
def pM:List Co:= [
 ⟨1,.mk 8 0 [] [.mk 1 100 [] [],.mk 10 0 [] [.mk 1 10 [] [],.mk 6 0 [108,101,103,115] []]]⟩,
 ⟨1,.mk 11 0 [] [.mk 9 0 [] [.mk 6 0 [115,112,97,110] [],.mk 6 0 [98,108,111,99,107] []],.mk 2 15 [] []]⟩,
 ⟨1,.mk 14 0 [] [.mk 17 0 [] [.mk 6 0 [110,105,103,104,116] [],.mk 2 120 [] []],.mk 1 0 [] [],.mk 1 30 [] []]⟩,
 ⟨2,.mk 14 0 [] [.mk 6 0 [104,111,109,101] [],.mk 1 0 [] [],.mk 1 50 [] []]⟩,
 ⟨2,.mk 11 0 [] [.mk 6 0 [114,101,115,116] [],.mk 2 60 [] []]⟩,
 ⟨3,.mk 10 0 [] [.mk 1 20 [] [],.mk 6 0 [100,97,121,115] []]⟩,
 ⟨3,.mk 11 0 [] [.mk 13 0 [] [.mk 2 0 [] [],.mk 9 0 [] [.mk 6 0 [99,114,101,100,105,116] [],.mk 2 480 [] []]],.mk 2 30 [] []]⟩,
 ⟨1,.mk 7 0 [] [.mk 10 0 [] [.mk 1 5 [] [],.mk 6 0 [104,101,97,100,115] []]]⟩,
 ⟨1,.mk 10 0 [] [.mk 6 0 [116,121,112,101,115] [],.mk 6 0 [116,121,112,101,115] []]⟩,
 ⟨3,.mk 8 0 [] [.mk 7 0 [] [.mk 10 0 [] [.mk 1 3 [] [],.mk 6 0 [108,101,103,115] []]],.mk 6 0 [115,104,105,102,116,115] []]⟩]
def Im:List Ex:= [
 .mk 13 0 [] [.mk 6 0 [98,108,111,99,107] [],.mk 2 240 [] []],
 .mk 11 0 [] [.mk 6 0 [115,112,97,110] [],.mk 1 2 [] []],
 .mk 8 0 [] [.mk 6 0 [98,108,111,99,107] [],.mk 10 0 [] [.mk 2 20 [] [],.mk 6 0 [108,101,103,115] []]]]
def shB:List Ex:= [.mk 1 2 [] [],.mk 11 0 [] [.mk 1 7 [] [],.mk 1 2 [] []],.mk 7 0 [] [.mk 1 1 [] []]]
def B9:List Nat:= [115,104,105,102,116,115]
def at3(l:List Int)(k:Nat):Int:=l.getD k 0
def rpB(k:Nat):Int:=at3 [0,45,60] k
def rlB(k:Nat):Int:=at3 [0,15,30] k
def MW(k:Nat):Int:=at3 [30,40,15] k
def EV(k:Nat):Int:=at3 [180,1440,60] k
def lyB(k:Nat):Int:=at3 [1440,960,2160] k
def nfB(k:Nat):Int:=at3 [1320,0,720] k
def ntB(k:Nat):Int:=at3 [360,300,720] k
def AE(k:Nat):Ex:=shB.getD k (.mk 1 2 [] [])
def D5(k:Nat→Nat)(i:List Ru)(r:List Co)(cr:List Ex):Ct:=⟨rpB (k 0),rlB (k 1),MW (k 2),EV (k 3),lyB (k 4),nfB (k 5),ntB (k 5),[(B9,AE (k 6))],i,r,cr,[],[],0⟩
def j0{α:Type}(p:Nat→Bool):Nat→List α→List α
 |_,[]=> []
 |i,x::l=>if p i=true then x::j0 p (i+1) l else j0 p (i+1) l
theorem kW{α:Type}(p:Nat→Bool): ∀(i:Nat) (l:List α),(j0 p i l).Sublist l
 |_,[]=>List.Sublist.slnil
 |i,x::l=>by
  rw[j0]
  split
  ·exact(kW p (i+1) l).cons_cons x
  ·exact(kW p (i+1) l).cons x
def kB(b:Nat→Int)(i:Nat):Nat:=(b i%3).toNat
def crX(b:Nat→Int):List Ex:=if b 41%4<3 then [Im.getD (b 41%4).toNat (.mk 1 2 [] [])]else []
def rI(b:Nat→Int):Ct:=D5 (kB b) (j0 (fun i=>decide (b (7+i)%4=0)) 0 lU) (j0 (fun i=>decide (b (30+i)%3=0)) 0 pM) (crX b)
theorem three{k:Nat}(P:Nat→Prop)(i:P 0)(r:P 1)(D:P 2)(h:k≤2):P k:=by
 have:k=0∨k=1∨k=2:=by omega
 rcases this with rfl|rfl|rfl <;> assumption
def MX(l:Cs)(u:Ru):Bool:=qL u.sc 1 3&&(nW u.nm&&(decide (jo u.x=0)&&decide (Lo l u.sc u.x 4=0)))
def MY(l:Cs)(u:Co):Bool:=qL u.sc 1 3&&(decide (jo u.x=0)&&decide (Lo l u.sc u.x 1=0))
def MZ(l:Cs)(x:Ex):Bool:=decide (jo x=0)&&decide (Lo l 1 x 2=0)
theorem Po(l:Cs): ∀(r:List Ru) (seen:List (Int×List Nat)),(∀u∈r,MX l u=true)→(r.map fun u=>(u.sc,u.nm)).Nodup→(∀u∈r,(u.sc,u.nm)∉seen)→Ih seen r=0
 | [],_,_,_,_=>rfl
 |u::r,seen,F,D,H=>by
  have h:=F u List.mem_cons_self
  unfold MX at h
  simp only[Bool.and_eq_true,decide_eq_true_eq]at h
  obtain⟨a1,a2,I,J⟩:=h
  rw[List.map_cons,List.nodup_cons]at D
  rw[Ih,if_neg (by simp[a1,a2]),if_neg (H u List.mem_cons_self),if_neg (by simp[I])]
  refine Po l r _ (fun v i=>F v (List.mem_cons_of_mem _ i)) D.2 fun v i hm=> ?_
  rcases List.mem_append.1 hm with hm|hm
  ·exact H v (List.mem_cons_of_mem _ i) hm
  ·rw[List.mem_singleton]at hm
   exact D.1 (hm▸List.mem_map_of_mem (f:=fun u:Ru=>(u.sc,u.nm)) i)
theorem Pp(l:Cs): ∀(r:List Co),(∀u∈r,MY l u=true)→Kn r=0
 | [],_=>rfl
 |u::r,i=>by
  have h:=i u List.mem_cons_self
  unfold MY at h
  simp only[Bool.and_eq_true,decide_eq_true_eq]at h
  rw[Kn,if_neg (by simp[h.1]),if_neg (by simp[h.2.1])]
  exact Pp l r fun v D=>i v (List.mem_cons_of_mem _ D)
theorem Pq(l:Cs): ∀(r:List Ex),(∀u∈r,MZ l u=true)→Ko r=0
 | [],_=>rfl
 |u::r,i=>by
  have h:=i u List.mem_cons_self
  unfold MZ at h
  simp only[Bool.and_eq_true,decide_eq_true_eq]at h
  rw[Ko,if_neg (by simp[h.1])]
  exact Pq l r fun v D=>i v (List.mem_cons_of_mem _ D)
theorem Pr(l:Cs): ∀(r:List Ru),(∀u∈r,MX l u=true)→Sy l r=0
 | [],_=>rfl
 |u::r,i=>by
  have h:=i u List.mem_cons_self
  unfold MX at h
  simp only[Bool.and_eq_true,decide_eq_true_eq]at h
  rw[Sy,if_neg (by simp[h.2.2.2])]
  exact Pr l r fun v D=>i v (List.mem_cons_of_mem _ D)
theorem Ps(l:Cs): ∀(r:List Co),(∀u∈r,MY l u=true)→Sz l r=0
 | [],_=>rfl
 |u::r,i=>by
  have h:=i u List.mem_cons_self
  unfold MY at h
  simp only[Bool.and_eq_true,decide_eq_true_eq]at h
  rw[Sz,if_neg (by simp[h.2.2])]
  exact Ps l r fun v D=>i v (List.mem_cons_of_mem _ D)
theorem Pt(l:Cs): ∀(r:List Ex),(∀u∈r,MZ l u=true)→WK l r=0
 | [],_=>rfl
 |u::r,i=>by
  have h:=i u List.mem_cons_self
  unfold MZ at h
  simp only[Bool.and_eq_true,decide_eq_true_eq]at h
  rw[WK,if_neg (by simp[h.2])]
  exact Pt l r fun v D=>i v (List.mem_cons_of_mem _ D)
theorem ajg(k:Nat)(h:k≤2):lU.all (MX [(B9,AE k)])=true:=three (fun k=>lU.all (MX [(B9,AE k)])=true) (by decide+kernel) (by decide+kernel) (by decide+kernel) h
theorem ajh(k:Nat)(h:k≤2):pM.all (MY [(B9,AE k)])=true:=three (fun k=>pM.all (MY [(B9,AE k)])=true) (by decide+kernel) (by decide+kernel) (by decide+kernel) h
theorem aji(k:Nat)(h:k≤2):Im.all (MZ [(B9,AE k)])=true:=three (fun k=>Im.all (MZ [(B9,AE k)])=true) (by decide+kernel) (by decide+kernel) (by decide+kernel) h
theorem ajj(k:Nat)(h:k≤2):Lu [] [(B9,AE k)]=0∧Zj [(B9,AE k)] 0 [(B9,AE k)]=0:=three (fun k=>Lu [] [(B9,AE k)]=0∧Zj [(B9,AE k)] 0 [(B9,AE k)]=0) (by decide+kernel) (by decide+kernel) (by decide+kernel) h
theorem ajk:(lU.map fun u=>(u.sc,u.nm)).Nodup:=by decide+kernel
theorem X1(k:Nat→Nat)(hk: ∀i,k i≤2)(r:List Ru)(D:List Co)(cr:List Ex)(H:r.Sublist lU)(I:D.Sublist pM)(O: ∀x∈cr,x∈Im)(h4:cr.length≤1):mi (D5 k r D cr)=0:=by
 have J: ∀u∈r,MX [(B9,AE (k 6))] u=true:=fun u F=>List.all_eq_true.1 (ajg (k 6) (hk 6)) u (H.subset F)
 have K: ∀u∈D,MY [(B9,AE (k 6))] u=true:=fun u F=>List.all_eq_true.1 (ajh (k 6) (hk 6)) u (I.subset F)
 have N: ∀u∈cr,MZ [(B9,AE (k 6))] u=true:=fun u F=>List.all_eq_true.1 (aji (k 6) (hk 6)) u (O u F)
 obtain⟨U,V⟩:=ajj (k 6) (hk 6)
 have l1:r.length≤18:=H.length_le
 have l2:D.length≤10:=I.length_le
 have hr:pK (D5 k r D cr)=true:=by
  have a0:qL (rpB (k 0)) 0 1440=true:=three (fun k=>qL (rpB k) 0 1440=true) rfl rfl rfl (hk 0)
  have a1:qL (rlB (k 1)) 0 1440=true:=three (fun k=>qL (rlB k) 0 1440=true) rfl rfl rfl (hk 1)
  have a2:qL (MW (k 2)) 0 1440=true:=three (fun k=>qL (MW k) 0 1440=true) rfl rfl rfl (hk 2)
  have W: ∀j,j≤2→qL (EV (k 3)) (MW j) 1440=true:=fun j X=>three (fun j=>qL (EV (k 3)) (MW j) 1440=true) (three (fun k=>qL (EV k) (MW 0) 1440=true) rfl rfl rfl (hk 3)) (three (fun k=>qL (EV k) (MW 1) 1440=true) rfl rfl rfl (hk 3)) (three (fun k=>qL (EV k) (MW 2) 1440=true) rfl rfl rfl (hk 3)) X
  have Y:qL (lyB (k 4)) 0 10080=true:=three (fun k=>qL (lyB k) 0 10080=true) rfl rfl rfl (hk 4)
  have Z:qL (nfB (k 5)) 0 1439=true:=three (fun k=>qL (nfB k) 0 1439=true) rfl rfl rfl (hk 5)
  have a6:qL (ntB (k 5)) 0 1439=true:=three (fun k=>qL (ntB k) 0 1439=true) rfl rfl rfl (hk 5)
  unfold pK D5
  simp only[a0,a1,a2,W _ (hk 2),Y,Z,a6,Bool.true_and]
  rfl
 have hs:pT (D5 k r D cr)=true:=by
  unfold pT D5
  simp only[Bool.and_eq_true,decide_eq_true_eq,List.length_cons,List.length_nil]
  omega
 have hg:mE (D5 k r D cr)=0:=by
  unfold mE
  rw[if_neg (by simp[hr]),if_neg (by simp[hs])]
  unfold D5
  simp only
  rw[if_neg (by simp[U]),Po _ r [] J (ajk.sublist (H.map _)) (by simp),if_neg (by simp),Pp _ D K,if_neg (by simp),Pq _ cr N,if_neg (by simp)]
  rfl
 unfold mi
 rw[if_neg (by simp[hg])]
 unfold D5
 simp only
 rw[if_neg (by simp[V]),Pr _ r J,if_neg (by simp),Ps _ D K,if_neg (by simp),Pt _ cr N]
theorem X2(b:Nat→Int)(i:Nat):kB b i≤2:=by unfold kB;omega
theorem D6(b:Nat→Int):(∀x∈crX b,x∈Im)∧(crX b).length≤1:=by
 unfold crX
 split
 ·rename_i h
  refine⟨fun x hx=> ?_,by simp⟩
  rw[List.mem_singleton]at hx
  subst hx
  have hk:(b 41%4).toNat<Im.length:=by show(b 41%4).toNat<3;omega
  rw[List.getD_eq_getElem?_getD,List.getElem?_eq_getElem hk]
  exact List.getElem_mem hk
 ·exact⟨fun x hx=>by simp at hx,by simp⟩
theorem ajl(b:Nat→Int):mi (rI b)=0:=X1 _ (X2 b) _ _ _ (kW _ _ _) (kW _ _ _) (D6 b).1 (D6 b).2
def HK(o:Nat→Int)(n:Nat):List Nat:=(List.range n).filter fun i=>decide (0<o i%8)
def X3(o:Nat→Int)(n:Nat):List Int:=(HK o n).map Int.ofNat
theorem Pu(N:Nat): ∀(l:List Nat) (p:Option Int),l.Pairwise (· < ·)→(∀x∈l,x<N)→(∀q,p=some q→ ∀x∈l,q<(x:Int))→DU N p (l.map Int.ofNat)=0
 | [],_,_,_,_=>rfl
 |x::l,p,i,D,F=>by
  rw[List.pairwise_cons]at i
  have hx:=D x List.mem_cons_self
  have ih:=Pu N l (some (x:Int)) i.2 (fun y r=>D y (List.mem_cons_of_mem _ r)) fun q H y r=>by
   cases H
   have:=i.1 y r
   omega
  rw[List.map_cons,DV]
  show(if 0≤(x:Int)∧(x:Int)<(N:Int)then _ else _)=_
  rw[if_pos (by omega)]
  cases p with
  |none=>exact ih
  |some q=>
   have I:=F q rfl x List.mem_cons_self
   simpa[show¬((x:Int)≤q)by omega]using ih
theorem ajm(o:Nat→Int)(n:Nat):DU n none (X3 o n)=0:=
 Pu n _ none (List.Pairwise.filter _ List.pairwise_lt_range) (fun x hx=>List.mem_range.1 (List.mem_filter.1 hx).1) (by simp)
theorem acy(o:Nat→Int)(n:Nat):(X3 o n).length≤n:=by
 unfold X3 HK
 rw[List.length_map]
 exact Nat.le_trans (List.length_filter_le _ _) (by simp)
theorem X4(a:Nat→Int): ∀(m i x:Nat) (r:Int),1440000≤r→r≤1441425+915*i→i+m≤8→ ∀f∈pv a m i x r,f.dp+60≤f.ar∧1440000≤f.dp∧f.ar≤1500000
 |0,_,_,_,_,_,_,f,hf=>by simp[pv]at hf
 |m+1,i,x,r,F,H,I,f,hf=>by
  obtain⟨J,K⟩:=sG (a (2+i)/16%8).toNat
  have D:vO (a (2+i)) r=r+D2 (a (2+i)/16%8).toNat:=rfl
  have N:Gn (a (2+i)) r=vO (a (2+i)) r+60+15*(a (2+i)/128%6):=rfl
  have C4:BI (a (2+i)) r=vO (a (2+i)) r+20∨BI (a (2+i)) r=Gn (a (2+i)) r:=by unfold BI;split <;> simp
  rw[pv]at hf
  rcases List.mem_cons.1 hf with rfl|hf
  ·show vO _ _+60≤Gn _ _∧1440000≤vO _ _∧Gn _ _≤1500000
   omega
  ·exact X4 a m (i+1) _ _ (by omega) (by push_cast;omega) (by omega) f hf
theorem yQ(a:Nat→Int):(wW a).fl.length=uK a:=D3 a _ _ _ _
theorem afq(a:Nat→Int)(c:Ct)(hc:0≤c.cn)(i j:Nat)(h:jn c (wW a).fl i j=true):i<j:=by
 have K:=tE a
 have hl:=yQ a
 have F:=X4 a (uK a) 0 0 (1440000+15*(a 0%96)) (by omega) (by omega) (by omega)
 have r:=Pl a (uK a) 0 0 (1440000+15*(a 0%96))
 by_cases hi:i<(wW a).fl.length
 ·by_cases D:j<(wW a).fl.length
  ·rw[afh hi D]at h
   have N:=F (wW a).fl[i] (List.getElem_mem hi)
   have O:=F (wW a).fl[j] (List.getElem_mem D)
   unfold WM at h
   simp only[Bool.and_eq_true,decide_eq_true_eq]at h
   obtain⟨_,H,_⟩:=h
   rw[jj (by omega)]at H
   have U:(wW a).fl[i].dp<(wW a).fl[j].dp:=by omega
   refine Nat.lt_of_not_le fun I=> ?_
   by_cases he:j=i
   ·subst he;omega
   ·have:=(r j i D hi).2 (by omega)
    have V:(wW a).fl[i].dp=(pv a (uK a) 0 0 (1440000+15*(a 0%96)))[i].dp:=rfl
    have W:(wW a).fl[j].dp=(pv a (uK a) 0 0 (1440000+15*(a 0%96)))[j].dp:=rfl
    omega
  ·unfold jn at h
   rw[List.getElem?_eq_none (by omega:(wW a).fl.length≤j)]at h
   cases J:(wW a).fl[i]? <;> rw[J]at h <;> cases h
 ·unfold jn at h
  rw[List.getElem?_eq_none (by omega:(wW a).fl.length≤i)]at h
  cases h
theorem acz(a:Nat→Int)(o:Nat→Int)(c:Ct)(hc:mi c=0)(H:Nat)(i:H≤2):XB (wW a) c (X3 o (uK a)) H=0:=by
 have hk:yA (wW a) c=0:=by unfold yA;rw[ajd];simpa using hc
 unfold XB
 rw[if_pos hk,yQ,if_pos (ajm o _),if_neg (by omega)]
theorem ajn(a:Nat→Int)(o:Nat→Int)(c:Ct)(hc:0≤c.cn)(H:Nat)(r:H≤2): ¬ajc (wW a) c (X3 o (uK a)) H:=by
 have D:=tE a
 have hl:=yQ a
 unfold ajc ace
 rintro(h|h)
 ·exact RY _ _ _ (fun i j=>afq a c hc i j) H (by omega) r h
 ·exact acr _ _ _ _ _ (fun i j=>afq a c hc i j) H (by omega) r h
theorem ajo(k:Nat→Nat)(hk: ∀i,k i≤2)(r:List Ru)(D:List Co)(cr:List Ex):0≤(D5 k r D cr).cn:=three (fun k=>0≤MW k) (by decide) (by decide) (by decide) (hk 2)
theorem X5(t:Tt)(c:Ct)(ru:List Ru)(h:ru.Sublist c.ru)(d:List (Int×Bool))(i:OZ t c d=true):OZ t {c with ru:=ru} d=true:=by
 unfold OZ yH at*
 rw[List.all_eq_true]at*
 intro u r
 refine i u ?_
 unfold ruS yy at*
 rw[List.take_length]at*
 exact((h.filter _).map _).subset r
def ajp(a b:Int):Int:=if a<b then-1 else m6 (decide (b<a))
def X6(x y:Int×Bool):Int:=if x.1=y.1 then m6 x.2-m6 y.2 else if x.1<y.1 then-1 else 1
def HL:List (Int×Bool)→List (Int×Bool)→Int
 |x::a,y::b=>if X6 x y≠0 then X6 x y else HL a b
 |_,_=>0
def acA(a b:List (Int×Bool)):Int:=if HL a b≠0 then HL a b else ajp a.length b.length
theorem X7{a b:List (Int×Bool)}(h:a= []∨b= []):HL a b=0:=by
 rcases h with rfl|rfl
 ·rfl
 ·cases a <;> rfl
theorem X8(h i:Bool):wr .i64 (m6 h-m6 i)=m6 h-m6 i:=by cases h <;> cases i <;> rfl
theorem acB(x y:Int×Bool):be pE 147 [.agg [.i .i64 x.1,.b x.2],.agg [.i .i64 y.1,.b y.2]] []=some (.i .i64 (X6 x y),[]):=by
 have D:=yJ x.2
 have F:=yJ y.2
 have H:=X8 x.2 y.2
 unfold X6
 rw[gQ Nz (by simp[I6])]
 by_cases r:x.1=y.1
 ·simp only[qA,seval,jq,qw,ig,I6,D,F,r,H,NB,aef]
 ·by_cases I:x.1<y.1
  all_goals simp only[qA,seval,jq,qw,ig,I6,r,I]
theorem acC(a b:Int):be pE 148 [.i .i64 a,.i .i64 b] []=some (.i .i64 (ajp a b),[]):=by
 have r:=yJ (decide (b<a))
 unfold ajp
 rw[gQ T1 (by simp[LA])]
 by_cases D:a<b
 all_goals simp only[qA,seval,LA,r,D,NB]
section
variable(d e:List (Int×Bool))(a b:T)(ha:IsSl a d.length (px d))(hb:IsSl b e.length (px e))(hd:d.length≤4611686018427387000)(he:e.length≤4611686018427387000)
include ha hb hd he
theorem azb(fr:Fr)(lh:gW b8)(sh:List b8)(J:an fr 0=a)(K:an fr 1=b)(Z:an fr 5= .i .i64 0):
  wH pE 36 nF fr lh sh 0 4 (HL d e) (fun O U=>U=sh):=by
 have _:=he
 refine jY zO (fun k f O U=>an f 5= .i .i64 (k:Int)∧U=sh∧HL d e=HL (d.drop k) (e.drop k)) (min d.length e.length) ⟨Z,rfl,rfl⟩ ?_ ?_
 ·rintro k f O _ hk r ⟨D,rfl,F⟩
  have H:k<d.length:=by omega
  have YY:k<e.length:=by omega
  have E8:(k:Int)<d.length:=by omega
  have Et:(k:Int)<e.length:=by omega
  have X:=iJ (k:=k) (by omega)
  obtain⟨r1,Y⟩:=O1 ha k H
  obtain⟨r2,I⟩:=O1 hb k YY
  rw[List.drop_eq_getElem_cons H,List.drop_eq_getElem_cons YY,HL]at F
  have hc:=acB d[k] e[k]
  generalize d[k]=x at*
  generalize e[k]=y at*
  by_cases N:X6 x y=0
  ·rw[if_neg (by simp[N])]at F
   rw[N]at hc
   simp(maxDischargeDepth:=6) only[qB,jq,qw,ig,seval,gd,nF,r,J,K,D,ha.lenI,hb.lenI,E8,Et,Y,I,hc,X,TZ,T0]
   clear r
   grind
  ·rw[if_pos N]at F
   simp(maxDischargeDepth:=6) only[qB,jq,qw,ig,seval,gd,nF,r,J,K,D,ha.lenI,hb.lenI,E8,Et,Y,I,hc,N,X,TZ,T0]
   clear r
   grind
 ·rintro f O _ r ⟨D,rfl,F⟩
  have V:HL (d.drop (min d.length e.length)) (e.drop (min d.length e.length))=0:=X7 (by
   rcases Nat.le_total d.length e.length with h|h
   ·exact .inl (List.drop_eq_nil_of_le (by omega))
   ·exact .inr (List.drop_eq_nil_of_le (by omega)))
  rw[V]at F
  by_cases h:d.length≤e.length
  ·have W:min d.length e.length=d.length:=by omega
   rw[W]at D
   simp(maxDischargeDepth:=6) only[qB,seval,gd,nF,r,J,K,D,ha.lenI,hb.lenI,Int.lt_irrefl,F]
  ·have W:min d.length e.length=e.length:=by omega
   have e2:(e.length:Int)<d.length:=by omega
   rw[W]at D
   simp(maxDischargeDepth:=6) only[qB,seval,gd,nF,r,J,K,D,ha.lenI,hb.lenI,e2,Int.lt_irrefl,F]
theorem ajq:be pE 101 [a,b] []=some (.i .i64 (acA d e),[]):=by
 have D:=fun fr lh sh F H I=>azb d e a b ha hb hd he fr lh sh F H I
 have r:=acC (d.length:Int) (e.length:Int)
 unfold acA
 rw[gQ TP (by simp[Lx])]
 simp(maxDischargeDepth:=6) only[qB,seval,Lx,zO,ha.lenI,hb.lenI,D,r,adQ]
 clear D
 grind
end
theorem ajr(g i:Lg)(a b:T)(ha:LgT g a)(hb:LgT i b)(I:g.du.length≤4611686018427387000)(J:i.du.length≤4611686018427387000): ∃q,be pE 26 [.agg (og g a),.agg (og i b)] []=some (.b q,[]):=by
 have r:=ajq g.du i.du a b ha hb I J
 have F:=ha.froz
 have H:=hb.froz
 have D:be pE 60 [a,b] []=some (.b (decide (acA g.du i.du=0)),[]):=by
  rw[gQ agm (by simp[c60])]
  simp only[qA,seval,c60,r,F,H,adi]
 unfold og
 rw[gQ ZA (by simp[c26])]
 by_cases K:acA g.du i.du=0
 by_cases N:g.rp=i.rp
 by_cases O:g.rl=i.rl
 by_cases U:g.fr=i.fr
 by_cases V:g.to=i.to
 by_cases W:g.co=i.co
 all_goals
  simp(maxDischargeDepth:=6) only[qA,seval,c26,D,F,H, *,ao4]
  exact⟨_,rfl⟩
def ji(xs:List Int)(i:Nat):Int:=if xs.length=0 then(i:Int)%65536 else xs.getD (i%xs.length) 0%65536+((i/xs.length:Nat):Int)
theorem uL(xs:List Int)(i:Nat):0≤ji xs i:=by
 unfold ji;split
 ·omega
 ·have:(0:Int)≤((i/xs.length:Nat):Int):=Int.natCast_nonneg _
  omega
theorem lb{a b:Int}(h:0≤a):a.tmod b=a%b:=by rw[Int.tmod_eq_emod_of_nonneg h]
theorem om(l:T)(xs:List Int)(hl:IsSl l xs.length (ints xs))(i:Nat)(hi:i<1000000):be pE 18 [l,.i .i64 (i:Int)] []=some (.i .i64 (ji xs i),[]):=by
 rw[gQ af9 (by simp[c18])]
 by_cases h:xs.length=0
 ·have r:((xs.length:Nat):Int)=0:=by omega
  have ha:ji xs i=(i:Int)%65536:=by unfold ji;rw[if_pos h]
  simp only[qA,seval,c18,hl.lenI,r,ha]
 ·have r: ¬((xs.length:Nat):Int)=0:=by omega
  have D:i%xs.length<xs.length:=Nat.mod_lt _ (by omega)
  have ha:ji xs i=xs[i%xs.length]%65536+((i/xs.length:Nat):Int):=by
   unfold ji;rw[if_neg h];simp[List.getD_eq_getElem?_getD,D]
  have H:((i:Int)).tmod (xs.length:Int)=((i%xs.length:Nat):Int):=by rw[lb (Int.natCast_nonneg i)];exact(Int.natCast_emod i xs.length).symm
  have I:((i:Int)).tdiv (xs.length:Int)=((i/xs.length:Nat):Int):=by rw[Int.tdiv_eq_ediv_of_nonneg (Int.natCast_nonneg i)];exact(Int.natCast_ediv i xs.length).symm
  have F:i/xs.length≤i:=Nat.div_le_self _ _
  have J:0≤((i/xs.length:Nat):Int):=Int.natCast_nonneg _
  have K:((i/xs.length:Nat):Int)≤(i:Int):=Int.ofNat_le.2 F
  have GJ:(i:Int)<1000000:=by omega
  generalize ((i/xs.length:Nat):Int)=q at*
  have N:wr .i64 q=q:=jj (by omega)
  have O:wr .i64 (xs[i%xs.length]%65536+q)=xs[i%xs.length]%65536+q:=jj (by omega)
  have U: ∀kk,lH l (.i kk ((i%xs.length:Nat):Int)) 1=some (.vp (T.i .i64 xs[i%xs.length]::(ints xs).drop (i%xs.length+1))):=fun kk=>by rw[hl.ia (sz:=1) (by rw[kH];omega) D,Nat.mul_one,qe xs _ D]
  simp only[qA,jq,seval,ig,c18,hl.lenI,r,H,I,U,N,O,ha]
def pN(i:List (List Nat)):List Nat:=i.flatMap (· ++ [10])
def D7(tx:List Nat):Nat→List (List Nat)×Nat
 |0=>([],0)
 |k+1=>if tx.getD k 0=10 then((D7 tx k).1++ [(tx.drop (D7 tx k).2).take (k-(D7 tx k).2)],k+1)else D7 tx k
theorem X9(tx:List Nat): ∀k,(D7 tx k).1.length≤k∧(D7 tx k).2≤k
 |0=>⟨Nat.le_refl _,Nat.le_refl _⟩
 |k+1=>by
  have:=X9 tx k
  rw[D7]
  split
  ·simp;omega
  ·omega
theorem KN(a l b:List Nat)(L:List (List Nat))(hl:10∉l)(h:D7 (a++l++b) a.length=(L,a.length)): ∀j,j≤l.length→D7 (a++l++b) (a.length+j)=(L,a.length)
 |0,_=>h
 |j+1,i=>by
  have ih:=KN a l b L hl h j (by omega)
  rw[←Nat.add_assoc,D7,ih]
  have e:(a++l++b).getD (a.length+j) 0=l[j]:=by
   rw[List.getD_eq_getElem?_getD,List.append_assoc,List.getElem?_append_right (by omega),Nat.add_sub_cancel_left,List.getElem?_append_left (by omega),List.getElem?_eq_getElem (by omega)]
   rfl
  rw[if_neg]
  rw[e]
  exact fun h=>hl (h▸List.getElem_mem _)
theorem Pv: ∀(i:List (List Nat)) (a:List Nat) (L:List (List Nat)) (tx:List Nat),(∀l∈i,10∉l)→tx=a++pN i→D7 tx a.length=(L,a.length)→D7 tx tx.length=(L++i,tx.length)
 | [],a,L,tx,_,e,h=>by
   have:tx=a:=by rw[e];simp[pN]
   rw[this]at h ⊢
   simpa using h
 |l::i,a,L,tx,hl,e,h=>by
  have r:tx=a++l++([10]++pN i):=by rw[e];simp[pN]
  have D:=h
  rw[r]at D
  have F:=KN a l _ L (hl l List.mem_cons_self) D l.length (Nat.le_refl _)
  rw[←r]at F
  have H:D7 tx (a++l++ [10]).length=(L++ [l],(a++l++ [10]).length):=by
   rw[List.length_append,List.length_append,List.length_singleton,D7,F]
   have I:tx.getD (a.length+l.length) 0=10:=by
    rw[r,List.getD_eq_getElem?_getD,List.getElem?_append_right (by simp)]
    simp
   rw[if_pos I]
   have J:(tx.drop a.length).take (a.length+l.length-a.length)=l:=by
    rw[r,List.append_assoc,List.drop_left,Nat.add_sub_cancel_left,List.take_left]
   rw[J]
  have K:=Pv i (a++l++ [10]) (L++ [l]) tx (fun x hx=>hl x (List.mem_cons_of_mem _ hx)) (by rw[r];simp) H
  rw[K,List.append_assoc]
  rfl
def Ya(tx:List Nat):Prop:=tx.length≤20000∧ ∀c∈tx,c=10∨(32≤c∧c≤126)
theorem Pw{c:Nat}:(do let a ←(some c:Option Nat);pure (a:Int))=some (c:Int):=rfl
section
variable(tx:List Nat)(hx:Ya tx)
include hx
theorem azc(fr:Fr)(lh:gW b8)(sh:List b8)(F:an fr 0= .s tx)(U:an fr 4= .i .i64 0):
  Lp pE 66 wj fr lh sh (.ext 0) fun f q s=>s=sh∧q=lh:=by
 obtain⟨EL,H⟩:=hx
 refine kK IV (fun k f q s=>an f 4= .i .i64 (k:Int)∧s=sh∧q=lh) tx.length ⟨U,rfl,rfl⟩ ?_ ?_
 ·rintro k f _ _ hk r ⟨D,rfl,rfl⟩
  have K:(k:Int)<tx.length:=by omega
  have N:=iJ (k:=k) (by omega)
  have hc:=H tx[k] (List.getElem_mem hk)
  have O:tx[k]? =some tx[k]:=List.getElem?_eq_getElem hk
  have V:(0:Int)≤(k:Int):=by omega
  generalize tx[k]=c at*
  by_cases I:c=10
  ·subst I
   simp(maxDischargeDepth:=6) only[qA,seval,gd,wj,r,F,D,K,O,Pw,N]
  ·have hi: ¬((c:Nat):Int)=10:=by omega
   have Bh: ¬((c:Nat):Int)<32:=by omega
   have J: ¬((c:Nat):Int)>126:=by omega
   simp(maxDischargeDepth:=6) only[qA,seval,gd,wj,r,F,D,K,O,Pw,N,hi,Bh,J]
 ·rintro f _ _ r ⟨D,rfl,rfl⟩
  simp only[qA,seval,gd,wj,r,F,D,Int.lt_irrefl]
theorem aze(fr:Fr)(lh:gW b8)(sh:List b8)(K:an fr 0= .s tx)(X:an fr 5= .nilsl)(Y:an fr 6= .i .i64 0)(Z:an fr 7= .i .i64 0):
  Lp pE 66 wi fr lh sh (.ext 2) fun f q s=>s=sh∧jG q (an f 5) 49 1 (D7 tx tx.length).1.length (strs (D7 tx tx.length).1)∧an f 6= .i .i64 ((D7 tx tx.length).2:Int):=by
 obtain⟨EL,hx2⟩:=hx
 refine kK IU (fun k f q s=>an f 7= .i .i64 (k:Int)∧s=sh∧jG q (an f 5) 49 1 (D7 tx k).1.length (strs (D7 tx k).1)∧an f 6= .i .i64 ((D7 tx k).2:Int)) tx.length ⟨Z,rfl,by rw[X];exact jG.nil,Y⟩ ?_ ?_
 ·rintro k f q _ hk H ⟨I,rfl,D,J⟩
  have V:(k:Int)<tx.length:=by omega
  have W:=iJ (k:=k) (by omega)
  have N:tx[k]? =some tx[k]:=List.getElem?_eq_getElem hk
  have hD:tx.getD k 0=tx[k]:=by rw[List.getD_eq_getElem?_getD,N];rfl
  have h0k:(0:Int)≤(k:Int):=by omega
  obtain⟨b1,b2⟩:=X9 tx k
  have Ik:((D7 tx k).2≤k∧k≤tx.length):=⟨b2,by omega⟩
  rw[D7,hD]
  generalize D7 tx k=p at*
  obtain⟨L,r⟩:=p
  dsimp only at*
  have O:=fun(l:List Nat) (iI:gW b8) (U:List b8) (e:b7 iI 49=b7 q 49)=>pt (sh:=U) (D.congr e) [.s l] rfl (bytes:=16) (by unfold roomy;omega) true
  have F7:=D.notS
  generalize RZ:an f 5=v5 at D O F7
  generalize tx[k]=c at*
  by_cases F:c=10
  ·subst F
   simp(maxDischargeDepth:=6) only[qA,seval,gd,wi,H,K,I,J,RZ,V,N,Pw,W,O,F7,repl,Ds,Ik]
   have h:=fun U=>(O ((tx.drop r).take (k-r)) q U rfl).2.1
   rw[show strs (L++ [(tx.drop r).take (k-r)])=strs L++ [.s ((tx.drop r).take (k-r))]by simp[strs],List.length_append,List.length_singleton]
   exact h _
  ·have hi: ¬((c:Nat):Int)=10:=by omega
   simp(maxDischargeDepth:=6) only[qA,seval,gd,wi,H,K,I,J,RZ,V,N,Pw,W,hi,F]
   exact D
 ·rintro f q _ H ⟨I,rfl,D,J⟩
  simp only[qA,seval,gd,wi,H,K,I,Int.lt_irrefl]
  exact⟨D,J⟩
end
theorem acD(i:List (List Nat))(h: ∀l∈i,l.length≤100∧ ∀c∈l,32≤c∧c≤126)(hl:i.length≤100):Ya (pN i)∧ ∀l∈i,10∉l:=by
 refine⟨⟨?_,fun c hc=> ?_⟩,fun l hl r=> ?_⟩
 ·have: ∀m:List (List Nat),(∀l∈m,l.length≤100)→(pN m).length≤m.length*101:=by
   intro m
   induction m with
   |nil=>simp[pN]
   |cons x m ih=>
    intro D
    have F:=D x List.mem_cons_self
    have h2:=ih fun l hl=>D l (List.mem_cons_of_mem _ hl)
    have e:pN (x::m)=x++ [10]++pN m:=by simp[pN]
    rw[e,List.length_append,List.length_append,List.length_singleton,List.length_cons]
    omega
  have:=this i fun l hl=>(h l hl).1
  omega
 ·obtain⟨l,F,h2⟩:=List.mem_flatMap.1 hc
  rcases List.mem_append.1 h2 with h2|h2
  ·exact .inr ((h l F).2 c h2)
  ·exact .inl (List.mem_singleton.1 h2)
 ·have:=(h l hl).2 10 r
  omega
theorem Yb(r:List (List Nat))(hx:Ya (pN r))(F: ∀l∈r,10∉l)(hl:r.length≤1000):be pE 77 [.s (pN r)] []=some (.tup [mQ r.length (strs r),.i .i64 0],[]):=by
 have e:=Pv r [] [] (pN r) F rfl rfl
 rw[List.nil_append]at e
 have U:=fun fr lh sh=>azc (pN r) hx fr lh sh
 have K:=fun fr lh sh=>aze (pN r) hx fr lh sh
 rw[e]at K
 have N:=hx.1
 have hb: ¬((pN r).length:Int)>20000:=by omega
 have V: ¬((r.length:Nat):Int)>1000:=by omega
 generalize pN r=tx at*
 rw[gQ apb (by simp[c77])]
 simp(maxDischargeDepth:=6) only[qA,seval,c77,hb]
 generalize H:DC pE 66 (.loop wj) _=D
 obtain⟨f2,l2,s2,rfl,⟨rfl,rfl⟩,O⟩:=E7 IV H (U _ _ _ (by simp only[qA,seval]) (by simp only[qA,seval]))
 simp(maxDischargeDepth:=6) only[qA,seval]
 generalize H:DC pE 66 (.loop wi) _=D
 obtain⟨W,l3,s3,rfl,⟨rfl,I,X⟩,J⟩:=E7 IU H (K _ _ _ (by simp only[qA,seval,O]) (by simp only[qA,seval]) (by simp only[qA,seval]) (by simp only[qA,seval]))
 have Y:=fun m keep=>I.fzW (m:=m) (sh:=([]:List b8)) (keep:=keep)
 have Z:=I.lenI
 have q0:an W 0= .s tx:=by rw[J 0 (by decide)];simp only[qA,seval,O]
 have q3:=I.notS
 simp(maxDischargeDepth:=6) only[qA,EW,seval,q0,X,Z,V,Int.lt_irrefl,Y]
def tF(a:Nat→Int):Nat→Nat→Nat→Int→Nat×Int
 |0,_,x,r=>(x,r)
 |m+1,i,x,r=>tF a m (i+1) (BH (a (2+i)) x) (BI (a (2+i)) r)
theorem KO(a:Nat→Int): ∀(m i x:Nat) (r:Int),pv a (m+1) i x r=pv a m i x r++ [tY (i+m) (a (2+(i+m))) (tF a m i x r).1 (tF a m i x r).2]
 |0,i,x,r=>by simp[pv,tF]
 |m+1,i,x,r=>by
  rw[pv,KO a m (i+1),pv,tF,List.cons_append,show i+1+m=i+(m+1)by omega]
theorem KP(a:Nat→Int): ∀(m i x:Nat) (r:Int),tF a (m+1) i x r=(BH (a (2+(i+m))) (tF a m i x r).1,BI (a (2+(i+m))) (tF a m i x r).2)
 |0,i,x,r=>rfl
 |m+1,i,x,r=>by
  rw[tF,KP a m (i+1),tF,show i+1+m=i+(m+1)by omega]
theorem Px(a:Nat→Int): ∀(m i x:Nat) (r:Int),x≤2→1440000≤r→r≤1441425+915*i→(tF a m i x r).1≤2∧1440000≤(tF a m i x r).2∧(tF a m i x r).2≤1441425+915*(i+m)
 |0,i,x,r,D,F,H=>by rw[tF];exact⟨D,F,by omega⟩
 |m+1,i,x,r,D,F,H=>by
  obtain⟨K,N⟩:=sG (a (2+i)/16%8).toNat
  have I:vO (a (2+i)) r=r+D2 (a (2+i)/16%8).toNat:=rfl
  have O:Gn (a (2+i)) r=vO (a (2+i)) r+60+15*(a (2+i)/128%6):=rfl
  have C4:BI (a (2+i)) r=vO (a (2+i)) r+20∨BI (a (2+i)) r=Gn (a (2+i)) r:=by unfold BI;split <;> simp
  rw[tF]
  obtain⟨U,J,V⟩:=HH (a (2+i)) x D
  have:=Px a m (i+1) (BH (a (2+i)) x) (BI (a (2+i)) r) J (by omega) (by push_cast;omega)
  push_cast at this
  refine⟨this.1,this.2.1,by push_cast;omega⟩
theorem KQ(a:Int)(k:IntKind):Ev.bin .shr (.i .i64 a) (.i k 7)=some (.i .i64 (a/128)):=BR (b:=7) (by omega)
theorem Bo(a:Int)(k:IntKind):Ev.bin .shr (.i .i64 a) (.i k 10)=some (.i .i64 (a/1024)):=BR (b:=10) (by omega)
def Gp:T:= .sl [.s [117,116,99],.i .i64 0,.nilsl,.s [111,115,108,111],.i .i64 60,.sl [.i .i64 1441500,.i .i64 120,.i .i64 1444000,.i .i64 60] 2 true,.s [121,111,114,107],.i .i64 (-300),.sl [.i .i64 1442900,.i .i64 (-240)] 1 true] 3 true
def Gq:T:= .sl [.s [65,65,65],.s [117,116,99],.s [66,66,66],.s [111,115,108,111],.s [67,67,67],.s [121,111,114,107]] 3 true
def gpT:T:= .sl [.i .i64 30,.i .i64 45,.i .i64 45,.i .i64 60,.i .i64 90,.i .i64 150,.i .i64 600,.i .i64 780] 8 true
def tyT:T:= .sl [.s [97,51,50,48],.s [98,55,51,55],.s [101,49,57,48]] 3 true
def cdT:T:= .sl [.s [65,65,65],.s [66,66,66],.s [67,67,67]] 3 true
theorem as7(r:Int)(D:0≤r)(F:r<8): ∃q,∀kk,lH gpT (.i kk r) 1=some (.vp (.i .i64 (D2 r.toNat)::q)):=by
 have:r=0∨r=1∨r=2∨r=3∨r=4∨r=5∨r=6∨r=7:=by omega
 rcases this with rfl|rfl|rfl|rfl|rfl|rfl|rfl|rfl <;> exact⟨_,fun _=>rfl⟩
theorem as8(r:Int)(D:0≤r)(F:r<3): ∃q,∀kk,lH tyT (.i kk r) 1=some (.vp (.s (XV r.toNat)::q)):=by
 have:r=0∨r=1∨r=2:=by omega
 rcases this with rfl|rfl|rfl <;> exact⟨_,fun _=>rfl⟩
theorem Yc(x:Nat)(h:x≤2): ∃q,∀kk,lH cdT (.i kk (x:Int)) 1=some (.vp (.s (vN x)::q)):=by
 have:x=0∨x=1∨x=2:=by omega
 rcases this with rfl|rfl|rfl <;> exact⟨_,fun _=>rfl⟩
theorem ajs:be pE 46 [] []=some (cdT,[]):=by
 rw[gQ agh (by simp[c46])]
 unfold cdT
 simp(maxDischargeDepth:=6) only[qA,seval,c46,repl]
theorem azh(k:Nat)(h:k<256):aai (.sl [.i .u8 (k:Int)] 1 true)=some (.s [k]):=by
 show(if k<256 then some (T.s [k])else none)=_
 rw[if_pos h]
theorem ttG{HP:gW b8}{r D F:T}{ps:List T}{H:List Fl}{y:Fl}{i g:Nat}(h:jG HP r 91 9 (i+1) (H.flatMap Io++ps))(e:Io y=ps): ∃v,jG HP v 91 9 (i+1) ((H++ [y]).flatMap Io)∧(⟨g,.cells [D,F,r] 0 true⟩:b8)=⟨g,.cells [D,F,v] 0 true⟩:=by
 refine⟨r, ?_,rfl⟩
 rw[List.flatMap_append,List.flatMap_cons,List.flatMap_nil,List.append_nil,e]
 exact h
theorem KR(i:Nat)(n:Int)(x:Nat)(r:Int){A B:Nat}(ha:Ph n x=A)(hb:BH n x=B):Io (tY i n x r)= [.s [70,48+i],.s (vN A),.s (vN B),.i .i64 (vO n r),.i .i64 (Gn n r),.s (XV (n/1024%3).toNat),.i .i64 1,.i .i64 1,.i .i64 2]:=by
 subst ha hb
 rfl
section
variable(xs:List Int)(la:T)(hl:IsSl la xs.length (ints xs))
include hl
theorem ttl(V:Int)(Gr:1440000≤V)(KS:V≤1441425)(zT aT:T)(g:Nat)(fr:Fr)(lh:gW b8)(sh:List b8)(h0:an fr 0=la)(h3:an fr 3= .ptr .L 3 g 0)(h4:an fr 4= .i .i64 0)(h5:an fr 5= .i .i64 V)(h6:an fr 6=gpT)(h7:an fr 7=tyT)(h8:an fr 8= .i .i64 0)(W:b7 lh 3=⟨g,.cells [zT,aT,.nilsl] 0 true⟩):
  Lp pE 102 oq fr lh sh (.ext 0) fun f l s=>s=sh∧b7 l 2=b7 lh 2∧ ∃v,jG l v 91 9 (uK (ji xs)) ((pv (ji xs) (uK (ji xs)) 0 0 V).flatMap Io)∧b7 l 3=⟨g,.cells [zT,aT,v] 0 true⟩:=by
 refine kK Ir (fun i f l s=>an f 8= .i .i64 (i:Int)∧an f 4= .i .i64 ((tF (ji xs) i 0 0 V).1:Int)∧an f 5= .i .i64 (tF (ji xs) i 0 0 V).2∧s=sh∧b7 l 2=b7 lh 2∧ ∃v,jG l v 91 9 i ((pv (ji xs) i 0 0 V).flatMap Io)∧b7 l 3=⟨g,.cells [zT,aT,v] 0 true⟩) (uK (ji xs)) ⟨h8,h4,h5,rfl,rfl,.nilsl,jG.nil,W⟩ ?_ ?_
 ·rintro i f l _ hi Z ⟨g8,X,g5,rfl,o2,v,hO,W⟩
  have hn:=tE (ji xs)
  have a1:=om la xs hl 1 (by omega)
  have k9:=om la xs hl (2+i) (by omega)
  have n1:=uL xs 1
  have n2:=uL xs (2+i)
  have Zk:(i:Int)<2+ji xs 1%6:=by unfold uK at hi;omega
  have t1:(ji xs 1).tmod 6=ji xs 1%6:=lb n1
  have w1:wr .i64 (2+ji xs 1%6)=2+ji xs 1%6:=jj (by omega)
  have w2:wr .i64 (2+(i:Int))=((2+i:Nat):Int):=by rw[jj (by omega)];omega
  have hw:=iJ (k:=i) (by omega)
  have ni:=KP (ji xs) i 0 0 V
  have E6:=KO (ji xs) i 0 0 V
  have hrg:=Px (ji xs) i 0 0 V (by omega) (by omega) (by omega)
  rw[Nat.zero_add]at ni E6
  obtain⟨r1,r2,r3⟩:=hrg
  rw[ni,E6]
  generalize (tF (ji xs) i 0 0 V).1=x at*
  generalize (tF (ji xs) i 0 0 V).2=ck at*
  generalize pv (ji xs) i 0 0 V=fs at*
  have Zl:be pE 18 [la,.i .i64 1] []=some (.i .i64 (ji xs 1),[]):=a1
  generalize ji xs 1=m1 at*
  generalize ji xs (2+i)=n at*
  have t7:n.tmod 7=n%7:=lb n2
  have H:n.tmod 11=n%11:=lb n2
  have t5:n.tmod 5=n%5:=lb n2
  have t2:(n/8).tmod 2=n/8%2:=lb (by omega)
  have t8:(n/16).tmod 8=n/16%8:=lb (by omega)
  have t6:(n/128).tmod 6=n/128%6:=lb (by omega)
  have t3:(n/1024).tmod 3=n/1024%3:=lb (by omega)
  obtain⟨q1,e1⟩:=as7 (n/16%8) (by omega) (by omega)
  obtain⟨q2,e2⟩:=as8 (n/1024%3) (by omega) (by omega)
  obtain⟨g1,g2⟩:=sG (n/16%8).toNat
  obtain⟨u1,u2,u3⟩:=HH n x r1
  obtain⟨q3,e3⟩:=Yc (Ph n x) u3
  obtain⟨q4,e4⟩:=Yc (BH n x) u2
  have C4:=ajs
  have hdp:vO n ck=ck+D2 (n/16%8).toNat:=rfl
  have mS:Gn n ck=vO n ck+60+15*(n/128%6):=rfl
  have hz:=hl.froz
  have hi6:i≤6:=by omega
  have I:wr .i64 (48+(i:Int))=((48+i:Nat):Int):=by rw[jj (by omega)];omega
  have w8:wr .u8 ((48+i:Nat):Int)=((48+i:Nat):Int):=by
   have:i=0∨i=1∨i=2∨i=3∨i=4∨i=5∨i=6:=by omega
   rcases this with rfl|rfl|rfl|rfl|rfl|rfl|rfl <;> rfl
  have sL:=azh (48+i) (by omega)
  have w9:wr .i64 (ck+D2 (n/16%8).toNat)=vO n ck:=by rw[jj (by omega)];rfl
  have J:wr .i64 (vO n ck+60)=vO n ck+60:=jj (by omega)
  have K:wr .i64 (15*(n/128%6))=15*(n/128%6):=jj (by omega)
  have N:wr .i64 (vO n ck+60+15*(n/128%6))=Gn n ck:=by rw[jj (by omega)];rfl
  have O:wr .i64 (vO n ck+20)=vO n ck+20:=jj (by omega)
  have U:wr .i64 (1+n/8%2)=1+n/8%2:=jj (by omega)
  have F:=fun(ps:List T) (ta:ps.length=9) (iI:gW b8) (iE:List b8) (e:b7 iI 91=b7 l 91)=>pt (bytes:=104) (sh:=iE) (hO.congr e) ps ta (by unfold roomy;omega) true
  have lX:=fun ps ta iI iE e=>(F ps ta iI iE e).2.1.cells
  have Jq:=fun ps ta iI iE e=>(F ps ta iI iE e).2.1.noTup
  have F7:=hO.notS
  obtain⟨G,hG⟩: ∃G,(b7 l 12).g+1=G:=⟨_,rfl⟩
  have e0:lH cdT (.i .i64 0) 1=some (.vp [.s (vN 0),.s (vN 1),.s (vN 2)]):=rfl
  have e8: ∃q,lH cdT (.i .i64 (1+n/8%2)) 1=some (.vp (.s (vN (1+(n/8%2).toNat))::q)):=by
   obtain⟨q,h⟩:=Yc (1+(n/8%2).toNat) (by omega)
   refine⟨q, ?_⟩
   have:(1+n/8%2:Int)=((1+(n/8%2).toNat:Nat):Int):=by omega
   rw[this]
   exact h .i64
  obtain⟨q8,e8⟩:=e8
  generalize cdT=cdT at*
  by_cases hA:n%7=6
  ·have ha:Ph n x=0:=if_pos hA
   have Hy:BH n x=1+(n/8%2).toNat:=by unfold BH;rw[if_pos ha]
   have r:(1+n/8%2:Int)=((BH n x:Nat):Int):=by rw[Hy];omega
   by_cases D:n%5=4
   ·have hc:BI n ck=vO n ck+20:=if_pos D
    simp(maxDischargeDepth:=6) only[qA,seval,gd,repl,jq,qw,lR,ig,oq,Z,h0,h3,h6,h7,g8,X,g5,W,Zl,k9,t1,w1,w2,Zk,hw,hz,t7,H,t5,t2,t8,t6,t3,e1,e2,e0,e8,C4,I,w8,sL,w9,J,K,N,O,U,F,lX,Jq,F7,hG,hA,D,KQ,Bo,rQ,Ja,Jb,Bc,pk,List.length_cons,List.length_nil]
    exact⟨congrArg (T.i .i64) r,congrArg (T.i .i64) (hc.symm),o2,ttG ((mg (by decide)).mpr (F _ rfl _ _ (by simp only[qA,seval])).2.1) (KR i n x ck ha Hy)⟩
   ·have hc:BI n ck=Gn n ck:=if_neg D
    simp(maxDischargeDepth:=6) only[qA,seval,gd,repl,jq,qw,lR,ig,oq,Z,h0,h3,h6,h7,g8,X,g5,W,Zl,k9,t1,w1,w2,Zk,hw,hz,t7,H,t5,t2,t8,t6,t3,e1,e2,e0,e8,C4,I,w8,sL,w9,J,K,N,O,U,F,lX,Jq,F7,hG,hA,D,KQ,Bo,rQ,Ja,Jb,Bc,pk,List.length_cons,List.length_nil]
    exact⟨congrArg (T.i .i64) r,congrArg (T.i .i64) (hc.symm),o2,ttG ((mg (by decide)).mpr (F _ rfl _ _ (by simp only[qA,seval])).2.1) (KR i n x ck ha Hy)⟩
  ·have Y:Ph n x=x:=if_neg hA
   by_cases hx:x=0
   ·subst hx
    have ha:Ph n 0=0:=Y
    have Hy:BH n 0=1+(n/8%2).toNat:=by unfold BH;rw[if_pos ha]
    have r:(1+n/8%2:Int)=((BH n 0:Nat):Int):=by rw[Hy];omega
    have X:an f 4= .i .i64 0:=X
    by_cases D:n%5=4
    ·have hc:BI n ck=vO n ck+20:=if_pos D
     simp(maxDischargeDepth:=6) only[qA,seval,gd,repl,jq,qw,lR,ig,oq,Z,h0,h3,h6,h7,g8,X,g5,W,Zl,k9,t1,w1,w2,Zk,hw,hz,t7,H,t5,t2,t8,t6,t3,e1,e2,e0,e8,C4,I,w8,sL,w9,J,K,N,O,U,F,lX,Jq,F7,hG,hA,D,KQ,Bo,rQ,Ja,Jb,Bc,pk,List.length_cons,List.length_nil]
     exact⟨congrArg (T.i .i64) r,congrArg (T.i .i64) (hc.symm),o2,ttG ((mg (by decide)).mpr (F _ rfl _ _ (by simp only[qA,seval])).2.1) (KR i n 0 ck ha Hy)⟩
    ·have hc:BI n ck=Gn n ck:=if_neg D
     simp(maxDischargeDepth:=6) only[qA,seval,gd,repl,jq,qw,lR,ig,oq,Z,h0,h3,h6,h7,g8,X,g5,W,Zl,k9,t1,w1,w2,Zk,hw,hz,t7,H,t5,t2,t8,t6,t3,e1,e2,e0,e8,C4,I,w8,sL,w9,J,K,N,O,U,F,lX,Jq,F7,hG,hA,D,KQ,Bo,rQ,Ja,Jb,Bc,pk,List.length_cons,List.length_nil]
     exact⟨congrArg (T.i .i64) r,congrArg (T.i .i64) (hc.symm),o2,ttG ((mg (by decide)).mpr (F _ rfl _ _ (by simp only[qA,seval])).2.1) (KR i n 0 ck ha Hy)⟩
   ·have ha:Ph n x=x:=Y
    have Ew: ¬((x:Nat):Int)=0:=by omega
    rw[Y]at e3
    by_cases hE:n%11=10
    ·have Hy:BH n x=3-x:=by unfold BH;rw[Y,if_neg hx,if_pos hE]
     have w15:wr .i64 (3-(x:Int))=3-(x:Int):=jj (by omega)
     have e6: ∃q,lH cdT (.i .i64 (3-(x:Int))) 1=some (.vp (.s (vN (3-x))::q)):=⟨q4,by
      have:(3-(x:Int))=((BH n x:Nat):Int):=by rw[Hy];omega
      rw[this,←Hy];exact e4 .i64⟩
     obtain⟨q6,e6⟩:=e6
     have r:(3-(x:Int))=((BH n x:Nat):Int):=by rw[Hy];omega
     by_cases D:n%5=4
     ·have hc:BI n ck=vO n ck+20:=if_pos D
      simp(maxDischargeDepth:=6) only[qA,seval,gd,repl,jq,qw,lR,ig,oq,Z,h0,h3,h6,h7,g8,X,g5,W,Zl,k9,t1,w1,w2,Zk,hw,hz,t7,H,t5,t2,t8,t6,t3,e1,e2,e0,e8,C4,I,w8,sL,w9,J,K,N,O,U,F,lX,Jq,F7,hG,hA,D,KQ,Bo,rQ,Ja,Jb,Bc,pk,List.length_cons,List.length_nil,Ew,hE,w15,e3,e6]
      exact⟨congrArg (T.i .i64) r,congrArg (T.i .i64) (hc.symm),o2,ttG ((mg (by decide)).mpr (F _ rfl _ _ (by simp only[qA,seval])).2.1) (KR i n x ck ha Hy)⟩
     ·have hc:BI n ck=Gn n ck:=if_neg D
      simp(maxDischargeDepth:=6) only[qA,seval,gd,repl,jq,qw,lR,ig,oq,Z,h0,h3,h6,h7,g8,X,g5,W,Zl,k9,t1,w1,w2,Zk,hw,hz,t7,H,t5,t2,t8,t6,t3,e1,e2,e0,e8,C4,I,w8,sL,w9,J,K,N,O,U,F,lX,Jq,F7,hG,hA,D,KQ,Bo,rQ,Ja,Jb,Bc,pk,List.length_cons,List.length_nil,Ew,hE,w15,e3,e6]
      exact⟨congrArg (T.i .i64) r,congrArg (T.i .i64) (hc.symm),o2,ttG ((mg (by decide)).mpr (F _ rfl _ _ (by simp only[qA,seval])).2.1) (KR i n x ck ha Hy)⟩
    ·have Hy:BH n x=0:=by unfold BH;rw[Y,if_neg hx,if_neg hE]
     have r:(0:Int)=((BH n x:Nat):Int):=by rw[Hy];rfl
     by_cases D:n%5=4
     ·have hc:BI n ck=vO n ck+20:=if_pos D
      simp(maxDischargeDepth:=6) only[qA,seval,gd,repl,jq,qw,lR,ig,oq,Z,h0,h3,h6,h7,g8,X,g5,W,Zl,k9,t1,w1,w2,Zk,hw,hz,t7,H,t5,t2,t8,t6,t3,e1,e2,e0,e8,C4,I,w8,sL,w9,J,K,N,O,U,F,lX,Jq,F7,hG,hA,D,KQ,Bo,rQ,Ja,Jb,Bc,pk,List.length_cons,List.length_nil,Ew,hE,e3]
      exact⟨congrArg (T.i .i64) r,congrArg (T.i .i64) (hc.symm),o2,ttG ((mg (by decide)).mpr (F _ rfl _ _ (by simp only[qA,seval])).2.1) (KR i n x ck ha Hy)⟩
     ·have hc:BI n ck=Gn n ck:=if_neg D
      simp(maxDischargeDepth:=6) only[qA,seval,gd,repl,jq,qw,lR,ig,oq,Z,h0,h3,h6,h7,g8,X,g5,W,Zl,k9,t1,w1,w2,Zk,hw,hz,t7,H,t5,t2,t8,t6,t3,e1,e2,e0,e8,C4,I,w8,sL,w9,J,K,N,O,U,F,lX,Jq,F7,hG,hA,D,KQ,Bo,rQ,Ja,Jb,Bc,pk,List.length_cons,List.length_nil,Ew,hE,e3]
      exact⟨congrArg (T.i .i64) r,congrArg (T.i .i64) (hc.symm),o2,ttG ((mg (by decide)).mpr (F _ rfl _ _ (by simp only[qA,seval])).2.1) (KR i n x ck ha Hy)⟩
 ·rintro f l _ Z ⟨g8,X,g5,rfl,o2,v,hO,W⟩
  have hn:=tE (ji xs)
  have a1:=om la xs hl 1 (by omega)
  have n1:=uL xs 1
  have t1:(ji xs 1).tmod 6=ji xs 1%6:=lb n1
  have w1:wr .i64 (2+ji xs 1%6)=2+ji xs 1%6:=jj (by omega)
  have Zk: ¬((uK (ji xs):Nat):Int)<2+ji xs 1%6:=by unfold uK;omega
  have Zl:be pE 18 [la,.i .i64 1] []=some (.i .i64 (ji xs 1),[]):=a1
  have hz:=hl.froz
  simp(maxDischargeDepth:=6) only[qA,seval,gd,oq,Z,h0,g8,Zl,t1,w1,Zk,hz,rQ]
  exact⟨o2,v,hO,W⟩
omit hl in
theorem ajt:be pE 27 [] []=some (Gp,[])∧be pE 28 [] []=some (Gq,[]):=by
 refine⟨?_, ?_⟩
 ·rw[gQ aoL (by simp[c27])]
  unfold Gp
  simp(maxDischargeDepth:=6) only[qA,seval,c27,repl]
 ·rw[gQ aoM (by simp[c28])]
  unfold Gq
  simp(maxDischargeDepth:=6) only[qA,seval,c28,repl]
theorem aju: ∃v,be pE 19 [la] []=some (.agg [Gp,Gq,v],[])∧v=mQ (uK (ji xs)) ((wW (ji xs)).fl.flatMap Io):=by
 refine⟨_, ?_,rfl⟩
 have F:be pE 18 [la,.i .i64 0] []=some (.i .i64 (ji xs 0),[]):=om la xs hl 0 (by omega)
 have n0:=uL xs 0
 have N:=fun fr lh sh F h3 h4 h5 h6 h7 h8 H=>ttl xs la hl (1440000+15*(ji xs 0%96)) (by omega) (by omega) Gp Gq 1 fr lh sh F h3 h4 h5 h6 h7 h8 H
 have t0:(ji xs 0).tmod 96=ji xs 0%96:=lb n0
 have w0:wr .i64 (15*(ji xs 0%96))=15*(ji xs 0%96):=jj (by omega)
 have w1:wr .i64 (1440000+15*(ji xs 0%96))=1440000+15*(ji xs 0%96):=jj (by omega)
 obtain⟨z1,z2⟩:=ajt
 have hz:=hl.froz
 have O:froz1 Gp=true:=rfl
 have U:froz1 Gq=true:=rfl
 have V:froz Gp=true:=rfl
 have W:froz Gq=true:=rfl
 have X:cellsOf Gp= [Gp]:=rfl
 have Y:cellsOf Gq= [Gq]:=rfl
 have Z:noTup Gp=true:=rfl
 have k8:noTup Gq=true:=rfl
 rw[gQ aoH (by simp[c19])]
 have r:gpT= .sl [.i .i64 30,.i .i64 45,.i .i64 45,.i .i64 60,.i .i64 90,.i .i64 150,.i .i64 600,.i .i64 780] 8 true:=rfl
 have zh:tyT= .sl [.s [97,51,50,48],.s [98,55,51,55],.s [101,49,57,48]] 3 true:=rfl
 unfold wW
 simp only
 generalize Gp=zT at*
 generalize Gq=aT at*
 simp(maxDischargeDepth:=6) only[qA,seval,c19,repl,z1,z2,F,t0,w0,w1,hz,O,U,V,W,X,Y,Z,k8,rQ,awr,aws,←r,←zh]
 generalize hD:DC pE 102 (.loop oq) _=D
 obtain⟨f2,l2,s2,rfl,⟨rfl,o2,v,I,H⟩,J⟩:=E7 Ir hD (N _ _ _ (by simp only[qA,seval]) (by simp only[qA,seval]) (by simp only[qA,seval]) (by simp only[qA,seval]) (by simp only[qA,seval,r]) (by simp only[qA,seval,zh]) (by simp only[qA,seval]) (by simp only[qA,seval]))
 have q2:an f2 2= .ptr .L 2 1 0:=by rw[J 2 (by decide)];simp only[qA,seval]
 have q3:an f2 3= .ptr .L 3 1 0:=by rw[J 3 (by decide)];simp only[qA,seval]
 have K:b7 l2 2=⟨1,.cells [.nilsl,.nilsl,.nilsl] 0 true⟩:=by rw[o2];simp only[qA,seval]
 have ez:=fun e m sh keep=>jG.fzW (m:=m) (sh:=sh) (keep:=keep) (I.congr (jh l2 e (show(91:Nat)≠2 by decide)))
 have lX:=I.cells
 have Jq:=I.noTup
 clear J N
 simp(maxDischargeDepth:=6) only[qA,EW,seval,q2,q3,K,H,ez,lX,Jq,O,U,V,W,X,Y,Z,k8]
end
end Go.Proofs.YtcpceiclnbmgiaaGreat
