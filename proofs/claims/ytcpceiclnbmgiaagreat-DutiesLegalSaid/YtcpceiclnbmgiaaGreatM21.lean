/- Walks of functions of the program and of the reference, and their plain laws, part 21. Conditions: the theorems' own. -/
import Derived.Test.YtcpceiclnbmgiaaGreatM20
import Derived.KernelRfl
set_option maxRecDepth 100000
set_option linter.unusedSimpArgs false
set_option linter.unusedVariables false
set_option maxHeartbeats 16000000
namespace Go.Proofs.YtcpceiclnbmgiaaGreat
open Go Go.Ev
def l0:List Ru:= [
 ⟨1,[115,105,122,101],.mk 17 0 [] [.mk 8 0 [] [.mk 6 0 [108,101,103,115] [],.mk 6 0 [104,101,97,100,115] []],.mk 1 3 [] []]⟩,
 ⟨1,[115,112,97,110],.mk 17 0 [] [.mk 6 0 [115,112,97,110] [],.mk 9 0 [] [.mk 2 780 [] [],.mk 10 0 [] [.mk 2 30 [] [],.mk 9 0 [] [.mk 6 0 [108,101,103,115] [],.mk 1 1 [] []]]]]⟩,
 ⟨1,[110,105,103,104,116],.mk 22 0 [] [.mk 15 0 [] [.mk 6 0 [115,116,97,114,116] [],.mk 3 1320 [] [],.mk 3 300 [] []],.mk 17 0 [] [.mk 6 0 [115,112,97,110] [],.mk 2 480 [] []]]⟩,
 ⟨1,[98,108,111,99,107],.mk 17 0 [] [.mk 6 0 [98,108,111,99,107] [],.mk 2 360 [] []]⟩,
 ⟨1,[116,121,112,101,115],.mk 17 0 [] [.mk 6 0 [116,121,112,101,115] [],.mk 1 1 [] []]⟩,
 ⟨1,[111,100,100],.mk 21 0 [] [.mk 21 0 [] [.mk 18 0 [] [.mk 6 0 [108,101,103,115] [],.mk 1 1 [] []],.mk 18 0 [] [.mk 6 0 [108,101,103,115] [],.mk 1 3 [] []]],.mk 18 0 [] [.mk 6 0 [104,101,97,100,115] [],.mk 1 1 [] []]]⟩,
 ⟨1,[103,97,112],.mk 21 0 [] [.mk 17 0 [] [.mk 6 0 [108,111,110,103,101,115,116] [],.mk 2 120 [] []],.mk 17 0 [] [.mk 2 360 [] [],.mk 6 0 [115,112,97,110] []]]⟩,
 ⟨2,[108,101,97,115,116],.mk 17 0 [] [.mk 2 480 [] [],.mk 6 0 [114,101,115,116] []]⟩,
 ⟨2,[98,101,102,111,114,101],.mk 17 0 [] [.mk 13 0 [] [.mk 2 360 [] [],.mk 6 0 [98,101,102,111,114,101,46,115,112,97,110] []],.mk 6 0 [114,101,115,116] []]⟩,
 ⟨2,[110,105,103,104,116,115],.mk 21 0 [] [.mk 17 0 [] [.mk 6 0 [110,105,103,104,116,115] [],.mk 1 1 [] []],.mk 6 0 [104,111,109,101] []]⟩,
 ⟨2,[104,111,109,101],.mk 22 0 [] [.mk 6 0 [104,111,109,101] [],.mk 17 0 [] [.mk 6 0 [114,101,115,116] [],.mk 2 1200 [] []]]⟩,
 ⟨2,[97,102,116,101,114],.mk 21 0 [] [.mk 15 0 [] [.mk 6 0 [97,102,116,101,114,46,115,116,97,114,116] [],.mk 3 360 [] [],.mk 3 1200 [] []],.mk 17 0 [] [.mk 2 540 [] [],.mk 6 0 [114,101,115,116] []]]⟩,
 ⟨3,[100,97,121,115],.mk 17 0 [] [.mk 6 0 [100,97,121,115] [],.mk 1 3 [] []]⟩,
 ⟨3,[100,117,116,105,101,115],.mk 17 0 [] [.mk 6 0 [100,117,116,105,101,115] [],.mk 1 3 [] []]⟩,
 ⟨3,[98,108,111,99,107],.mk 17 0 [] [.mk 6 0 [98,108,111,99,107] [],.mk 2 540 [] []]⟩,
 ⟨3,[99,114,101,100,105,116],.mk 17 0 [] [.mk 6 0 [99,114,101,100,105,116] [],.mk 2 720 [] []]⟩,
 ⟨3,[115,112,97,110],.mk 17 0 [] [.mk 6 0 [115,112,97,110] [],.mk 2 3000 [] []]⟩,
 ⟨3,[108,101,103,115],.mk 17 0 [] [.mk 1 2 [] [],.mk 6 0 [108,101,103,115] []]⟩]
def pb:List Co:= [
 ⟨1,.mk 8 0 [] [.mk 1 100 [] [],.mk 10 0 [] [.mk 1 10 [] [],.mk 6 0 [108,101,103,115] []]]⟩,
 ⟨1,.mk 11 0 [] [.mk 9 0 [] [.mk 6 0 [115,112,97,110] [],.mk 6 0 [98,108,111,99,107] []],.mk 2 15 [] []]⟩,
 ⟨1,.mk 14 0 [] [.mk 17 0 [] [.mk 6 0 [110,105,103,104,116] [],.mk 2 120 [] []],.mk 1 0 [] [],.mk 1 30 [] []]⟩,
 ⟨2,.mk 14 0 [] [.mk 6 0 [104,111,109,101] [],.mk 1 0 [] [],.mk 1 50 [] []]⟩,
 ⟨2,.mk 11 0 [] [.mk 6 0 [114,101,115,116] [],.mk 2 60 [] []]⟩,
 ⟨3,.mk 10 0 [] [.mk 1 20 [] [],.mk 6 0 [100,97,121,115] []]⟩,
 ⟨3,.mk 11 0 [] [.mk 13 0 [] [.mk 2 0 [] [],.mk 9 0 [] [.mk 6 0 [99,114,101,100,105,116] [],.mk 2 480 [] []]],.mk 2 30 [] []]⟩,
 ⟨1,.mk 7 0 [] [.mk 10 0 [] [.mk 1 5 [] [],.mk 6 0 [104,101,97,100,115] []]]⟩,
 ⟨1,.mk 10 0 [] [.mk 6 0 [116,121,112,101,115] [],.mk 6 0 [116,121,112,101,115] []]⟩,
 ⟨3,.mk 8 0 [] [.mk 7 0 [] [.mk 10 0 [] [.mk 1 3 [] [],.mk 6 0 [108,101,103,115] []]],.mk 6 0 [115,104,105,102,116,115] []]⟩]
def Ii:List Ex:= [
 .mk 13 0 [] [.mk 6 0 [98,108,111,99,107] [],.mk 2 240 [] []],
 .mk 11 0 [] [.mk 6 0 [115,112,97,110] [],.mk 1 2 [] []],
 .mk 8 0 [] [.mk 6 0 [98,108,111,99,107] [],.mk 10 0 [] [.mk 2 20 [] [],.mk 6 0 [108,101,103,115] []]]]
def shB:List Ex:= [.mk 1 2 [] [],.mk 11 0 [] [.mk 1 7 [] [],.mk 1 2 [] []],.mk 7 0 [] [.mk 1 1 [] []]]
def Cx:List Nat:= [115,104,105,102,116,115]
def at3(l:List Int)(k:Nat):Int:=l.getD k 0
def rpB(k:Nat):Int:=at3 [0,45,60] k
def rlB(k:Nat):Int:=at3 [0,15,30] k
def Nv(k:Nat):Int:=at3 [30,40,15] k
def Fv(k:Nat):Int:=at3 [180,1440,60] k
def lyB(k:Nat):Int:=at3 [1440,960,2160] k
def nfB(k:Nat):Int:=at3 [1320,0,720] k
def ntB(k:Nat):Int:=at3 [360,300,720] k
def A5(k:Nat):Ex:=shB.getD k (.mk 1 2 [] [])
def Cy(k:Nat→Nat)(i:List Ru)(r:List Co)(cr:List Ex):Ct:=⟨rpB (k 0),rlB (k 1),Nv (k 2),Fv (k 3),lyB (k 4),nfB (k 5),ntB (k 5),[(Cx,A5 (k 6))],i,r,cr,[],[],0⟩
def j0{α:Type}(p:Nat→Bool):Nat→List α→List α
 |_,[]=> []
 |i,x::l=>if p i=true then x::j0 p (i+1) l else j0 p (i+1) l
theorem lB{α:Type}(p:Nat→Bool): ∀(i:Nat) (l:List α),(j0 p i l).Sublist l
 |_,[]=>List.Sublist.slnil
 |i,x::l=>by
  rw[j0]
  split
  ·exact(lB p (i+1) l).cons_cons x
  ·exact(lB p (i+1) l).cons x
def kB(b:Nat→Int)(i:Nat):Nat:=(b i%3).toNat
def ZR(b:Nat→Int):List Ex:=if b 41%4<3 then [Ii.getD (b 41%4).toNat (.mk 1 2 [] [])]else []
def rO(b:Nat→Int):Ct:=Cy (kB b) (j0 (fun i=>decide (b (7+i)%4=0)) 0 l0) (j0 (fun i=>decide (b (30+i)%3=0)) 0 pb) (ZR b)
theorem three{k:Nat}(P:Nat→Prop)(i:P 0)(r:P 1)(D:P 2)(h:k≤2):P k:=by
 have:k=0∨k=1∨k=2:=by omega
 rcases this with rfl|rfl|rfl <;> assumption
def Nw(l:Cs)(u:Ru):Bool:=re u.sc 1 3&&(og u.nm&&(decide (jy u.x=0)&&decide (LU l u.sc u.x 4=0)))
def Nx(l:Cs)(u:Co):Bool:=re u.sc 1 3&&(decide (jy u.x=0)&&decide (LU l u.sc u.x 1=0))
def Ny(l:Cs)(x:Ex):Bool:=decide (jy x=0)&&decide (LU l 1 x 2=0)
theorem PM(l:Cs): ∀(r:List Ru) (seen:List (Int×List Nat)),(∀u∈r,Nw l u=true)→(r.map fun u=>(u.sc,u.nm)).Nodup→(∀u∈r,(u.sc,u.nm)∉seen)→IP seen r=0
 | [],_,_,_,_=>rfl
 |u::r,seen,F,D,H=>by
  have h:=F u List.mem_cons_self
  unfold Nw at h
  simp only[Bool.and_eq_true,decide_eq_true_eq]at h
  obtain⟨a1,a2,I,J⟩:=h
  rw[List.map_cons,List.nodup_cons]at D
  rw[IP,if_neg (by simp[a1,a2]),if_neg (H u List.mem_cons_self),if_neg (by simp[I])]
  refine PM l r _ (fun v i=>F v (List.mem_cons_of_mem _ i)) D.2 fun v i hm=> ?_
  rcases List.mem_append.1 hm with hm|hm
  ·exact H v (List.mem_cons_of_mem _ i) hm
  ·rw[List.mem_singleton]at hm
   exact D.1 (hm▸List.mem_map_of_mem (f:=fun u:Ru=>(u.sc,u.nm)) i)
theorem PN(l:Cs): ∀(r:List Co),(∀u∈r,Nx l u=true)→KQ r=0
 | [],_=>rfl
 |u::r,i=>by
  have h:=i u List.mem_cons_self
  unfold Nx at h
  simp only[Bool.and_eq_true,decide_eq_true_eq]at h
  rw[KQ,if_neg (by simp[h.1]),if_neg (by simp[h.2.1])]
  exact PN l r fun v D=>i v (List.mem_cons_of_mem _ D)
theorem PO(l:Cs): ∀(r:List Ex),(∀u∈r,Ny l u=true)→KR r=0
 | [],_=>rfl
 |u::r,i=>by
  have h:=i u List.mem_cons_self
  unfold Ny at h
  simp only[Bool.and_eq_true,decide_eq_true_eq]at h
  rw[KR,if_neg (by simp[h.1])]
  exact PO l r fun v D=>i v (List.mem_cons_of_mem _ D)
theorem PQ(l:Cs): ∀(r:List Ru),(∀u∈r,Nw l u=true)→S5 l r=0
 | [],_=>rfl
 |u::r,i=>by
  have h:=i u List.mem_cons_self
  unfold Nw at h
  simp only[Bool.and_eq_true,decide_eq_true_eq]at h
  rw[S5,if_neg (by simp[h.2.2.2])]
  exact PQ l r fun v D=>i v (List.mem_cons_of_mem _ D)
theorem PR(l:Cs): ∀(r:List Co),(∀u∈r,Nx l u=true)→S6 l r=0
 | [],_=>rfl
 |u::r,i=>by
  have h:=i u List.mem_cons_self
  unfold Nx at h
  simp only[Bool.and_eq_true,decide_eq_true_eq]at h
  rw[S6,if_neg (by simp[h.2.2])]
  exact PR l r fun v D=>i v (List.mem_cons_of_mem _ D)
theorem PS(l:Cs): ∀(r:List Ex),(∀u∈r,Ny l u=true)→W8 l r=0
 | [],_=>rfl
 |u::r,i=>by
  have h:=i u List.mem_cons_self
  unfold Ny at h
  simp only[Bool.and_eq_true,decide_eq_true_eq]at h
  rw[W8,if_neg (by simp[h.2])]
  exact PS l r fun v D=>i v (List.mem_cons_of_mem _ D)
theorem ajA(k:Nat)(h:k≤2):l0.all (Nw [(Cx,A5 k)])=true:=three (fun k=>l0.all (Nw [(Cx,A5 k)])=true) (by decide+kernel) (by decide+kernel) (by decide+kernel) h
theorem ajB(k:Nat)(h:k≤2):pb.all (Nx [(Cx,A5 k)])=true:=three (fun k=>pb.all (Nx [(Cx,A5 k)])=true) (by decide+kernel) (by decide+kernel) (by decide+kernel) h
theorem ajC(k:Nat)(h:k≤2):Ii.all (Ny [(Cx,A5 k)])=true:=three (fun k=>Ii.all (Ny [(Cx,A5 k)])=true) (by decide+kernel) (by decide+kernel) (by decide+kernel) h
theorem ajD(k:Nat)(h:k≤2):L0 [] [(Cx,A5 k)]=0∧ZS [(Cx,A5 k)] 0 [(Cx,A5 k)]=0:=three (fun k=>L0 [] [(Cx,A5 k)]=0∧ZS [(Cx,A5 k)] 0 [(Cx,A5 k)]=0) (by decide+kernel) (by decide+kernel) (by decide+kernel) h
theorem ajE:(l0.map fun u=>(u.sc,u.nm)).Nodup:=by decide+kernel
theorem Nz(k:Nat→Nat)(hk: ∀i,k i≤2)(r:List Ru)(D:List Co)(cr:List Ex)(H:r.Sublist l0)(I:D.Sublist pb)(O: ∀x∈cr,x∈Ii)(h4:cr.length≤1):mI (Cy k r D cr)=0:=by
 have J: ∀u∈r,Nw [(Cx,A5 (k 6))] u=true:=fun u F=>List.all_eq_true.1 (ajA (k 6) (hk 6)) u (H.subset F)
 have K: ∀u∈D,Nx [(Cx,A5 (k 6))] u=true:=fun u F=>List.all_eq_true.1 (ajB (k 6) (hk 6)) u (I.subset F)
 have N: ∀u∈cr,Ny [(Cx,A5 (k 6))] u=true:=fun u F=>List.all_eq_true.1 (ajC (k 6) (hk 6)) u (O u F)
 obtain⟨U,V⟩:=ajD (k 6) (hk 6)
 have l1:r.length≤18:=H.length_le
 have l2:D.length≤10:=I.length_le
 have hr:pY (Cy k r D cr)=true:=by
  have a0:re (rpB (k 0)) 0 1440=true:=three (fun k=>re (rpB k) 0 1440=true) rfl rfl rfl (hk 0)
  have a1:re (rlB (k 1)) 0 1440=true:=three (fun k=>re (rlB k) 0 1440=true) rfl rfl rfl (hk 1)
  have a2:re (Nv (k 2)) 0 1440=true:=three (fun k=>re (Nv k) 0 1440=true) rfl rfl rfl (hk 2)
  have W: ∀j,j≤2→re (Fv (k 3)) (Nv j) 1440=true:=fun j X=>three (fun j=>re (Fv (k 3)) (Nv j) 1440=true) (three (fun k=>re (Fv k) (Nv 0) 1440=true) rfl rfl rfl (hk 3)) (three (fun k=>re (Fv k) (Nv 1) 1440=true) rfl rfl rfl (hk 3)) (three (fun k=>re (Fv k) (Nv 2) 1440=true) rfl rfl rfl (hk 3)) X
  have Y:re (lyB (k 4)) 0 10080=true:=three (fun k=>re (lyB k) 0 10080=true) rfl rfl rfl (hk 4)
  have Z:re (nfB (k 5)) 0 1439=true:=three (fun k=>re (nfB k) 0 1439=true) rfl rfl rfl (hk 5)
  have a6:re (ntB (k 5)) 0 1439=true:=three (fun k=>re (ntB k) 0 1439=true) rfl rfl rfl (hk 5)
  unfold pY Cy
  simp only[a0,a1,a2,W _ (hk 2),Y,Z,a6,Bool.true_and]
  rfl
 have hs:qc (Cy k r D cr)=true:=by
  unfold qc Cy
  simp only[Bool.and_eq_true,decide_eq_true_eq,List.length_cons,List.length_nil]
  omega
 have hg:mW (Cy k r D cr)=0:=by
  unfold mW
  rw[if_neg (by simp[hr]),if_neg (by simp[hs])]
  unfold Cy
  simp only
  rw[if_neg (by simp[U]),PM _ r [] J (ajE.sublist (H.map _)) (by simp),if_neg (by simp),PN _ D K,if_neg (by simp),PO _ cr N,if_neg (by simp)]
  rfl
 unfold mI
 rw[if_neg (by simp[hg])]
 unfold Cy
 simp only
 rw[if_neg (by simp[V]),PQ _ r J,if_neg (by simp),PR _ D K,if_neg (by simp),PS _ cr N]
theorem Yo(b:Nat→Int)(i:Nat):kB b i≤2:=by unfold kB;omega
theorem Eu(b:Nat→Int):(∀x∈ZR b,x∈Ii)∧(ZR b).length≤1:=by
 unfold ZR
 split
 ·rename_i h
  refine⟨fun x hx=> ?_,by simp⟩
  rw[List.mem_singleton]at hx
  subst hx
  have hk:(b 41%4).toNat<Ii.length:=by show(b 41%4).toNat<3;omega
  rw[List.getD_eq_getElem?_getD,List.getElem?_eq_getElem hk]
  exact List.getElem_mem hk
 ·exact⟨fun x hx=>by simp at hx,by simp⟩
theorem ajF(b:Nat→Int):mI (rO b)=0:=Nz _ (Yo b) _ _ _ (lB _ _ _) (lB _ _ _) (Eu b).1 (Eu b).2
def Ij(o:Nat→Int)(n:Nat):List Nat:=(List.range n).filter fun i=>decide (0<o i%8)
def PT(o:Nat→Int)(n:Nat):List Int:=(Ij o n).map Int.ofNat
theorem PU(N:Nat): ∀(l:List Nat) (p:Option Int),l.Pairwise (· < ·)→(∀x∈l,x<N)→(∀q,p=some q→ ∀x∈l,q<(x:Int))→Eh N p (l.map Int.ofNat)=0
 | [],_,_,_,_=>rfl
 |x::l,p,i,D,F=>by
  rw[List.pairwise_cons]at i
  have hx:=D x List.mem_cons_self
  have ih:=PU N l (some (x:Int)) i.2 (fun y r=>D y (List.mem_cons_of_mem _ r)) fun q H y r=>by
   cases H
   have:=i.1 y r
   omega
  rw[List.map_cons,Ei]
  show(if 0≤(x:Int)∧(x:Int)<(N:Int)then _ else _)=_
  rw[if_pos (by omega)]
  cases p with
  |none=>exact ih
  |some q=>
   have I:=F q rfl x List.mem_cons_self
   simpa[show¬((x:Int)≤q)by omega]using ih
theorem ajG(o:Nat→Int)(n:Nat):Eh n none (PT o n)=0:=
 PU n _ none (List.Pairwise.filter _ List.pairwise_lt_range) (fun x hx=>List.mem_range.1 (List.mem_filter.1 hx).1) (by simp)
theorem PV(o:Nat→Int)(n:Nat):(PT o n).length≤n:=by
 unfold PT Ij
 rw[List.length_map]
 exact Nat.le_trans (List.length_filter_le _ _) (by simp)
theorem Yp(a:Nat→Int): ∀(m i x:Nat) (r:Int),1440000≤r→r≤1441425+915*i→i+m≤8→ ∀f∈pO a m i x r,f.dp+60≤f.ar∧1440000≤f.dp∧f.ar≤1500000
 |0,_,_,_,_,_,_,f,hf=>by simp[pO]at hf
 |m+1,i,x,r,F,H,I,f,hf=>by
  obtain⟨J,K⟩:=sZ (a (2+i)/16%8).toNat
  have D:wk (a (2+i)) r=r+Er (a (2+i)/16%8).toNat:=rfl
  have N:GX (a (2+i)) r=wk (a (2+i)) r+60+15*(a (2+i)/128%6):=rfl
  have Bn:B3 (a (2+i)) r=wk (a (2+i)) r+20∨B3 (a (2+i)) r=GX (a (2+i)) r:=by unfold B3;split <;> simp
  rw[pO]at hf
  rcases List.mem_cons.1 hf with rfl|hf
  ·show wk _ _+60≤GX _ _∧1440000≤wk _ _∧GX _ _≤1500000
   omega
  ·exact Yp a m (i+1) _ _ (by omega) (by push_cast;omega) (by omega) f hf
theorem vR(a:Nat→Int):(wo a).fl.length=uw a:=Es a _ _ _ _
theorem afV(a:Nat→Int)(c:Ct)(hc:0≤c.cn)(i j:Nat)(h:jn c (wo a).fl i j=true):i<j:=by
 have K:=tT a
 have hl:=vR a
 have F:=Yp a (uw a) 0 0 (1440000+15*(a 0%96)) (by omega) (by omega) (by omega)
 have r:=PJ a (uw a) 0 0 (1440000+15*(a 0%96))
 by_cases hi:i<(wo a).fl.length
 ·by_cases D:j<(wo a).fl.length
  ·rw[Pu hi D]at h
   have N:=F (wo a).fl[i] (List.getElem_mem hi)
   have O:=F (wo a).fl[j] (List.getElem_mem D)
   unfold MZ at h
   simp only[Bool.and_eq_true,decide_eq_true_eq]at h
   obtain⟨_,H,_⟩:=h
   rw[jw (by omega)]at H
   have U:(wo a).fl[i].dp<(wo a).fl[j].dp:=by omega
   refine Nat.lt_of_not_le fun I=> ?_
   by_cases he:j=i
   ·subst he;omega
   ·have:=(r j i D hi).2 (by omega)
    have V:(wo a).fl[i].dp=(pO a (uw a) 0 0 (1440000+15*(a 0%96)))[i].dp:=rfl
    have W:(wo a).fl[j].dp=(pO a (uw a) 0 0 (1440000+15*(a 0%96)))[j].dp:=rfl
    omega
  ·unfold jn at h
   rw[List.getElem?_eq_none (by omega:(wo a).fl.length≤j)]at h
   cases J:(wo a).fl[i]? <;> rw[J]at h <;> cases h
 ·unfold jn at h
  rw[List.getElem?_eq_none (by omega:(wo a).fl.length≤i)]at h
  cases h
theorem ada(a:Nat→Int)(o:Nat→Int)(c:Ct)(hc:mI c=0)(H:Nat)(i:H≤2):X1 (wo a) c (PT o (uw a)) H=0:=by
 have hk:uq (wo a) c=0:=by unfold uq;rw[Ym];simpa using hc
 unfold X1
 rw[if_pos hk,vR,if_pos (ajG o _),if_neg (by omega)]
theorem ajH(a:Nat→Int)(o:Nat→Int)(c:Ct)(hc:0≤c.cn)(H:Nat)(r:H≤2): ¬ajy (wo a) c (PT o (uw a)) H:=by
 have D:=tT a
 have hl:=vR a
 unfold ajy acT
 rintro(h|h)
 ·exact Sz _ _ _ (fun i j=>afV a c hc i j) H (by omega) r h
 ·exact ac4 _ _ _ _ _ (fun i j=>afV a c hc i j) H (by omega) r h
theorem ajI(k:Nat→Nat)(hk: ∀i,k i≤2)(r:List Ru)(D:List Co)(cr:List Ex):0≤(Cy k r D cr).cn:=three (fun k=>0≤Nv k) (by decide) (by decide) (by decide) (hk 2)
def adb(a b:Int):Int:=if a<b then-1 else qR (decide (b<a))
def Ew(x y:Int×Bool):Int:=if x.1=y.1 then qR x.2-qR y.2 else if x.1<y.1 then-1 else 1
def Ey:List (Int×Bool)→List (Int×Bool)→Int
 |x::a,y::b=>if Ew x y≠0 then Ew x y else Ey a b
 |_,_=>0
def A6(a b:List (Int×Bool)):Int:=if Ey a b≠0 then Ey a b else adb a.length b.length
theorem Ez{a b:List (Int×Bool)}(h:a= []∨b= []):Ey a b=0:=by
 rcases h with rfl|rfl
 ·rfl
 ·cases a <;> rfl
section
variable(d e:List (Int×Bool))(a b:T)(ha:IsSl a d.length (oE d))(hb:IsSl b e.length (oE e))(hd:d.length≤4611686018427387000)(he:e.length≤4611686018427387000)
include ha hb hd he
end
def jv(xs:List Int)(i:Nat):Int:=if xs.length=0 then(i:Int)%65536 else xs.getD (i%xs.length) 0%65536+((i/xs.length:Nat):Int)
theorem u7(xs:List Int)(i:Nat):0≤jv xs i:=by
 unfold jv;split
 ·omega
 ·have:(0:Int)≤((i/xs.length:Nat):Int):=Int.natCast_nonneg _
  omega
theorem lE{a b:Int}(h:0≤a):a.tmod b=a%b:=by rw[Int.tmod_eq_emod_of_nonneg h]
theorem oF(l:T)(xs:List Int)(hl:IsSl l xs.length (ints xs))(i:Nat)(hi:i<1000000):be pE 18 [l,.i .i64 (i:Int)] []=some (.i .i64 (jv xs i),[]):=by
 rw[il agG (by simp[c18])]
 by_cases h:xs.length=0
 ·have r:((xs.length:Nat):Int)=0:=by omega
  have ha:jv xs i=(i:Int)%65536:=by unfold jv;rw[if_pos h]
  simp only[qA,seval,c18,hl.lenI,r,ha]
 ·have r: ¬((xs.length:Nat):Int)=0:=by omega
  have D:i%xs.length<xs.length:=Nat.mod_lt _ (by omega)
  have ha:jv xs i=xs[i%xs.length]%65536+((i/xs.length:Nat):Int):=by
   unfold jv;rw[if_neg h];simp[List.getD_eq_getElem?_getD,D]
  have H:((i:Int)).tmod (xs.length:Int)=((i%xs.length:Nat):Int):=by rw[lE (Int.natCast_nonneg i)];exact(Int.natCast_emod i xs.length).symm
  have I:((i:Int)).tdiv (xs.length:Int)=((i/xs.length:Nat):Int):=by rw[Int.tdiv_eq_ediv_of_nonneg (Int.natCast_nonneg i)];exact(Int.natCast_ediv i xs.length).symm
  have F:i/xs.length≤i:=Nat.div_le_self _ _
  have J:0≤((i/xs.length:Nat):Int):=Int.natCast_nonneg _
  have K:((i/xs.length:Nat):Int)≤(i:Int):=Int.ofNat_le.2 F
  have Hf:(i:Int)<1000000:=by omega
  generalize ((i/xs.length:Nat):Int)=q at*
  have N:wr .i64 q=q:=jw (by omega)
  have O:wr .i64 (xs[i%xs.length]%65536+q)=xs[i%xs.length]%65536+q:=jw (by omega)
  have U: ∀kk,lR l (.i kk ((i%xs.length:Nat):Int)) 1=some (.vp (T.i .i64 xs[i%xs.length]::(ints xs).drop (i%xs.length+1))):=fun kk=>by rw[hl.ia (sz:=1) (by rw[kO];omega) D,Nat.mul_one,oQ xs _ D]
  simp only[qA,jG,seval,iE,c18,hl.lenI,r,H,I,U,N,O,ha]
def pZ(i:List (List Nat)):List Nat:=i.flatMap (· ++ [10])
def EA(tx:List Nat):Nat→List (List Nat)×Nat
 |0=>([],0)
 |k+1=>if tx.getD k 0=10 then((EA tx k).1++ [(tx.drop (EA tx k).2).take (k-(EA tx k).2)],k+1)else EA tx k
theorem Yq(tx:List Nat): ∀k,(EA tx k).1.length≤k∧(EA tx k).2≤k
 |0=>⟨Nat.le_refl _,Nat.le_refl _⟩
 |k+1=>by
  have:=Yq tx k
  rw[EA]
  split
  ·simp;omega
  ·omega
theorem Ll(a l b:List Nat)(L:List (List Nat))(hl:10∉l)(h:EA (a++l++b) a.length=(L,a.length)): ∀j,j≤l.length→EA (a++l++b) (a.length+j)=(L,a.length)
 |0,_=>h
 |j+1,i=>by
  have ih:=Ll a l b L hl h j (by omega)
  rw[←Nat.add_assoc,EA,ih]
  have e:(a++l++b).getD (a.length+j) 0=l[j]:=by
   rw[List.getD_eq_getElem?_getD,List.append_assoc,List.getElem?_append_right (by omega),Nat.add_sub_cancel_left,List.getElem?_append_left (by omega),List.getElem?_eq_getElem (by omega)]
   rfl
  rw[if_neg]
  rw[e]
  exact fun h=>hl (h▸List.getElem_mem _)
theorem PW: ∀(i:List (List Nat)) (a:List Nat) (L:List (List Nat)) (tx:List Nat),(∀l∈i,10∉l)→tx=a++pZ i→EA tx a.length=(L,a.length)→EA tx tx.length=(L++i,tx.length)
 | [],a,L,tx,_,e,h=>by
   have:tx=a:=by rw[e];simp[pZ]
   rw[this]at h ⊢
   simpa using h
 |l::i,a,L,tx,hl,e,h=>by
  have r:tx=a++l++([10]++pZ i):=by rw[e];simp[pZ]
  have D:=h
  rw[r]at D
  have F:=Ll a l _ L (hl l List.mem_cons_self) D l.length (Nat.le_refl _)
  rw[←r]at F
  have H:EA tx (a++l++ [10]).length=(L++ [l],(a++l++ [10]).length):=by
   rw[List.length_append,List.length_append,List.length_singleton,EA,F]
   have I:tx.getD (a.length+l.length) 0=10:=by
    rw[r,List.getD_eq_getElem?_getD,List.getElem?_append_right (by simp)]
    simp
   rw[if_pos I]
   have J:(tx.drop a.length).take (a.length+l.length-a.length)=l:=by
    rw[r,List.append_assoc,List.drop_left,Nat.add_sub_cancel_left,List.take_left]
   rw[J]
  have K:=PW i (a++l++ [10]) (L++ [l]) tx (fun x hx=>hl x (List.mem_cons_of_mem _ hx)) (by rw[r];simp) H
  rw[K,List.append_assoc]
  rfl
def Yr(tx:List Nat):Prop:=tx.length≤20000∧ ∀c∈tx,c=10∨(32≤c∧c≤126)
theorem PX{c:Nat}:(do let a ←(some c:Option Nat);pure (a:Int))=some (c:Int):=rfl
section
variable(tx:List Nat)(hx:Yr tx)
include hx
theorem az3(fr:Fr)(lh:iw b8)(sh:List b8)(F:an fr 0= .s tx)(U:an fr 4= .i .i64 0):
  Lp pE 66 wX fr lh sh (.ext 0) fun f q s=>s=sh∧q=lh:=by
 obtain⟨Fi,H⟩:=hx
 refine kE Jr (fun k f q s=>an f 4= .i .i64 (k:Int)∧s=sh∧q=lh) tx.length ⟨U,rfl,rfl⟩ ?_ ?_
 ·rintro k f _ _ hk r ⟨D,rfl,rfl⟩
  have K:(k:Int)<tx.length:=by omega
  have N:=iO (k:=k) (by omega)
  have hc:=H tx[k] (List.getElem_mem hk)
  have O:tx[k]? =some tx[k]:=List.getElem?_eq_getElem hk
  have V:(0:Int)≤(k:Int):=by omega
  generalize tx[k]=c at*
  by_cases I:c=10
  ·subst I
   simp(maxDischargeDepth:=6) only[qA,seval,gd,wX,r,F,D,K,O,PX,N]
  ·have hi: ¬((c:Nat):Int)=10:=by omega
   have BF: ¬((c:Nat):Int)<32:=by omega
   have J: ¬((c:Nat):Int)>126:=by omega
   simp(maxDischargeDepth:=6) only[qA,seval,gd,wX,r,F,D,K,O,PX,N,hi,BF,J]
 ·rintro f _ _ r ⟨D,rfl,rfl⟩
  simp only[qA,seval,gd,wX,r,F,D,Int.lt_irrefl]
theorem az5(fr:Fr)(lh:iw b8)(sh:List b8)(K:an fr 0= .s tx)(X:an fr 5= .nilsl)(Y:an fr 6= .i .i64 0)(Z:an fr 7= .i .i64 0):
  Lp pE 66 wW fr lh sh (.ext 2) fun f q s=>s=sh∧jO q (an f 5) 49 1 (EA tx tx.length).1.length (strs (EA tx tx.length).1)∧an f 6= .i .i64 ((EA tx tx.length).2:Int):=by
 obtain⟨Fi,hx2⟩:=hx
 refine kE Jq (fun k f q s=>an f 7= .i .i64 (k:Int)∧s=sh∧jO q (an f 5) 49 1 (EA tx k).1.length (strs (EA tx k).1)∧an f 6= .i .i64 ((EA tx k).2:Int)) tx.length ⟨Z,rfl,by rw[X];exact jO.nil,Y⟩ ?_ ?_
 ·rintro k f q _ hk H ⟨I,rfl,D,J⟩
  have V:(k:Int)<tx.length:=by omega
  have W:=iO (k:=k) (by omega)
  have N:tx[k]? =some tx[k]:=List.getElem?_eq_getElem hk
  have hD:tx.getD k 0=tx[k]:=by rw[List.getD_eq_getElem?_getD,N];rfl
  have h0k:(0:Int)≤(k:Int):=by omega
  obtain⟨b1,b2⟩:=Yq tx k
  have IS:((EA tx k).2≤k∧k≤tx.length):=⟨b2,by omega⟩
  rw[EA,hD]
  generalize EA tx k=p at*
  obtain⟨L,r⟩:=p
  dsimp only at*
  have O:=fun(l:List Nat) (iU:iw b8) (U:List b8) (e:b7 iU 49=b7 q 49)=>nq (sh:=U) (D.congr e) [.s l] rfl (bytes:=16) (by unfold roomy;omega) true
  have AW:=D.notS
  generalize SA:an f 5=v5 at D O AW
  generalize tx[k]=c at*
  by_cases F:c=10
  ·subst F
   simp(maxDischargeDepth:=6) only[qA,seval,gd,wW,H,K,I,J,SA,V,N,PX,W,O,AW,repl,DN,IS]
   have h:=fun U=>(O ((tx.drop r).take (k-r)) q U rfl).2.1
   rw[show strs (L++ [(tx.drop r).take (k-r)])=strs L++ [.s ((tx.drop r).take (k-r))]by simp[strs],List.length_append,List.length_singleton]
   exact h _
  ·have hi: ¬((c:Nat):Int)=10:=by omega
   simp(maxDischargeDepth:=6) only[qA,seval,gd,wW,H,K,I,J,SA,V,N,PX,W,hi,F]
   exact D
 ·rintro f q _ H ⟨I,rfl,D,J⟩
  simp only[qA,seval,gd,wW,H,K,I,Int.lt_irrefl]
  exact⟨D,J⟩
end
theorem ade(i:List (List Nat))(h: ∀l∈i,l.length≤100∧ ∀c∈l,32≤c∧c≤126)(hl:i.length≤100):Yr (pZ i)∧ ∀l∈i,10∉l:=by
 refine⟨⟨?_,fun c hc=> ?_⟩,fun l hl r=> ?_⟩
 ·have: ∀m:List (List Nat),(∀l∈m,l.length≤100)→(pZ m).length≤m.length*101:=by
   intro m
   induction m with
   |nil=>simp[pZ]
   |cons x m ih=>
    intro D
    have F:=D x List.mem_cons_self
    have h2:=ih fun l hl=>D l (List.mem_cons_of_mem _ hl)
    have e:pZ (x::m)=x++ [10]++pZ m:=by simp[pZ]
    rw[e,List.length_append,List.length_append,List.length_singleton,List.length_cons]
    omega
  have:=this i fun l hl=>(h l hl).1
  omega
 ·obtain⟨l,F,h2⟩:=List.mem_flatMap.1 hc
  rcases List.mem_append.1 h2 with h2|h2
  ·exact .inr ((h l F).2 c h2)
  ·exact .inl (List.mem_singleton.1 h2)
 ·have:=(h l hl).2 10 r
  omega
theorem Ys(r:List (List Nat))(hx:Yr (pZ r))(F: ∀l∈r,10∉l)(hl:r.length≤1000):be pE 77 [.s (pZ r)] []=some (.tup [lN r.length (strs r),.i .i64 0],[]):=by
 have e:=PW r [] [] (pZ r) F rfl rfl
 rw[List.nil_append]at e
 have U:=fun fr lh sh=>az3 (pZ r) hx fr lh sh
 have K:=fun fr lh sh=>az5 (pZ r) hx fr lh sh
 rw[e]at K
 have N:=hx.1
 have hb: ¬((pZ r).length:Int)>20000:=by omega
 have V: ¬((r.length:Nat):Int)>1000:=by omega
 generalize pZ r=tx at*
 rw[il apO (by simp[c77])]
 simp(maxDischargeDepth:=6) only[qA,seval,c77,hb]
 generalize H:DC pE 66 (.loop wX) _=D
 obtain⟨f2,l2,s2,rfl,⟨rfl,rfl⟩,O⟩:=Cq Jr H (U _ _ _ (by simp only[qA,seval]) (by simp only[qA,seval]))
 simp(maxDischargeDepth:=6) only[qA,seval]
 generalize H:DC pE 66 (.loop wW) _=D
 obtain⟨W,l3,s3,rfl,⟨rfl,I,X⟩,J⟩:=Cq Jq H (K _ _ _ (by simp only[qA,seval,O]) (by simp only[qA,seval]) (by simp only[qA,seval]) (by simp only[qA,seval]))
 have Y:=fun m keep=>I.fzW (m:=m) (sh:=([]:List b8)) (keep:=keep)
 have Z:=I.lenI
 have q0:an W 0= .s tx:=by rw[J 0 (by decide)];simp only[qA,seval,O]
 have q3:=I.notS
 simp(maxDischargeDepth:=6) only[qA,Fw,seval,q0,X,Z,V,Int.lt_irrefl,Y]
def tU(a:Nat→Int):Nat→Nat→Nat→Int→Nat×Int
 |0,_,x,r=>(x,r)
 |m+1,i,x,r=>tU a m (i+1) (B2 (a (2+i)) x) (B3 (a (2+i)) r)
theorem Lm(a:Nat→Int): ∀(m i x:Nat) (r:Int),pO a (m+1) i x r=pO a m i x r++ [uv (i+m) (a (2+(i+m))) (tU a m i x r).1 (tU a m i x r).2]
 |0,i,x,r=>by simp[pO,tU]
 |m+1,i,x,r=>by
  rw[pO,Lm a m (i+1),pO,tU,List.cons_append,show i+1+m=i+(m+1)by omega]
theorem Ln(a:Nat→Int): ∀(m i x:Nat) (r:Int),tU a (m+1) i x r=(B2 (a (2+(i+m))) (tU a m i x r).1,B3 (a (2+(i+m))) (tU a m i x r).2)
 |0,i,x,r=>rfl
 |m+1,i,x,r=>by
  rw[tU,Ln a m (i+1),tU,show i+1+m=i+(m+1)by omega]
theorem PY(a:Nat→Int): ∀(m i x:Nat) (r:Int),x≤2→1440000≤r→r≤1441425+915*i→(tU a m i x r).1≤2∧1440000≤(tU a m i x r).2∧(tU a m i x r).2≤1441425+915*(i+m)
 |0,i,x,r,D,F,H=>by rw[tU];exact⟨D,F,by omega⟩
 |m+1,i,x,r,D,F,H=>by
  obtain⟨K,N⟩:=sZ (a (2+i)/16%8).toNat
  have I:wk (a (2+i)) r=r+Er (a (2+i)/16%8).toNat:=rfl
  have O:GX (a (2+i)) r=wk (a (2+i)) r+60+15*(a (2+i)/128%6):=rfl
  have Bn:B3 (a (2+i)) r=wk (a (2+i)) r+20∨B3 (a (2+i)) r=GX (a (2+i)) r:=by unfold B3;split <;> simp
  rw[tU]
  obtain⟨U,J,V⟩:=If (a (2+i)) x D
  have:=PY a m (i+1) (B2 (a (2+i)) x) (B3 (a (2+i)) r) J (by omega) (by push_cast;omega)
  push_cast at this
  refine⟨this.1,this.2.1,by push_cast;omega⟩
theorem Lo(a:Int)(k:IntKind):Ev.bin .shr (.i .i64 a) (.i k 7)=some (.i .i64 (a/128)):=Cd (b:=7) (by omega)
theorem BL(a:Int)(k:IntKind):Ev.bin .shr (.i .i64 a) (.i k 10)=some (.i .i64 (a/1024)):=Cd (b:=10) (by omega)
def FM:T:= .sl [.s [117,116,99],.i .i64 0,.nilsl,.s [111,115,108,111],.i .i64 60,.sl [.i .i64 1441500,.i .i64 120,.i .i64 1444000,.i .i64 60] 2 true,.s [121,111,114,107],.i .i64 (-300),.sl [.i .i64 1442900,.i .i64 (-240)] 1 true] 3 true
def FN:T:= .sl [.s [65,65,65],.s [117,116,99],.s [66,66,66],.s [111,115,108,111],.s [67,67,67],.s [121,111,114,107]] 3 true
def gpT:T:= .sl [.i .i64 30,.i .i64 45,.i .i64 45,.i .i64 60,.i .i64 90,.i .i64 150,.i .i64 600,.i .i64 780] 8 true
def tyT:T:= .sl [.s [97,51,50,48],.s [98,55,51,55],.s [101,49,57,48]] 3 true
def cdT:T:= .sl [.s [65,65,65],.s [66,66,66],.s [67,67,67]] 3 true
theorem atH(r:Int)(D:0≤r)(F:r<8): ∃q,∀kk,lR gpT (.i kk r) 1=some (.vp (.i .i64 (Er r.toNat)::q)):=by
 have:r=0∨r=1∨r=2∨r=3∨r=4∨r=5∨r=6∨r=7:=by omega
 rcases this with rfl|rfl|rfl|rfl|rfl|rfl|rfl|rfl <;> exact⟨_,fun _=>rfl⟩
theorem atI(r:Int)(D:0≤r)(F:r<3): ∃q,∀kk,lR tyT (.i kk r) 1=some (.vp (.s (Yj r.toNat)::q)):=by
 have:r=0∨r=1∨r=2:=by omega
 rcases this with rfl|rfl|rfl <;> exact⟨_,fun _=>rfl⟩
theorem Yt(x:Nat)(h:x≤2): ∃q,∀kk,lR cdT (.i kk (x:Int)) 1=some (.vp (.s (wj x)::q)):=by
 have:x=0∨x=1∨x=2:=by omega
 rcases this with rfl|rfl|rfl <;> exact⟨_,fun _=>rfl⟩
theorem ajJ:be pE 46 [] []=some (cdT,[]):=by
 rw[il agO (by simp[c46])]
 unfold cdT
 simp(maxDischargeDepth:=6) only[qA,seval,c46,repl]
theorem az8(k:Nat)(h:k<256):aaQ (.sl [.i .u8 (k:Int)] 1 true)=some (.s [k]):=by
 show(if k<256 then some (T.s [k])else none)=_
 rw[if_pos h]
theorem ttG{HP:iw b8}{r D F:T}{H:List T}{I:List Fl}{y:Fl}{i g:Nat}(h:jO HP r 91 9 (i+1) (I.flatMap IV++H))(e:IV y=H): ∃v,jO HP v 91 9 (i+1) ((I++ [y]).flatMap IV)∧(⟨g,.cells [D,F,r] 0 true⟩:b8)=⟨g,.cells [D,F,v] 0 true⟩:=by
 refine⟨r, ?_,rfl⟩
 rw[List.flatMap_append,List.flatMap_cons,List.flatMap_nil,List.append_nil,e]
 exact h
theorem Lq(i:Nat)(n:Int)(x:Nat)(r:Int){A B:Nat}(ha:PG n x=A)(hb:B2 n x=B):IV (uv i n x r)= [.s [70,48+i],.s (wj A),.s (wj B),.i .i64 (wk n r),.i .i64 (GX n r),.s (Yj (n/1024%3).toNat),.i .i64 1,.i .i64 1,.i .i64 2]:=by
 subst ha hb
 rfl
section
variable(xs:List Int)(la:T)(hl:IsSl la xs.length (ints xs))
include hl
theorem ttl(V:Int)(GY:1440000≤V)(FO:V≤1441425)(zT aT:T)(g:Nat)(fr:Fr)(lh:iw b8)(sh:List b8)(h0:an fr 0=la)(h3:an fr 3= .ptr .L 3 g 0)(h4:an fr 4= .i .i64 0)(h5:an fr 5= .i .i64 V)(h6:an fr 6=gpT)(h7:an fr 7=tyT)(h8:an fr 8= .i .i64 0)(W:b7 lh 3=⟨g,.cells [zT,aT,.nilsl] 0 true⟩):
  Lp pE 102 oG fr lh sh (.ext 0) fun f l s=>s=sh∧b7 l 2=b7 lh 2∧ ∃v,jO l v 91 9 (uw (jv xs)) ((pO (jv xs) (uw (jv xs)) 0 0 V).flatMap IV)∧b7 l 3=⟨g,.cells [zT,aT,v] 0 true⟩:=by
 refine kE IY (fun i f l s=>an f 8= .i .i64 (i:Int)∧an f 4= .i .i64 ((tU (jv xs) i 0 0 V).1:Int)∧an f 5= .i .i64 (tU (jv xs) i 0 0 V).2∧s=sh∧b7 l 2=b7 lh 2∧ ∃v,jO l v 91 9 i ((pO (jv xs) i 0 0 V).flatMap IV)∧b7 l 3=⟨g,.cells [zT,aT,v] 0 true⟩) (uw (jv xs)) ⟨h8,h4,h5,rfl,rfl,.nilsl,jO.nil,W⟩ ?_ ?_
 ·rintro i f l _ hi Z ⟨g8,X,g5,rfl,o2,v,hO,W⟩
  have hn:=tT (jv xs)
  have a1:=oF la xs hl 1 (by omega)
  have kM:=oF la xs hl (2+i) (by omega)
  have n1:=u7 xs 1
  have n2:=u7 xs (2+i)
  have ZT:(i:Int)<2+jv xs 1%6:=by unfold uw at hi;omega
  have t1:(jv xs 1).tmod 6=jv xs 1%6:=lE n1
  have w1:wr .i64 (2+jv xs 1%6)=2+jv xs 1%6:=jw (by omega)
  have w2:wr .i64 (2+(i:Int))=((2+i:Nat):Int):=by rw[jw (by omega)];omega
  have hw:=iO (k:=i) (by omega)
  have nF:=Ln (jv xs) i 0 0 V
  have FJ:=Lm (jv xs) i 0 0 V
  have hrg:=PY (jv xs) i 0 0 V (by omega) (by omega) (by omega)
  rw[Nat.zero_add]at nF FJ
  obtain⟨r1,r2,r3⟩:=hrg
  rw[nF,FJ]
  generalize (tU (jv xs) i 0 0 V).1=x at*
  generalize (tU (jv xs) i 0 0 V).2=ck at*
  generalize pO (jv xs) i 0 0 V=fs at*
  have ZU:be pE 18 [la,.i .i64 1] []=some (.i .i64 (jv xs 1),[]):=a1
  generalize jv xs 1=m1 at*
  generalize jv xs (2+i)=n at*
  have t7:n.tmod 7=n%7:=lE n2
  have H:n.tmod 11=n%11:=lE n2
  have t5:n.tmod 5=n%5:=lE n2
  have t2:(n/8).tmod 2=n/8%2:=lE (by omega)
  have t8:(n/16).tmod 8=n/16%8:=lE (by omega)
  have t6:(n/128).tmod 6=n/128%6:=lE (by omega)
  have t3:(n/1024).tmod 3=n/1024%3:=lE (by omega)
  obtain⟨q1,e1⟩:=atH (n/16%8) (by omega) (by omega)
  obtain⟨q2,e2⟩:=atI (n/1024%3) (by omega) (by omega)
  obtain⟨g1,g2⟩:=sZ (n/16%8).toNat
  obtain⟨u1,u2,u3⟩:=If n x r1
  obtain⟨q3,e3⟩:=Yt (PG n x) u3
  obtain⟨q4,e4⟩:=Yt (B2 n x) u2
  have Bn:=ajJ
  have hdp:wk n ck=ck+Er (n/16%8).toNat:=rfl
  have nh:GX n ck=wk n ck+60+15*(n/128%6):=rfl
  have hz:=hl.froz
  have hi6:i≤6:=by omega
  have I:wr .i64 (48+(i:Int))=((48+i:Nat):Int):=by rw[jw (by omega)];omega
  have w8:wr .u8 ((48+i:Nat):Int)=((48+i:Nat):Int):=by
   have:i=0∨i=1∨i=2∨i=3∨i=4∨i=5∨i=6:=by omega
   rcases this with rfl|rfl|rfl|rfl|rfl|rfl|rfl <;> rfl
  have sg:=az8 (48+i) (by omega)
  have w9:wr .i64 (ck+Er (n/16%8).toNat)=wk n ck:=by rw[jw (by omega)];rfl
  have J:wr .i64 (wk n ck+60)=wk n ck+60:=jw (by omega)
  have K:wr .i64 (15*(n/128%6))=15*(n/128%6):=jw (by omega)
  have N:wr .i64 (wk n ck+60+15*(n/128%6))=GX n ck:=by rw[jw (by omega)];rfl
  have O:wr .i64 (wk n ck+20)=wk n ck+20:=jw (by omega)
  have U:wr .i64 (1+n/8%2)=1+n/8%2:=jw (by omega)
  have F:=fun(ps:List T) (vJ:ps.length=9) (iU:iw b8) (iX:List b8) (e:b7 iU 91=b7 l 91)=>nq (bytes:=104) (sh:=iX) (hO.congr e) ps vJ (by unfold roomy;omega) true
  have mG:=fun ps vJ iU iX e=>(F ps vJ iU iX e).2.1.cells
  have JV:=fun ps vJ iU iX e=>(F ps vJ iU iX e).2.1.noTup
  have AW:=hO.notS
  obtain⟨G,hG⟩: ∃G,(b7 l 12).g+1=G:=⟨_,rfl⟩
  have e0:lR cdT (.i .i64 0) 1=some (.vp [.s (wj 0),.s (wj 1),.s (wj 2)]):=rfl
  have e8: ∃q,lR cdT (.i .i64 (1+n/8%2)) 1=some (.vp (.s (wj (1+(n/8%2).toNat))::q)):=by
   obtain⟨q,h⟩:=Yt (1+(n/8%2).toNat) (by omega)
   refine⟨q, ?_⟩
   have:(1+n/8%2:Int)=((1+(n/8%2).toNat:Nat):Int):=by omega
   rw[this]
   exact h .i64
  obtain⟨q8,e8⟩:=e8
  generalize cdT=cdT at*
  by_cases hA:n%7=6
  ·have ha:PG n x=0:=if_pos hA
   have H5:B2 n x=1+(n/8%2).toNat:=by unfold B2;rw[if_pos ha]
   have r:(1+n/8%2:Int)=((B2 n x:Nat):Int):=by rw[H5];omega
   by_cases D:n%5=4
   ·have hc:B3 n ck=wk n ck+20:=if_pos D
    simp(maxDischargeDepth:=6) only[qA,seval,gd,repl,jG,sN,mc,iE,oG,Z,h0,h3,h6,h7,g8,X,g5,W,ZU,kM,t1,w1,w2,ZT,hw,hz,t7,H,t5,t2,t8,t6,t3,e1,e2,e0,e8,Bn,I,w8,sg,w9,J,K,N,O,U,F,mG,JV,AW,hG,hA,D,Lo,BL,sj,JF,JG,BA,pK,List.length_cons,List.length_nil]
    exact⟨congrArg (T.i .i64) r,congrArg (T.i .i64) (hc.symm),o2,ttG ((mC (by decide)).mpr (F _ rfl _ _ (by simp only[qA,seval])).2.1) (Lq i n x ck ha H5)⟩
   ·have hc:B3 n ck=GX n ck:=if_neg D
    simp(maxDischargeDepth:=6) only[qA,seval,gd,repl,jG,sN,mc,iE,oG,Z,h0,h3,h6,h7,g8,X,g5,W,ZU,kM,t1,w1,w2,ZT,hw,hz,t7,H,t5,t2,t8,t6,t3,e1,e2,e0,e8,Bn,I,w8,sg,w9,J,K,N,O,U,F,mG,JV,AW,hG,hA,D,Lo,BL,sj,JF,JG,BA,pK,List.length_cons,List.length_nil]
    exact⟨congrArg (T.i .i64) r,congrArg (T.i .i64) (hc.symm),o2,ttG ((mC (by decide)).mpr (F _ rfl _ _ (by simp only[qA,seval])).2.1) (Lq i n x ck ha H5)⟩
  ·have Y:PG n x=x:=if_neg hA
   by_cases hx:x=0
   ·subst hx
    have ha:PG n 0=0:=Y
    have H5:B2 n 0=1+(n/8%2).toNat:=by unfold B2;rw[if_pos ha]
    have r:(1+n/8%2:Int)=((B2 n 0:Nat):Int):=by rw[H5];omega
    have X:an f 4= .i .i64 0:=X
    by_cases D:n%5=4
    ·have hc:B3 n ck=wk n ck+20:=if_pos D
     simp(maxDischargeDepth:=6) only[qA,seval,gd,repl,jG,sN,mc,iE,oG,Z,h0,h3,h6,h7,g8,X,g5,W,ZU,kM,t1,w1,w2,ZT,hw,hz,t7,H,t5,t2,t8,t6,t3,e1,e2,e0,e8,Bn,I,w8,sg,w9,J,K,N,O,U,F,mG,JV,AW,hG,hA,D,Lo,BL,sj,JF,JG,BA,pK,List.length_cons,List.length_nil]
     exact⟨congrArg (T.i .i64) r,congrArg (T.i .i64) (hc.symm),o2,ttG ((mC (by decide)).mpr (F _ rfl _ _ (by simp only[qA,seval])).2.1) (Lq i n 0 ck ha H5)⟩
    ·have hc:B3 n ck=GX n ck:=if_neg D
     simp(maxDischargeDepth:=6) only[qA,seval,gd,repl,jG,sN,mc,iE,oG,Z,h0,h3,h6,h7,g8,X,g5,W,ZU,kM,t1,w1,w2,ZT,hw,hz,t7,H,t5,t2,t8,t6,t3,e1,e2,e0,e8,Bn,I,w8,sg,w9,J,K,N,O,U,F,mG,JV,AW,hG,hA,D,Lo,BL,sj,JF,JG,BA,pK,List.length_cons,List.length_nil]
     exact⟨congrArg (T.i .i64) r,congrArg (T.i .i64) (hc.symm),o2,ttG ((mC (by decide)).mpr (F _ rfl _ _ (by simp only[qA,seval])).2.1) (Lq i n 0 ck ha H5)⟩
   ·have ha:PG n x=x:=Y
    have E0: ¬((x:Nat):Int)=0:=by omega
    rw[Y]at e3
    by_cases hE:n%11=10
    ·have H5:B2 n x=3-x:=by unfold B2;rw[Y,if_neg hx,if_pos hE]
     have w15:wr .i64 (3-(x:Int))=3-(x:Int):=jw (by omega)
     have e6: ∃q,lR cdT (.i .i64 (3-(x:Int))) 1=some (.vp (.s (wj (3-x))::q)):=⟨q4,by
      have:(3-(x:Int))=((B2 n x:Nat):Int):=by rw[H5];omega
      rw[this,←H5];exact e4 .i64⟩
     obtain⟨q6,e6⟩:=e6
     have r:(3-(x:Int))=((B2 n x:Nat):Int):=by rw[H5];omega
     by_cases D:n%5=4
     ·have hc:B3 n ck=wk n ck+20:=if_pos D
      simp(maxDischargeDepth:=6) only[qA,seval,gd,repl,jG,sN,mc,iE,oG,Z,h0,h3,h6,h7,g8,X,g5,W,ZU,kM,t1,w1,w2,ZT,hw,hz,t7,H,t5,t2,t8,t6,t3,e1,e2,e0,e8,Bn,I,w8,sg,w9,J,K,N,O,U,F,mG,JV,AW,hG,hA,D,Lo,BL,sj,JF,JG,BA,pK,List.length_cons,List.length_nil,E0,hE,w15,e3,e6]
      exact⟨congrArg (T.i .i64) r,congrArg (T.i .i64) (hc.symm),o2,ttG ((mC (by decide)).mpr (F _ rfl _ _ (by simp only[qA,seval])).2.1) (Lq i n x ck ha H5)⟩
     ·have hc:B3 n ck=GX n ck:=if_neg D
      simp(maxDischargeDepth:=6) only[qA,seval,gd,repl,jG,sN,mc,iE,oG,Z,h0,h3,h6,h7,g8,X,g5,W,ZU,kM,t1,w1,w2,ZT,hw,hz,t7,H,t5,t2,t8,t6,t3,e1,e2,e0,e8,Bn,I,w8,sg,w9,J,K,N,O,U,F,mG,JV,AW,hG,hA,D,Lo,BL,sj,JF,JG,BA,pK,List.length_cons,List.length_nil,E0,hE,w15,e3,e6]
      exact⟨congrArg (T.i .i64) r,congrArg (T.i .i64) (hc.symm),o2,ttG ((mC (by decide)).mpr (F _ rfl _ _ (by simp only[qA,seval])).2.1) (Lq i n x ck ha H5)⟩
    ·have H5:B2 n x=0:=by unfold B2;rw[Y,if_neg hx,if_neg hE]
     have r:(0:Int)=((B2 n x:Nat):Int):=by rw[H5];rfl
     by_cases D:n%5=4
     ·have hc:B3 n ck=wk n ck+20:=if_pos D
      simp(maxDischargeDepth:=6) only[qA,seval,gd,repl,jG,sN,mc,iE,oG,Z,h0,h3,h6,h7,g8,X,g5,W,ZU,kM,t1,w1,w2,ZT,hw,hz,t7,H,t5,t2,t8,t6,t3,e1,e2,e0,e8,Bn,I,w8,sg,w9,J,K,N,O,U,F,mG,JV,AW,hG,hA,D,Lo,BL,sj,JF,JG,BA,pK,List.length_cons,List.length_nil,E0,hE,e3]
      exact⟨congrArg (T.i .i64) r,congrArg (T.i .i64) (hc.symm),o2,ttG ((mC (by decide)).mpr (F _ rfl _ _ (by simp only[qA,seval])).2.1) (Lq i n x ck ha H5)⟩
     ·have hc:B3 n ck=GX n ck:=if_neg D
      simp(maxDischargeDepth:=6) only[qA,seval,gd,repl,jG,sN,mc,iE,oG,Z,h0,h3,h6,h7,g8,X,g5,W,ZU,kM,t1,w1,w2,ZT,hw,hz,t7,H,t5,t2,t8,t6,t3,e1,e2,e0,e8,Bn,I,w8,sg,w9,J,K,N,O,U,F,mG,JV,AW,hG,hA,D,Lo,BL,sj,JF,JG,BA,pK,List.length_cons,List.length_nil,E0,hE,e3]
      exact⟨congrArg (T.i .i64) r,congrArg (T.i .i64) (hc.symm),o2,ttG ((mC (by decide)).mpr (F _ rfl _ _ (by simp only[qA,seval])).2.1) (Lq i n x ck ha H5)⟩
 ·rintro f l _ Z ⟨g8,X,g5,rfl,o2,v,hO,W⟩
  have hn:=tT (jv xs)
  have a1:=oF la xs hl 1 (by omega)
  have n1:=u7 xs 1
  have t1:(jv xs 1).tmod 6=jv xs 1%6:=lE n1
  have w1:wr .i64 (2+jv xs 1%6)=2+jv xs 1%6:=jw (by omega)
  have ZT: ¬((uw (jv xs):Nat):Int)<2+jv xs 1%6:=by unfold uw;omega
  have ZU:be pE 18 [la,.i .i64 1] []=some (.i .i64 (jv xs 1),[]):=a1
  have hz:=hl.froz
  simp(maxDischargeDepth:=6) only[qA,seval,gd,oG,Z,h0,g8,ZU,t1,w1,ZT,hz,sj]
  exact⟨o2,v,hO,W⟩
omit hl in
theorem ajK:be pE 27 [] []=some (FM,[])∧be pE 28 [] []=some (FN,[]):=by
 refine⟨?_, ?_⟩
 ·rw[il apc (by simp[c27])]
  unfold FM
  simp(maxDischargeDepth:=6) only[qA,seval,c27,repl]
 ·rw[il apd (by simp[c28])]
  unfold FN
  simp(maxDischargeDepth:=6) only[qA,seval,c28,repl]
theorem ajL: ∃v,be pE 19 [la] []=some (.agg [FM,FN,v],[])∧v=lN (uw (jv xs)) ((wo (jv xs)).fl.flatMap IV):=by
 refine⟨_, ?_,rfl⟩
 have F:be pE 18 [la,.i .i64 0] []=some (.i .i64 (jv xs 0),[]):=oF la xs hl 0 (by omega)
 have n0:=u7 xs 0
 have N:=fun fr lh sh F h3 h4 h5 h6 h7 h8 H=>ttl xs la hl (1440000+15*(jv xs 0%96)) (by omega) (by omega) FM FN 1 fr lh sh F h3 h4 h5 h6 h7 h8 H
 have t0:(jv xs 0).tmod 96=jv xs 0%96:=lE n0
 have w0:wr .i64 (15*(jv xs 0%96))=15*(jv xs 0%96):=jw (by omega)
 have w1:wr .i64 (1440000+15*(jv xs 0%96))=1440000+15*(jv xs 0%96):=jw (by omega)
 obtain⟨z1,z2⟩:=ajK
 have hz:=hl.froz
 have O:froz1 FM=true:=rfl
 have U:froz1 FN=true:=rfl
 have V:froz FM=true:=rfl
 have W:froz FN=true:=rfl
 have X:cellsOf FM= [FM]:=rfl
 have Y:cellsOf FN= [FN]:=rfl
 have Z:noTup FM=true:=rfl
 have k8:noTup FN=true:=rfl
 rw[il ao8 (by simp[c19])]
 have r:gpT= .sl [.i .i64 30,.i .i64 45,.i .i64 45,.i .i64 60,.i .i64 90,.i .i64 150,.i .i64 600,.i .i64 780] 8 true:=rfl
 have zS:tyT= .sl [.s [97,51,50,48],.s [98,55,51,55],.s [101,49,57,48]] 3 true:=rfl
 unfold wo
 simp only
 generalize FM=zT at*
 generalize FN=aT at*
 simp(maxDischargeDepth:=6) only[qA,seval,c19,repl,z1,z2,F,t0,w0,w1,hz,O,U,V,W,X,Y,Z,k8,sj,axl,axm,←r,←zS]
 generalize hD:DC pE 102 (.loop oG) _=D
 obtain⟨f2,l2,s2,rfl,⟨rfl,o2,v,I,H⟩,J⟩:=Cq IY hD (N _ _ _ (by simp only[qA,seval]) (by simp only[qA,seval]) (by simp only[qA,seval]) (by simp only[qA,seval]) (by simp only[qA,seval,r]) (by simp only[qA,seval,zS]) (by simp only[qA,seval]) (by simp only[qA,seval]))
 have q2:an f2 2= .ptr .L 2 1 0:=by rw[J 2 (by decide)];simp only[qA,seval]
 have q3:an f2 3= .ptr .L 3 1 0:=by rw[J 3 (by decide)];simp only[qA,seval]
 have K:b7 l2 2=⟨1,.cells [.nilsl,.nilsl,.nilsl] 0 true⟩:=by rw[o2];simp only[qA,seval]
 have ez:=fun e m sh keep=>jO.fzW (m:=m) (sh:=sh) (keep:=keep) (I.congr (jE l2 e (show(91:Nat)≠2 by decide)))
 have mG:=I.cells
 have JV:=I.noTup
 clear J N
 simp(maxDischargeDepth:=6) only[qA,Fw,seval,q2,q3,K,H,ez,mG,JV,O,U,V,W,X,Y,Z,k8]
end
end Go.Proofs.YtcpceiclnbmgiaaGreat
