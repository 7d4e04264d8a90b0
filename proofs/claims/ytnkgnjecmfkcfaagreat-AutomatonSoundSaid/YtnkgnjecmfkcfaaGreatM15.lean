/- Walks, plain laws (15). Conditions: the theorems' own. -/
import Derived.Test.YtnkgnjecmfkcfaaGreatM14
set_option maxRecDepth 100000
set_option linter.all false
set_option maxRecDepth 1000000
set_option maxHeartbeats 16000000
namespace Go.Proofs.YtnkgnjecmfkcfaaGreat
open Go Go.Ev
structure TtA (t:Tt):Prop where
 z:(∀u∈t.zo,u.sh.length≤gJ)∧t.zo.length≤gJ
 a:t.ap.length≤gJ
 f:t.fl.length≤gJ∧ ∀u∈t.fl,u.nu.length≤gJ
section
variable(t:Tt)(c:Ct)(zT aT fT a7 a8 a9 aw aA az:T)(hT:jV t zT aT fT)(hC:kR c a7 a8 a9 aw aA az)
end
section
variable(t:Tt)(c:Ct)(zT aT fT a7 a8 a9 aw aA az:T)(hT:jV t zT aT fT)(hC:kR c a7 a8 a9 aw aA az)(hA:CY c)(hTA:TtA t)(hCA:CtA c)(ops:List Int)(oT:T)(ho:IsSl oT ops.length (ints ops))(H:Int)
include hT hC hA hTA hCA ho
end
def abQ:List Zo:= [⟨[117,116,99],0,[]⟩,⟨[111,115,108,111],60,[(1441500,120),(1444000,60)]⟩,⟨[121,111,114,107],-300,[(1442900,-240)]⟩]
def Us:List Ap:= [⟨[65,65,65],[117,116,99]⟩,⟨[66,66,66],[111,115,108,111]⟩,⟨[67,67,67],[121,111,114,107]⟩]
def te(k:Nat):List Nat:= [65+k,65+k,65+k]
def De(k:Nat):Int:=([30,45,45,60,90,150,600,780]:List Int).getD k 30
def abR(k:Nat):List Nat:=([[97,51,50,48],[98,55,51,55],[101,49,57,48]]:List (List Nat)).getD k [97,51,50,48]
def QP(n:Int)(x:Nat):Nat:=if n%7=6 then 0 else x
def Ar(n:Int)(x:Nat):Nat:=if QP n x=0 then 1+(n/8%2).toNat else if n%11=10 then 3-QP n x else 0
def tf(n r:Int):Int:=r+De (n/16%8).toNat
def FQ(n r:Int):Int:=tf n r+60+15*(n/128%6)
def qG(i:Nat)(n:Int)(x:Nat)(r:Int):Fl:=⟨[70,48+i],te (QP n x),te (Ar n x),tf n r,FQ n r,abR (n/1024%3).toNat,1,1,2⟩
def As(n r:Int):Int:=if n%5=4 then tf n r+20 else FQ n r
def jz(a:Nat→Int):Nat→Nat→Nat→Int→List Fl
 |0,_,_,_=> []
 |m+1,i,x,r=>qG i (a (2+i)) x r::jz a m (i+1) (Ar (a (2+i)) x) (As (a (2+i)) r)
def qp(a:Nat→Int):Nat:=2+(a 1%6).toNat
def oM(a:Nat→Int):Tt:=⟨abQ,Us,jz a (qp a) 0 0 (1440000+15*(a 0%96))⟩
def oN(k:Nat):30≤De k∧De k≤780:=by
 unfold De
 have:k=0∨k=1∨k=2∨k=3∨k=4∨k=5∨k=6∨k=7∨8≤k:=zV
 rcases this with rfl|rfl|rfl|rfl|rfl|rfl|rfl|rfl|h
 all_goals first|decide|(rw[List.getD_eq_getElem?_getD,List.getElem?_eq_none (by simpa using h)];decide)
def HK(n:Int)(x:Nat)(hx:x≤2):Ar n x≠QP n x∧Ar n x≤2∧QP n x≤2:=by
 have h1:QP n x≤2:=by unfold QP;split <;> omega
 unfold Ar
 have h2:(n/8%2).toNat≤1:=zV
 split
 ·omega
 ·split <;> omega
theorem ahG(k:Nat):jG (abR k)=true:=by
 unfold abR
 have:k=0∨k=1∨k=2∨3≤k:=zV
 rcases this with rfl|rfl|rfl|h
 all_goals first|decide|(rw[List.getD_eq_getElem?_getD,List.getElem?_eq_none (by simpa using h)];decide)
def abS{a b:Nat}(h:te a=te b):a=b:=by unfold te at h;simp at h;omega
theorem LA{a:Nat}(h:a≤2):te a∈Us.map Ap.cd:=by
 have:a=0∨a=1∨a=2:=zV
 rcases this with rfl|rfl|rfl <;> decide
theorem ahH(i:Nat)(h:i≤8):FR [70,48+i]=true:=by
 have:i=0∨i=1∨i=2∨i=3∨i=4∨i=5∨i=6∨i=7∨i=8:=zV
 rcases this with rfl|rfl|rfl|rfl|rfl|rfl|rfl|rfl|rfl <;> decide
theorem ahI(i:Nat)(n:Int)(x:Nat)(r:Int)(hi:i≤8)(hx:x≤2)(h1:1440000≤r)(h2:r≤1500000):Ec (Us.map Ap.cd) (qG i n x r)=0:=by
 obtain⟨F,I,K⟩:=HK n x hx
 obtain⟨U,V⟩:=oN (n/16%8).toNat
 have D:te (QP n x)≠te (Ar n x):=fun h=>F (abS h).symm
 have O:KU (qG i n x r)=true:=by
  unfold KU qG FQ tf
  simp only[Bool.and_eq_true,decide_eq_true_eq]
  omega
 unfold Ec
 rw[if_neg (by simp[qG,ahH i hi]),if_neg (by simp[qG,ahG]),if_neg (by simpa[qG]using LA K),if_neg (by simpa[qG]using LA I),if_neg (by simpa[qG]using D),if_neg (by simp[O]),if_neg (by simp[qG,qq])]
theorem abT(D:List (List Nat))(p:Option Fl)(f:Fl)(r:List Fl):DK D p (f::r)=if Ec D f≠0 then Ec D f else if(match p with|some p=> !HL p f|none=>false)=true then 8 else DK D (some f) r:=by cases p <;> rfl
theorem QQ(a:Nat→Int): ∀(m i x:Nat) (r:Int) (p:Option Fl),i+m≤8→x≤2→1440000≤r→r≤1441425+915*i→(∀q,p=some q→q.dp+20≤r)→DK (Us.map Ap.cd) p (jz a m i x r)=0
 |0,_,_,_,p,_,_,_,_,_=>by cases p <;> rfl
 |m+1,i,x,r,p,hi,hx,h1,h2,D=>by
  obtain⟨O,U⟩:=oN (a (2+i)/16%8).toNat
  obtain⟨V,F,W⟩:=HK (a (2+i)) x hx
  rw[jz,abT,if_neg (by rw[ahI i _ x r zV hx h1 zV];simp)]
  refine Eq.trans (if_neg ?_) ?_
  ·cases p with
   |none=>simp
   |some q=>
    have h3:=D q rfl
    have h4:q.dp<(qG i (a (2+i)) x r).dp:=by unfold qG tf;simp only;omega
    have:HL q (qG i (a (2+i)) x r)=true:=by
     unfold HL
     rw[if_pos zV]
     simpa using h4
    simp[this]
  have X:As (a (2+i)) r=tf (a (2+i)) r+20∨As (a (2+i)) r=FQ (a (2+i)) r:=by unfold As;split <;> simp
  have I:tf (a (2+i)) r=r+De (a (2+i)/16%8).toNat:=rfl
  have Y:FQ (a (2+i)) r=tf (a (2+i)) r+60+15*(a (2+i)/128%6):=rfl
  refine QQ a m (i+1) _ _ _ zV F zV (by push_cast;omega) fun q K=> ?_
  cases K
  show(qG i (a (2+i)) x r).dp+20≤_
  unfold qG
  simp only
  omega
theorem Df(a:Nat→Int): ∀(m i x:Nat) (r:Int),(jz a m i x r).length=m
 |0,_,_,_=>rfl
 |m+1,i,x,r=>by rw[jz,List.length_cons,Df a m]
def nV(a:Nat→Int):2≤qp a∧qp a≤7:=by unfold qp;omega
theorem abU(a:Nat→Int):np (oM a)=0:=by
 obtain⟨h1,h2⟩:=nV a
 have r:=QQ a (qp a) 0 0 (1440000+15*(a 0%96)) none zV zV zV zV yv
 have hl:=Df a (qp a) 0 0 (1440000+15*(a 0%96))
 unfold np oM
 simp only
 rw[if_neg zz,if_neg zz,if_neg zV,if_neg zz,if_neg zz,r]
theorem QR(a:Nat→Int): ∀(m i x:Nat) (r:Int) (j k:Nat) (D:j<(jz a m i x r).length) (hk:k<(jz a m i x r).length),(r<(jz a m i x r)[j].dp)∧(j<k→(jz a m i x r)[j].dp<(jz a m i x r)[k].dp)
 |0,_,_,_,j,k,D,_=>by simp[jz]at D
 |m+1,i,x,r,j,k,D,hk=>by
  obtain⟨I,K⟩:=oN (a (2+i)/16%8).toNat
  have F:tf (a (2+i)) r=r+De (a (2+i)/16%8).toNat:=rfl
  have O:FQ (a (2+i)) r=tf (a (2+i)) r+60+15*(a (2+i)/128%6):=rfl
  have U:As (a (2+i)) r=tf (a (2+i)) r+20∨As (a (2+i)) r=FQ (a (2+i)) r:=by unfold As;split <;> simp
  have ih:=QR a m (i+1) (Ar (a (2+i)) x) (As (a (2+i)) r)
  have h0:(qG i (a (2+i)) x r).dp=tf (a (2+i)) r:=rfl
  simp only[jz]at D hk ⊢
  cases j with
  |zero=>
   cases k with
   |zero=>simp only[List.getElem_cons_zero,h0];omega
   |succ k=>
    have h1:=(ih k k (by simpa using hk) (by simpa using hk)).1
    simp only[List.getElem_cons_zero,List.getElem_cons_succ,h0]
    omega
  |succ j=>
   have h1:=(ih j j (by simpa using D) (by simpa using D)).1
   cases k with
   |zero=>simp only[List.getElem_cons_succ];omega
   |succ k=>
    have h2:=(ih j k (by simpa using D) (by simpa using hk)).2
    simp only[List.getElem_cons_succ]
    omega
theorem kl{f g:Nat→Nat}: ∀{n m:Nat},n≤m→(∀i,i<n→f i≤g i)→Sm n f≤Sm m g
 |0,_,_,_=>Nat.zero_le _
 |n+1,0,h,_=>by omega
 |n+1,m+1,h,hf=>by
  by_cases e:n=m
  ·subst e
   rw[Sm,Sm]
   have:=kl (Nat.le_refl n) fun i hi=>hf i zV
   have:=hf n zV
   omega
  ·have:=kl (show n+1≤m by omega) hf
   show Sm (n+1) f≤Sm m g+g m
   omega
theorem HM(f:Nat→Nat): ∀n,Sm n f=Sm n fun i=>f (n-1-i)
 |0=>rfl
 |n+1=>by
  rw[Sm,Ls,HM f n,Nat.add_sub_cancel,Nat.sub_zero,Nat.add_comm]
  congr 1
  exact xe fun i _=>by rw[show n-(i+1)=n-1-i by omega]
def alJ(N i:Nat)(hi:i<N)(f g:Nat→Nat)(h0: ∀j,j≤i→f j=0)(h1: ∀j,i<j→j<N→f j≤g (N-1-j)):Sm N f≤Sm (N-1-i) g:=by
 rw[HM f N]
 have r: ∀m,m≤N→Sm m (fun k=>f (N-1-k))≤Sm (min m (N-1-i)) g:=by
  intro m D
  induction m with
  |zero=>simp[Sm]
  |succ m ih=>
   have ih:=ih zV
   rw[Sm]
   by_cases h:m<N-1-i
   ·rw[Nat.min_eq_left zV]at ih ⊢
    have:=h1 (N-1-m) zV zV
    rw[show N-1-(N-1-m)=m by omega]at this
    rw[Sm]
    omega
   ·rw[Nat.min_eq_right zV]at ih ⊢
    rw[h0 _ zV]
    omega
 have:=r N (Nat.le_refl _)
 rwa [Nat.min_eq_right zV]at this
def apU{a b:Bool}(h:a=true→b=true):uw a≤uw b:=by cases a <;> cases b <;> simp_all[uw]
def Gc:Nat→Nat→Nat→Nat
 |0,_,h=>nX true Oa h
 |k+1,n,h=>nX true (fun h=>Sm n fun m=>Gc k m h) h
section
variable(N:Nat)(J:Nat→Nat→Bool)(cp:Nat→Bool)(hJ: ∀i j,J i j=true→i<j)
include hJ
def abV{b:Bool}{p q:Nat→Nat}(h: ∀i,p i≤q i)(k:Nat):nX b p k≤nX true q k:=by
 have _:=hJ
 unfold nX
 have h1:uw b*p k≤uw true*q k:=Nat.mul_le_mul (apU fun _=>rfl) (h k)
 cases k with
 |zero=>exact Nat.add_le_add h1 (Nat.le_refl _)
 |succ k=>exact Nat.add_le_add h1 (h k)
theorem alK: ∀(k i h:Nat),i<N→cB N J cp (k+1) i h≤Gc k (N-1-i) h
 |0,i,h,_=>by rw[cB,Gc,abE];exact abV J hJ (fun _=>Nat.le_refl _) h
 |k+1,i,h,hi=>by
  rw[cB,Gc,abE]
  refine abV J hJ (fun h=> ?_) h
  refine alJ N i hi _ _ (fun j r=> ?_) fun j D r=> ?_
  ·have:J i j=false:=by
    cases e:J i j with
    |false=>rfl
    |true=>have:=hJ i j e;omega
   rw[this];simp[uw]
  ·have h1:=alK k j h r
   have h2:uw (J i j)≤1:=by cases J i j <;> simp[uw]
   calc uw (J i j)*cB N J cp (k+1) j h≤1*cB N J cp (k+1) j h:=Nat.mul_le_mul_right _ h2
    _≤_:=zV
def GcT(N H:Nat):Nat→Nat
 |0=>0
 |k+1=>GcT N H k+Sm (H+1) fun h=>Sm N fun n=>Gc k n h
omit hJ in
theorem LB{N N' H H':Nat}(hN:N≤N')(r:H≤H'): ∀k,GcT N H k≤GcT N' H' k
 |0=>Nat.le_refl _
 |k+1=>by
  have:=LB hN r k
  have h2:=kl (n:=H+1) (m:=H'+1) (f:=fun h=>Sm N fun n=>Gc k n h) (g:=fun h=>Sm N' fun n=>Gc k n h) zV fun i _=>kl hN fun _ _=>Nat.le_refl _
  rw[GcT,GcT];omega
theorem QS(H:Nat): ∀k,Ao N H (cB N J cp) k≤GcT N H k
 |0=>Nat.le_refl _
 |k+1=>by
  have ih:=QS H k
  have h2:Csu N H (fun h g=>cB N J cp (k+1) g h)≤Sm (H+1) fun h=>Sm N fun n=>Gc k n h:=by
   unfold Csu
   refine kl (Nat.le_refl _) fun h _=> ?_
   rw[HM (fun n=>Gc k n h)]
   exact kl (Nat.le_refl _) fun i hi=>alK N J cp hJ k i h hi
  rw[Ao,GcT];omega
def Ut(H:Nat)(hN:N≤7)(r:H≤2): ¬20000<iJ (Ao N H (cB N J cp) 6):=by
 have h1:=QS N J cp hJ H 6
 have h2:=LB hN r 6
 have h3:GcT 7 2 6=1218:=by decide+kernel
 have h4:iJ (Ao N H (cB N J cp) 6)=(Ao N H (cB N J cp) 6:Int):=by unfold iJ;rw[aZ zV]
 omega
end
def Tc:Nat→Nat→Nat→Nat
 |0,_,_=>0
 |m+1,n,h=>(1+Sm n fun k=>Tc m k h)+(if h=0 then 0 else 1+Sm n fun k=>Tc m k (h-1))
theorem HN: ∀(m:Nat) {n D h r:Nat},n≤D→h≤r→Tc m n h≤Tc m D r
 |0,_,_,_,_,_,_=>Nat.le_refl _
 |m+1,n,D,h,r,F,I=>by
  have h1:=kl (f:=fun k=>Tc m k h) (g:=fun k=>Tc m k r) F fun k _=>HN m (Nat.le_refl k) I
  have h2:=kl (f:=fun k=>Tc m k (h-1)) (g:=fun k=>Tc m k (r-1)) F fun k _=>HN m (Nat.le_refl k) zV
  rw[Tc,Tc]
  by_cases e:h=0
  ·rw[if_pos e]
   split <;> omega
  ·rw[if_neg e,if_neg zV];omega
theorem Dg{β:Type}(J:Nat→Bool)(g:Nat→List β): ∀n,(((List.range n).filter J).flatMap g).length=Sm n fun j=>uw (J j)*(g j).length
 |0=>rfl
 |n+1=>by
  rw[HA,Sm,←Dg J g n]
  cases h:J n
  ·simp[uw]
  ·simp[uw]
section
variable(N:Nat)(J:Nat→Nat→Bool)(cp:Nat→Bool)(ok:List (Int×Bool)→Bool)(lg:List (Int×Bool)→Lg)(hJ: ∀i j,J i j=true→i<j)
include hJ
theorem QT: ∀(m:Nat) (d:List (Int×Bool)) (f h:Nat),f<N→(eI N J cp ok lg m d f h).length≤Tc m (N-1-f) h
 |0,_,_,_,_=>Nat.le_refl _
 |m+1,d,f,h,hf=>by
  have one: ∀(x:List (Int×Bool)) (h:Nat),(tc N J ok lg (eI N J cp ok lg m) x f h).length≤1+Sm (N-1-f) fun k=>Tc m k h:=by
   intro x h
   unfold tc
   rw[List.length_append]
   have h1:(if ok x=true then [lg x]else []).length≤1:=by split <;> simp
   have h2:((kN N J f).flatMap fun g=>eI N J cp ok lg m x g h).length≤Sm (N-1-f) fun k=>Tc m k h:=by
    rw[show((kN N J f).flatMap fun g=>eI N J cp ok lg m x g h).length=_ from Dg (J f) _ N]
    refine alJ N f hf _ _ (fun j r=> ?_) fun j D r=> ?_
    ·have:J f j=false:=by
      cases e:J f j with
      |false=>rfl
      |true=>have:=hJ f j e;omega
     rw[this];simp[uw]
    ·have h3:=QT m x j h r
     have h4:uw (J f j)≤1:=by cases J f j <;> simp[uw]
     calc uw (J f j)*(eI N J cp ok lg m x j h).length≤1*(eI N J cp ok lg m x j h).length:=Nat.mul_le_mul_right _ h4
      _≤_:=zV
   omega
  rw[eI,List.length_append,Tc]
  have a1:(if cp f=true then tc N J ok lg (eI N J cp ok lg m) (d++ [((f:Int),false)]) f h else []).length≤1+Sm (N-1-f) fun k=>Tc m k h:=by
   split
   ·exact one _ _
   ·simp
  by_cases e:h=0
  ·rw[if_pos e,if_pos e];simp only[List.length_nil];omega
  ·rw[if_neg e,if_neg e]
   have:=one (d++ [((f:Int),true)]) (h-1)
   omega
def ahJ(H:Nat)(hN:N≤7)(r:H≤2): ¬2000<(kP N J cp ok lg H).length:=by
 have h1:(kP N J cp ok lg H).length≤Sm N fun n=>Tc 6 n H:=by
  unfold kP
  have h2:=Dg (fun _=>true) (fun f=>eI N J cp ok lg 6 [] f H) N
  rw[show(List.range N).filter (fun _=>true)=List.range N from List.filter_eq_self.2 yv]at h2
  rw[h2,HM (fun n=>Tc 6 n H)]
  exact kl (Nat.le_refl _) fun f hf=>by simpa[uw]using QT N J cp ok lg hJ 6 [] f H hf
 have h3:(Sm N fun n=>Tc 6 n H)≤Sm 7 fun n=>Tc 6 n 2:=kl hN fun i _=>HN 6 (Nat.le_refl _) r
 have h4:(Sm 7 fun n=>Tc 6 n 2)=1218:=by decide+kernel
 omega
end
section
variable(N:Nat)(J:Nat→Nat→Bool)(cp:Nat→Bool)(ok ok':List (Int×Bool)→Bool)(lg:List (Int×Bool)→Lg)(iR: ∀x,ok x=true→ok' x=true)
include iR
end
def at3(l:List Int)(k:Nat):Int:=l.getD k 0
def rpB(k:Nat):Int:=at3 [0,45,60] k
def rlB(k:Nat):Int:=at3 [0,15,30] k
def Uu(k:Nat):Int:=at3 [30,40,15] k
def GP(k:Nat):Int:=at3 [180,1440,60] k
def lyB(k:Nat):Int:=at3 [1440,960,2160] k
def nfB(k:Nat):Int:=at3 [1320,0,720] k
def ntB(k:Nat):Int:=at3 [360,300,720] k
def iY(k:Nat→Nat)(r:List Ru)(D:List Co)(cr:List Ex):Ct:=⟨rpB (k 0),rlB (k 1),Uu (k 2),GP (k 3),lyB (k 4),nfB (k 5),ntB (k 5),[(ug,nP (k 6))],r,D,cr,[],[],0⟩
def dh{α:Type}(p:Nat→Bool):Nat→List α→List α
 |_,[]=> []
 |i,x::l=>if p i=true then x::dh p (i+1) l else dh p (i+1) l
theorem eC{α:Type}(p:Nat→Bool): ∀(i:Nat) (l:List α),(dh p i l).Sublist l
 |_,[]=>List.Sublist.slnil
 |i,x::l=>by
  rw[dh]
  split
  ·exact(eC p (i+1) l).cons_cons x
  ·exact(eC p (i+1) l).cons x
def kB(b:Nat→Int)(i:Nat):Nat:=(b i%3).toNat
def crX(b:Nat→Int):List Ex:=if b 41%4<3 then [wJ.getD (b 41%4).toNat (.mk 1 2 [] [])]else []
def nD(b:Nat→Int):Ct:=iY (kB b) (dh (fun i=>decide (b (7+i)%4=0)) 0 iX) (dh (fun i=>decide (b (30+i)%3=0)) 0 ic) (crX b)
def three{k:Nat}(P:Nat→Prop)(h0:P 0)(h1:P 1)(h2:P 2)(h:k≤2):P k:=by
 have:k=0∨k=1∨k=2:=zV
 rcases this with rfl|rfl|rfl <;> assumption
def Oj(l:Cs)(u:Ru):Bool:=kS u.sc 1 3&&(jt u.nm&&(decide (bM u.x=0)&&decide (IG l u.sc u.x 4=0)))
def Ok(l:Cs)(u:Co):Bool:=kS u.sc 1 3&&(decide (bM u.x=0)&&decide (IG l u.sc u.x 1=0))
def Ol(l:Cs)(x:Ex):Bool:=decide (bM x=0)&&decide (IG l 1 x 2=0)
theorem QU(l:Cs): ∀(r:List Ru) (seen:List (Int×List Nat)),(∀u∈r,Oj l u=true)→(r.map fun u=>(u.sc,u.nm)).Nodup→(∀u∈r,(u.sc,u.nm)∉seen)→IF seen r=0
 | [],_,_,_,_=>rfl
 |u::r,seen,h1,h2,h3=>by
  have h:=h1 u List.mem_cons_self
  unfold Oj at h
  simp only[Bool.and_eq_true,decide_eq_true_eq]at h
  obtain⟨a1,a2,F,I⟩:=h
  rw[List.map_cons,List.nodup_cons]at h2
  rw[IF,if_neg (by simp[a1,a2]),if_neg (h3 u List.mem_cons_self),if_neg (by simp[F])]
  refine QU l r _ (fun v D=>h1 v (List.mem_cons_of_mem _ D)) h2.2 fun v D hm=> ?_
  rcases List.mem_append.1 hm with hm|hm
  ·exact h3 v (List.mem_cons_of_mem _ D) hm
  ·rw[List.mem_singleton]at hm
   exact h2.1 (hm▸List.mem_map_of_mem (f:=fun u:Ru=>(u.sc,u.nm)) D)
theorem QV(l:Cs): ∀(r:List Co),(∀u∈r,Ok l u=true)→KO r=0
 | [],_=>rfl
 |u::r,h1=>by
  have h:=h1 u List.mem_cons_self
  unfold Ok at h
  simp only[Bool.and_eq_true,decide_eq_true_eq]at h
  rw[KO,if_neg (by simp[h.1]),if_neg (by simp[h.2.1])]
  exact QV l r fun v D=>h1 v (List.mem_cons_of_mem _ D)
theorem QW(l:Cs): ∀(r:List Ex),(∀u∈r,Ol l u=true)→KP r=0
 | [],_=>rfl
 |u::r,h1=>by
  have h:=h1 u List.mem_cons_self
  unfold Ol at h
  simp only[Bool.and_eq_true,decide_eq_true_eq]at h
  rw[KP,if_neg (by simp[h.1])]
  exact QW l r fun v D=>h1 v (List.mem_cons_of_mem _ D)
theorem QX(l:Cs): ∀(r:List Ru),(∀u∈r,Oj l u=true)→KQ l r=0
 | [],_=>rfl
 |u::r,h1=>by
  have h:=h1 u List.mem_cons_self
  unfold Oj at h
  simp only[Bool.and_eq_true,decide_eq_true_eq]at h
  rw[KQ,if_neg (by simp[h.2.2.2])]
  exact QX l r fun v D=>h1 v (List.mem_cons_of_mem _ D)
theorem QY(l:Cs): ∀(r:List Co),(∀u∈r,Ok l u=true)→KR l r=0
 | [],_=>rfl
 |u::r,h1=>by
  have h:=h1 u List.mem_cons_self
  unfold Ok at h
  simp only[Bool.and_eq_true,decide_eq_true_eq]at h
  rw[KR,if_neg (by simp[h.2.2])]
  exact QY l r fun v D=>h1 v (List.mem_cons_of_mem _ D)
theorem QZ(l:Cs): ∀(r:List Ex),(∀u∈r,Ol l u=true)→Mr l r=0
 | [],_=>rfl
 |u::r,h1=>by
  have h:=h1 u List.mem_cons_self
  unfold Ol at h
  simp only[Bool.and_eq_true,decide_eq_true_eq]at h
  rw[Mr,if_neg (by simp[h.2])]
  exact QZ l r fun v D=>h1 v (List.mem_cons_of_mem _ D)
def ap1(k:Nat)(h:k≤2):iX.all (Oj [(ug,nP k)])=true:=three (fun k=>iX.all (Oj [(ug,nP k)])=true) (by decide+kernel) (by decide+kernel) (by decide+kernel) h
def ap2(k:Nat)(h:k≤2):ic.all (Ok [(ug,nP k)])=true:=three (fun k=>ic.all (Ok [(ug,nP k)])=true) (by decide+kernel) (by decide+kernel) (by decide+kernel) h
def ap3(k:Nat)(h:k≤2):wJ.all (Ol [(ug,nP k)])=true:=three (fun k=>wJ.all (Ol [(ug,nP k)])=true) (by decide+kernel) (by decide+kernel) (by decide+kernel) h
def ap4(k:Nat)(h:k≤2):Mw [] [(ug,nP k)]=0∧Om [(ug,nP k)] 0 [(ug,nP k)]=0:=three (fun k=>Mw [] [(ug,nP k)]=0∧Om [(ug,nP k)] 0 [(ug,nP k)]=0) (by decide+kernel) (by decide+kernel) (by decide+kernel) h
def ap5:(iX.map fun u=>(u.sc,u.nm)).Nodup:=by decide+kernel
def HO(k:Nat→Nat)(hk: ∀i,k i≤2)(r:List Ru)(D:List Co)(cr:List Ex)(h1:r.Sublist iX)(h2:D.Sublist ic)(h3: ∀x∈cr,x∈wJ)(h4:cr.length≤1):eH (iY k r D cr)=0:=by
 have e1: ∀u∈r,Oj [(ug,nP (k 6))] u=true:=fun u F=>List.all_eq_true.1 (ap1 (k 6) (hk 6)) u (h1.subset F)
 have e2: ∀u∈D,Ok [(ug,nP (k 6))] u=true:=fun u F=>List.all_eq_true.1 (ap2 (k 6) (hk 6)) u (h2.subset F)
 have e3: ∀u∈cr,Ol [(ug,nP (k 6))] u=true:=fun u F=>List.all_eq_true.1 (ap3 (k 6) (hk 6)) u (h3 u F)
 obtain⟨I,K⟩:=ap4 (k 6) (hk 6)
 have Z:r.length≤18:=h1.length_le
 have l2:D.length≤10:=h2.length_le
 have hr:ln (iY k r D cr)=true:=by
  have a0:kS (rpB (k 0)) 0 1440=true:=three (fun k=>kS (rpB k) 0 1440=true) rfl rfl rfl (hk 0)
  have a1:kS (rlB (k 1)) 0 1440=true:=three (fun k=>kS (rlB k) 0 1440=true) rfl rfl rfl (hk 1)
  have a2:kS (Uu (k 2)) 0 1440=true:=three (fun k=>kS (Uu k) 0 1440=true) rfl rfl rfl (hk 2)
  have O: ∀j,j≤2→kS (GP (k 3)) (Uu j) 1440=true:=fun j U=>three (fun j=>kS (GP (k 3)) (Uu j) 1440=true) (three (fun k=>kS (GP k) (Uu 0) 1440=true) rfl rfl rfl (hk 3)) (three (fun k=>kS (GP k) (Uu 1) 1440=true) rfl rfl rfl (hk 3)) (three (fun k=>kS (GP k) (Uu 2) 1440=true) rfl rfl rfl (hk 3)) U
  have V:kS (lyB (k 4)) 0 10080=true:=three (fun k=>kS (lyB k) 0 10080=true) rfl rfl rfl (hk 4)
  have W:kS (nfB (k 5)) 0 1439=true:=three (fun k=>kS (nfB k) 0 1439=true) rfl rfl rfl (hk 5)
  have X:kS (ntB (k 5)) 0 1439=true:=three (fun k=>kS (ntB k) 0 1439=true) rfl rfl rfl (hk 5)
  unfold ln iY
  simp only[a0,a1,a2,O _ (hk 2),V,W,X,Bool.true_and]
  rfl
 have hs:lD (iY k r D cr)=true:=by
  unfold lD iY
  simp only[Bool.and_eq_true,decide_eq_true_eq,List.length_cons,List.length_nil]
  omega
 have Y:gr (iY k r D cr)=0:=by
  unfold gr
  rw[if_neg (by simp[hr]),if_neg (by simp[hs])]
  unfold iY
  simp only
  rw[if_neg (by simp[I]),QU _ r [] e1 (ap5.sublist (h1.map _)) yv,if_neg yv,QV _ D e2,if_neg yv,QW _ cr e3,if_neg yv]
  rfl
 unfold eH
 rw[if_neg (by simp[Y])]
 unfold iY
 simp only
 rw[if_neg (by simp[K]),QX _ r e1,if_neg yv,QY _ D e2,if_neg yv,QZ _ cr e3]
def tG(b:Nat→Int)(i:Nat):kB b i≤2:=by unfold kB;omega
def Dh(b:Nat→Int):(∀x∈crX b,x∈wJ)∧(crX b).length≤1:=by
 unfold crX
 split
 ·rename_i h
  refine⟨fun x hx=> ?_,by simp⟩
  rw[List.mem_singleton]at hx
  subst hx
  have hk:(b 41%4).toNat<wJ.length:=by show(b 41%4).toNat<3;omega
  rw[List.getD_eq_getElem?_getD,List.getElem?_eq_getElem hk]
  exact List.getElem_mem hk
 ·exact⟨fun x hx=>by simp at hx,by simp⟩
def ap6(b:Nat→Int):eH (nD b)=0:=HO _ (tG b) _ _ _ (eC _ _ _) (eC _ _ _) (Dh b).1 (Dh b).2
def HQ(o:Nat→Int)(n:Nat):List Nat:=(List.range n).filter fun i=>decide (0<o i%8)
def Uv(o:Nat→Int)(n:Nat):List Int:=(HQ o n).map Int.ofNat
theorem Q0(N:Nat): ∀(l:List Nat) (p:Option Int),l.Pairwise (· < ·)→(∀x∈l,x<N)→(∀q,p=some q→ ∀x∈l,q<(x:Int))→DN N p (l.map Int.ofNat)=0
 | [],_,_,_,_=>rfl
 |x::l,p,h1,h2,h3=>by
  rw[List.pairwise_cons]at h1
  have hx:=h2 x List.mem_cons_self
  have ih:=Q0 N l (some (x:Int)) h1.2 (fun y r=>h2 y (List.mem_cons_of_mem _ r)) fun q D y r=>by
   cases D
   have:=h1.1 y r
   omega
  rw[List.map_cons,Lu]
  show(if 0≤(x:Int)∧(x:Int)<(N:Int)then _ else _)=_
  rw[if_pos zV]
  cases p with
  |none=>exact ih
  |some q=>
   have h4:=h3 q rfl x List.mem_cons_self
   simpa[show¬((x:Int)≤q)by omega]using ih
theorem ap7(o:Nat→Int)(n:Nat):DN n none (Uv o n)=0:=
 Q0 n _ none (List.Pairwise.filter _ List.pairwise_lt_range) (fun x hx=>List.mem_range.1 (List.mem_filter.1 hx).1) yv
def ahK(o:Nat→Int)(n:Nat):(Uv o n).length≤n:=by
 unfold Uv HQ
 rw[List.length_map]
 exact Nat.le_trans (List.length_filter_le _ _) yv
theorem abW(a:Nat→Int): ∀(m i x:Nat) (r:Int),1440000≤r→r≤1441425+915*i→i+m≤8→ ∀f∈jz a m i x r,f.dp+60≤f.ar∧1440000≤f.dp∧f.ar≤1500000
 |0,_,_,_,_,_,_,f,hf=>by simp[jz]at hf
 |m+1,i,x,r,h1,h2,h3,f,hf=>by
  obtain⟨F,I⟩:=oN (a (2+i)/16%8).toNat
  have D:tf (a (2+i)) r=r+De (a (2+i)/16%8).toNat:=rfl
  have K:FQ (a (2+i)) r=tf (a (2+i)) r+60+15*(a (2+i)/128%6):=rfl
  have O:As (a (2+i)) r=tf (a (2+i)) r+20∨As (a (2+i)) r=FQ (a (2+i)) r:=by unfold As;split <;> simp
  rw[jz]at hf
  rcases List.mem_cons.1 hf with rfl|hf
  ·show tf _ _+60≤FQ _ _∧1440000≤tf _ _∧FQ _ _≤1500000
   omega
  ·exact abW a m (i+1) _ _ zV (by push_cast;omega) zV f hf
theorem qb(a:Nat→Int):(oM a).fl.length=qp a:=Df a _ _ _ _
def alN(a:Nat→Int)(c:Ct)(hc:0≤c.cn)(i j:Nat)(h:jn c (oM a).fl i j=true):i<j:=by
 have O:=nV a
 have hl:=qb a
 have F:=abW a (qp a) 0 0 (1440000+15*(a 0%96)) zV zV zV
 have r:=QR a (qp a) 0 0 (1440000+15*(a 0%96))
 by_cases hi:i<(oM a).fl.length
 ·by_cases D:j<(oM a).fl.length
  ·rw[QM hi D]at h
   have h1:=F (oM a).fl[i] (List.getElem_mem hi)
   have h2:=F (oM a).fl[j] (List.getElem_mem D)
   unfold Ai at h
   simp only[Bool.and_eq_true,decide_eq_true_eq]at h
   obtain⟨_,h3,_⟩:=h
   rw[aZ zV]at h3
   have h4:(oM a).fl[i].dp<(oM a).fl[j].dp:=zV
   refine Nat.lt_of_not_le fun I=> ?_
   by_cases he:j=i
   ·subst he;omega
   ·have:=(r j i D hi).2 zV
    have e1:(oM a).fl[i].dp=(jz a (qp a) 0 0 (1440000+15*(a 0%96)))[i].dp:=rfl
    have e2:(oM a).fl[j].dp=(jz a (qp a) 0 0 (1440000+15*(a 0%96)))[j].dp:=rfl
    omega
  ·unfold jn at h
   rw[List.getElem?_eq_none (by omega:(oM a).fl.length≤j)]at h
   cases K:(oM a).fl[i]? <;> rw[K]at h <;> cases h
 ·unfold jn at h
  rw[List.getElem?_eq_none (by omega:(oM a).fl.length≤i)]at h
  cases h
theorem ahL(a:Nat→Int)(o:Nat→Int)(c:Ct)(hc:eH c=0)(H:Nat)(r:H≤2):HH (oM a) c (Uv o (qp a)) H=0:=by
 have hk:ee (oM a) c=0:=by unfold ee;rw[abU];simpa using hc
 unfold HH
 rw[if_pos hk,qb,if_pos (ap7 o _),if_neg zV]
def ap8(a:Nat→Int)(o:Nat→Int)(c:Ct)(hc:0≤c.cn)(H:Nat)(r:H≤2): ¬apR (oM a) c (Uv o (qp a)) H:=by
 have D:=nV a
 have hl:=qb a
 unfold apR Ul
 rintro(h|h)
 ·exact Ut _ _ _ (fun i j=>alN a c hc i j) H zV r h
 ·exact ahJ _ _ _ _ _ (fun i j=>alN a c hc i j) H zV r h
def ap9(k:Nat→Nat)(hk: ∀i,k i≤2)(r:List Ru)(D:List Co)(cr:List Ex):0≤(iY k r D cr).cn:=three (fun k=>0≤Uu k) zz zz zz (hk 2)
def aqa(a b:Int):Int:=if a<b then-1 else fQ (decide (b<a))
def LC(x y:Int×Bool):Int:=if x.1=y.1 then fQ x.2-fQ y.2 else if x.1<y.1 then-1 else 1
def At:List (Int×Bool)→List (Int×Bool)→Int
 |x::a,y::b=>if LC x y≠0 then LC x y else At a b
 |_,_=>0
def LD(a b:List (Int×Bool)):Int:=if At a b≠0 then At a b else aqa a.length b.length
def abX{a b:List (Int×Bool)}(h:a= []∨b= []):At a b=0:=by
 rcases h with rfl|rfl
 ·rfl
 ·cases a <;> rfl
def abY(h r:Bool):wr .i64 (fQ h-fQ r)=fQ h-fQ r:=by cases h <;> cases r <;> rfl
def ahM(x y:Int×Bool):ae pE 112 [.agg [qi x.1,.b x.2],.agg [qi y.1,.b y.2]] []=some (qi (LC x y),[]):=by
 have hf:=xf x.2
 have r:=xf y.2
 have D:=abY x.2 y.2
 unfold LC
 rw[au WY (by simp[RI])]
 by_cases h1:x.1=y.1
 ·simp only[qA,seval,bg,aH,RI,hf,r,h1,D,Pf,Xp]
 ·by_cases h2:x.1<y.1
  all_goals simp only[qA,seval,RI,h1,h2]
def ahN(a b:Int):ae pE 113 [qi a,qi b] []=some (qi (aqa a b),[]):=by
 have hf:=xf (decide (b<a))
 unfold aqa
 rw[au aiW (by simp[Vy])]
 by_cases h1:a<b
 all_goals simp only[qA,seval,Vy,hf,h1,Pf]
section
variable(d e:List (Int×Bool))(a b:T)(ha:IsSl a d.length (iv d))(hb:IsSl b e.length (iv e))(hd:d.length≤4611686018427387000)(he:e.length≤4611686018427387000)
include ha hb hd he
def aIV(fr:Fr)(lh:aE ah)(sh:List ah)(h0:aa fr 0=a)(h1:aa fr 1=b)(h5:aa fr 5= qi 0):
  pN pE 36 tL fr lh sh 0 4 (At d e) (fun U V=>V=sh):=by
 have _:=he
 refine bW Jc (fun k f U V=>aa f 5= qi (k:Int)∧V=sh∧At d e=At (d.drop k) (e.drop k)) (min d.length e.length) ⟨h5,rfl,rfl⟩ ?_ ?_
 ·rintro k f U _ hk r ⟨D,rfl,F⟩
  have DM:k<d.length:=zV
  have I:k<e.length:=zV
  have Ei:(k:Int)<d.length:=zV
  have Ax:(k:Int)<e.length:=zV
  have X:=aF (k:=k) zV
  obtain⟨Y,K⟩:=alE ha k DM
  obtain⟨Z,Hl⟩:=alE hb k I
  rw[List.drop_eq_getElem_cons DM,List.drop_eq_getElem_cons I,At]at F
  have hc:=ahM d[k] e[k]
  generalize d[k]=x at*
  generalize e[k]=y at*
  by_cases O:LC x y=0
  ·rw[if_neg (by simp[O])]at F
   rw[O]at hc
   simp(maxDischargeDepth:=6) only[qB,bg,aH,seval,gd,tL,r,h0,h1,D,ha.lenI,hb.lenI,Ei,Ax,K,Hl,hc,X,aiU,aiV]
   clear r
   grind
  ·rw[if_pos O]at F
   simp(maxDischargeDepth:=6) only[qB,bg,aH,seval,gd,tL,r,h0,h1,D,ha.lenI,hb.lenI,Ei,Ax,K,Hl,hc,O,aiU,aiV]
   clear r
   grind
 ·rintro f U _ r ⟨D,rfl,F⟩
  have W:At (d.drop (min d.length e.length)) (e.drop (min d.length e.length))=0:=abX (by
   rcases Nat.le_total d.length e.length with h|h
   ·exact .inl (List.drop_eq_nil_of_le zV)
   ·exact .inr (List.drop_eq_nil_of_le zV))
  rw[W]at F
  by_cases h:d.length≤e.length
  ·have e1:min d.length e.length=d.length:=zV
   rw[e1]at D
   simp(maxDischargeDepth:=6) only[qB,seval,gd,tL,r,h0,D,ha.lenI,Int.lt_irrefl,F]
  ·have e1:min d.length e.length=e.length:=zV
   have e2:(e.length:Int)<d.length:=zV
   rw[e1]at D
   simp(maxDischargeDepth:=6) only[qB,seval,gd,tL,r,h0,h1,D,ha.lenI,hb.lenI,e2,Int.lt_irrefl,F]
def abZ:ae pE 61 [a,b] []=some (qi (LD d e),[]):=by
 have D:=fun fr lh sh h0 h1 h5=>aIV d e a b ha hb hd he fr lh sh h0 h1 h5
 have r:=ahN (d.length:Int) (e.length:Int)
 unfold LD
 rw[au am2 (by simp[c61])]
 simp(maxDischargeDepth:=6) only[qB,seval,c61,Jc,ha.lenI,hb.lenI,D,r,ayk]
 clear D
 grind
end
def bJ(xs:List Int)(i:Nat):Int:=if xs.length=0 then(i:Int)%65536 else xs.getD (i%xs.length) 0%65536+((i/xs.length:Nat):Int)
def rE(xs:List Int)(i:Nat):0≤bJ xs i:=by
 unfold bJ;split
 ·omega
 ·have:(0:Int)≤((i/xs.length:Nat):Int):=Int.natCast_nonneg _
  omega
theorem eF{a b:Int}(h:0≤a):a.tmod b=a%b:=by rw[Int.tmod_eq_emod_of_nonneg h]
def jI(l:T)(xs:List Int)(hl:IsSl l xs.length (ints xs))(i:Nat)(hi:i<1000000):ae pE 23 [l,qi (i:Int)] []=some (qi (bJ xs i),[]):=by
 rw[au amN (by simp[c23])]
 by_cases h:xs.length=0
 ·have D:((xs.length:Nat):Int)=0:=zV
  have ha:bJ xs i=(i:Int)%65536:=by unfold bJ;rw[if_pos h]
  simp only[qA,seval,c23,hl.lenI,D,ha]
 ·have D: ¬((xs.length:Nat):Int)=0:=zV
  have r:i%xs.length<xs.length:=Nat.mod_lt _ zV
  have ha:bJ xs i=xs[i%xs.length]%65536+((i/xs.length:Nat):Int):=by
   unfold bJ;rw[if_neg h];simp[List.getD_eq_getElem?_getD,r]
  have e1:((i:Int)).tmod (xs.length:Int)=((i%xs.length:Nat):Int):=by rw[eF (Int.natCast_nonneg i)];exact(Int.natCast_emod i xs.length).symm
  have e2:((i:Int)).tdiv (xs.length:Int)=((i/xs.length:Nat):Int):=by rw[Int.tdiv_eq_ediv_of_nonneg (Int.natCast_nonneg i)];exact(Int.natCast_ediv i xs.length).symm
  have QJ:i/xs.length≤i:=Nat.div_le_self _ _
  have I:0≤((i/xs.length:Nat):Int):=Int.natCast_nonneg _
  have K:((i/xs.length:Nat):Int)≤(i:Int):=Int.ofNat_le.2 QJ
  have DT:(i:Int)<1000000:=zV
  generalize ((i/xs.length:Nat):Int)=q at*
  have O:wr .i64 q=q:=aZ zV
  have U:wr .i64 (xs[i%xs.length]%65536+q)=xs[i%xs.length]%65536+q:=aZ zV
  have F: ∀kk,iaV l (.i kk ((i%xs.length:Nat):Int)) 1=some (.vp (qi xs[i%xs.length]::(ints xs).drop (i%xs.length+1))):=fun kk=>by rw[hl.ia (sz:=1) (by rw[eu];omega) r,Nat.mul_one,lY xs _ r]
  simp only[qA,seval,c23,hl.lenI,D,e1,e2,F,O,U,ha]
def lr(r:List (List Nat)):List Nat:=r.flatMap (· ++ [10])
def Di(tx:List Nat):Nat→List (List Nat)×Nat
 |0=>([],0)
 |k+1=>if tx.getD k 0=10 then((Di tx k).1++ [(tx.drop (Di tx k).2).take (k-(Di tx k).2)],k+1)else Di tx k
theorem ab0(tx:List Nat): ∀k,(Di tx k).1.length≤k∧(Di tx k).2≤k
 |0=>⟨Nat.le_refl _,Nat.le_refl _⟩
 |k+1=>by
  have:=ab0 tx k
  rw[Di]
  split
  ·simp;omega
  ·omega
theorem LF(a l b:List Nat)(L:List (List Nat))(hl:10∉l)(h:Di (a++l++b) a.length=(L,a.length)): ∀j,j≤l.length→Di (a++l++b) (a.length+j)=(L,a.length)
 |0,_=>h
 |j+1,r=>by
  have ih:=LF a l b L hl h j zV
  rw[←Nat.add_assoc,Di,ih]
  have e:(a++l++b).getD (a.length+j) 0=l[j]:=by
   rw[List.getD_eq_getElem?_getD,List.append_assoc,List.getElem?_append_right zV,Nat.add_sub_cancel_left,List.getElem?_append_left zV,List.getElem?_eq_getElem zV]
   rfl
  rw[if_neg]
  rw[e]
  exact fun h=>hl (h▸List.getElem_mem _)
theorem Q1: ∀(r:List (List Nat)) (a:List Nat) (L:List (List Nat)) (tx:List Nat),(∀l∈r,10∉l)→tx=a++lr r→Di tx a.length=(L,a.length)→Di tx tx.length=(L++r,tx.length)
 | [],a,L,tx,_,e,h=>by
   have:tx=a:=by rw[e];simp[lr]
   rw[this]at h ⊢
   simpa using h
 |l::r,a,L,tx,hl,e,h=>by
  have e2:tx=a++l++([10]++lr r):=by rw[e];simp[lr]
  have h2:=h
  rw[e2]at h2
  have h3:=LF a l _ L (hl l List.mem_cons_self) h2 l.length (Nat.le_refl _)
  rw[←e2]at h3
  have h4:Di tx (a++l++ [10]).length=(L++ [l],(a++l++ [10]).length):=by
   rw[List.length_append,List.length_append,List.length_singleton,Di,h3]
   have e3:tx.getD (a.length+l.length) 0=10:=by
    rw[e2,List.getD_eq_getElem?_getD,List.getElem?_append_right yv]
    simp
   rw[if_pos e3]
   have e4:(tx.drop a.length).take (a.length+l.length-a.length)=l:=by
    rw[e2,List.append_assoc,List.drop_left,Nat.add_sub_cancel_left,List.take_left]
   rw[e4]
  have h5:=Q1 r (a++l++ [10]) (L++ [l]) tx (fun x hx=>hl x (List.mem_cons_of_mem _ hx)) (by rw[e2];simp) h4
  rw[h5,List.append_assoc]
  rfl
def ab1(tx:List Nat):Prop:=tx.length≤20000∧ ∀c∈tx,c=10∨(32≤c∧c≤126)
theorem Q2{c:Nat}:(do let a ←(some c:Option Nat);pure (a:Int))=some (c:Int):=rfl
section
variable(tx:List Nat)(hx:ab1 tx)
include hx
def aIW(fr:Fr)(lh:aE ah)(sh:List ah)(h0:aa fr 0= .s tx)(h4:aa fr 4= qi 0):
  Lp pE 66 pe fr lh sh (.ext 0) fun f q s=>s=sh∧q=lh:=by
 obtain⟨Mm,I⟩:=hx
 refine bK Ew (fun k f q s=>aa f 4= qi (k:Int)∧s=sh∧q=lh) tx.length ⟨h4,rfl,rfl⟩ ?_ ?_
 ·rintro k f _ _ hk D ⟨F,rfl,rfl⟩
  have r:(k:Int)<tx.length:=zV
  have U:=aF (k:=k) zV
  have hc:=I tx[k] (List.getElem_mem hk)
  have V:tx[k]? =some tx[k]:=List.getElem?_eq_getElem hk
  have W:(0:Int)≤(k:Int):=zV
  generalize tx[k]=c at*
  by_cases K:c=10
  ·subst K
   simp(maxDischargeDepth:=6) only[qA,seval,gd,pe,D,h0,F,r,V,Q2,U]
  ·have hi: ¬((c:Nat):Int)=10:=zV
   have X: ¬((c:Nat):Int)<32:=zV
   have O: ¬((c:Nat):Int)>126:=zV
   simp(maxDischargeDepth:=6) only[qA,seval,gd,pe,D,h0,F,r,V,Q2,U,hi,X,O]
 ·rintro f _ _ D ⟨F,rfl,rfl⟩
  simp only[qA,seval,gd,pe,D,h0,F,Int.lt_irrefl]
def aIY(fr:Fr)(lh:aE ah)(sh:List ah)(h0:aa fr 0= .s tx)(h5:aa fr 5= .nilsl)(h6:aa fr 6= qi 0)(h7:aa fr 7= qi 0):
  Lp pE 66 pd fr lh sh (.ext 2) fun f q s=>s=sh∧aW q (aa f 5) 49 1 (Di tx tx.length).1.length (strs (Di tx tx.length).1)∧aa f 6= qi ((Di tx tx.length).2:Int):=by
 obtain⟨Mm,hx2⟩:=hx
 refine bK Eu (fun k f q s=>aa f 7= qi (k:Int)∧s=sh∧aW q (aa f 5) 49 1 (Di tx k).1.length (strs (Di tx k).1)∧aa f 6= qi ((Di tx k).2:Int)) tx.length ⟨h7,rfl,by rw[h5];exact aW.nil,h6⟩ ?_ ?_
 ·rintro k f q _ hk K ⟨O,rfl,D,U⟩
  have F:(k:Int)<tx.length:=zV
  have Z:=aF (k:=k) zV
  have V:tx[k]? =some tx[k]:=List.getElem?_eq_getElem hk
  have hD:tx.getD k 0=tx[k]:=by rw[List.getD_eq_getElem?_getD,V];rfl
  have h0k:(0:Int)≤(k:Int):=zV
  obtain⟨b1,b2⟩:=ab0 tx k
  have W:((Di tx k).2≤k∧k≤tx.length):=⟨b2,by omega⟩
  rw[Di,hD]
  generalize Di tx k=p at*
  obtain⟨L,r⟩:=p
  dsimp only at*
  have X:=fun(l:List Nat) (aN:aE ah) (Y:List ah) (e:ab aN 49=ab q 49)=>de (sh:=Y) (D.congr e) [.s l] rfl (bytes:=16) (by unfold roomy;omega) true
  have lE:=D.notS
  generalize Uw:aa f 5=v5 at D X lE
  generalize tx[k]=c at*
  by_cases I:c=10
  ·subst I
   simp(maxDischargeDepth:=6) only[qA,seval,gd,pd,K,h0,O,U,Uw,F,V,Q2,Z,X,lE,repl,tZ,W]
   have h:=fun Y=>(X ((tx.drop r).take (k-r)) q Y rfl).2.1
   rw[show strs (L++ [(tx.drop r).take (k-r)])=strs L++ [.s ((tx.drop r).take (k-r))]by simp[strs],List.length_append,List.length_singleton]
   exact h _
  ·have hi: ¬((c:Nat):Int)=10:=zV
   simp(maxDischargeDepth:=6) only[qA,seval,gd,pd,K,h0,O,U,Uw,F,V,Q2,Z,hi,I]
   exact D
 ·rintro f q _ K ⟨O,rfl,D,U⟩
  simp only[qA,seval,gd,pd,K,h0,O,Int.lt_irrefl]
  exact⟨D,U⟩
end
def ahO(r:List (List Nat))(h: ∀l∈r,l.length≤100∧ ∀c∈l,32≤c∧c≤126)(hl:r.length≤100):ab1 (lr r)∧ ∀l∈r,10∉l:=by
 refine⟨⟨?_,fun c hc=> ?_⟩,fun l hl D=> ?_⟩
 ·have: ∀m:List (List Nat),(∀l∈m,l.length≤100)→(lr m).length≤m.length*101:=by
   intro m
   induction m with
   |nil=>simp[lr]
   |cons x m ih=>
    intro F
    have h1:=F x List.mem_cons_self
    have h2:=ih fun l hl=>F l (List.mem_cons_of_mem _ hl)
    have e:lr (x::m)=x++ [10]++lr m:=by simp[lr]
    rw[e,List.length_append,List.length_append,List.length_singleton,List.length_cons]
    omega
  have:=this r fun l hl=>(h l hl).1
  omega
 ·obtain⟨l,h1,h2⟩:=List.mem_flatMap.1 hc
  rcases List.mem_append.1 h2 with h2|h2
  ·exact .inr ((h l h1).2 c h2)
  ·exact .inl (List.mem_singleton.1 h2)
 ·have:=(h l hl).2 10 D
  omega
def ab2(r:List (List Nat))(hx:ab1 (lr r))(F: ∀l∈r,10∉l)(hl:r.length≤1000):ae pE 115 [.s (lr r)] []=some (.tup [bj r.length (strs r),qi 0],[]):=by
 have e:=Q1 r [] [] (lr r) F rfl rfl
 rw[List.nil_append]at e
 have h2:=fun fr lh sh=>aIW (lr r) hx fr lh sh
 have h1:=fun fr lh sh=>aIY (lr r) hx fr lh sh
 rw[e]at h1
 have O:=hx.1
 have hb: ¬((lr r).length:Int)>20000:=zV
 have V: ¬((r.length:Nat):Int)>1000:=zV
 generalize lr r=tx at*
 rw[au aiY (by simp[VA])]
 simp(maxDischargeDepth:=6) only[qA,seval,VA,hb]
 generalize I:DC pE 66 (.loop pe) _=D
 obtain⟨f2,l2,s2,rfl,⟨rfl,rfl⟩,U⟩:=qK Ew I (h2 _ _ _ yk yk)
 simp(maxDischargeDepth:=6) only[qA,seval]
 generalize I:DC pE 66 (.loop pd) _=D
 obtain⟨W,l3,s3,rfl,⟨rfl,K,X⟩,Aq⟩:=qK Eu I (h1 _ _ _ (by simp only[qA,seval,U]) yk yk yk)
 have Y:=fun m keep=>K.fzW (m:=m) (sh:=([]:List ah)) (keep:=keep)
 have Z:=K.lenI
 have q0:aa W 0= .s tx:=by rw[Aq 0 zz];simp only[qA,seval,U]
 have q3:=K.notS
 simp(maxDischargeDepth:=6) only[qA,wD,seval,q0,X,Z,V,Int.lt_irrefl,Y]
def qc(a:Nat→Int):Nat→Nat→Nat→Int→Nat×Int
 |0,_,x,r=>(x,r)
 |m+1,i,x,r=>qc a m (i+1) (Ar (a (2+i)) x) (As (a (2+i)) r)
theorem LG(a:Nat→Int): ∀(m i x:Nat) (r:Int),jz a (m+1) i x r=jz a m i x r++ [qG (i+m) (a (2+(i+m))) (qc a m i x r).1 (qc a m i x r).2]
 |0,i,x,r=>by simp[jz,qc]
 |m+1,i,x,r=>by
  rw[jz,LG a m (i+1),jz,qc,List.cons_append,show i+1+m=i+(m+1)by omega]
theorem LH(a:Nat→Int): ∀(m i x:Nat) (r:Int),qc a (m+1) i x r=(Ar (a (2+(i+m))) (qc a m i x r).1,As (a (2+(i+m))) (qc a m i x r).2)
 |0,i,x,r=>rfl
 |m+1,i,x,r=>by
  rw[qc,LH a m (i+1),qc,show i+1+m=i+(m+1)by omega]
theorem Q3(a:Nat→Int): ∀(m i x:Nat) (r:Int),x≤2→1440000≤r→r≤1441425+915*i→(qc a m i x r).1≤2∧1440000≤(qc a m i x r).2∧(qc a m i x r).2≤1441425+915*(i+m)
 |0,i,x,r,h1,h2,h3=>by rw[qc];exact⟨h1,h2,by omega⟩
 |m+1,i,x,r,h1,h2,h3=>by
  obtain⟨I,K⟩:=oN (a (2+i)/16%8).toNat
  have D:tf (a (2+i)) r=r+De (a (2+i)/16%8).toNat:=rfl
  have O:FQ (a (2+i)) r=tf (a (2+i)) r+60+15*(a (2+i)/128%6):=rfl
  have U:As (a (2+i)) r=tf (a (2+i)) r+20∨As (a (2+i)) r=FQ (a (2+i)) r:=by unfold As;split <;> simp
  rw[qc]
  obtain⟨V,F,W⟩:=HK (a (2+i)) x h1
  have:=Q3 a m (i+1) (Ar (a (2+i)) x) (As (a (2+i)) r) F zV (by push_cast;omega)
  push_cast at this
  refine⟨this.1,this.2.1,by push_cast;omega⟩
theorem LI(a:Int)(k:IntKind):Ev.bin .shr (qi a) (.i k 7)=some (qi (a/128)):=fi (b:=7) zV
theorem zY(a:Int)(k:IntKind):Ev.bin .shr (qi a) (.i k 10)=some (qi (a/1024)):=fi (b:=10) zV
def En:T:= .sl [.s [117,116,99],qi 0,.nilsl,.s [111,115,108,111],qi 60,.sl [qi 1441500,qi 120,qi 1444000,qi 60] 2 true,.s [121,111,114,107],qi (-300),.sl [qi 1442900,qi (-240)] 1 true] 3 true
def Eo:T:= .sl [.s [65,65,65],.s [117,116,99],.s [66,66,66],.s [111,115,108,111],.s [67,67,67],.s [121,111,114,107]] 3 true
def gpT:T:= .sl [qi 30,qi 45,qi 45,qi 60,qi 90,qi 150,qi 600,qi 780] 8 true
def tyT:T:= .sl [.s [97,51,50,48],.s [98,55,51,55],.s [101,49,57,48]] 3 true
def cdT:T:= .sl [.s [65,65,65],.s [66,66,66],.s [67,67,67]] 3 true
def aCE(r:Int)(h0:0≤r)(D:r<8): ∃q,∀kk,iaV gpT (.i kk r) 1=some (.vp (qi (De r.toNat)::q)):=by
 have:r=0∨r=1∨r=2∨r=3∨r=4∨r=5∨r=6∨r=7:=zV
 rcases this with rfl|rfl|rfl|rfl|rfl|rfl|rfl|rfl <;> exact⟨_,fun _=>rfl⟩
def aCF(r:Int)(h0:0≤r)(D:r<3): ∃q,∀kk,iaV tyT (.i kk r) 1=some (.vp (.s (abR r.toNat)::q)):=by
 have:r=0∨r=1∨r=2:=zV
 rcases this with rfl|rfl|rfl <;> exact⟨_,fun _=>rfl⟩
def ab3(x:Nat)(h:x≤2): ∃q,∀kk,iaV cdT (.i kk (x:Int)) 1=some (.vp (.s (te x)::q)):=by
 have:x=0∨x=1∨x=2:=zV
 rcases this with rfl|rfl|rfl <;> exact⟨_,fun _=>rfl⟩
def aqb:ae pE 63 [] []=some (cdT,[]):=by
 rw[au am4 (by simp[c63])]
 unfold cdT
 simp(maxDischargeDepth:=6) only[qA,seval,c63,repl]
def aI1(k:Nat)(h:k<256):aeV (.sl [.i .u8 (k:Int)] 1 true)=some (.s [k]):=by
 show(if k<256 then some (T.s [k])else none)=_
 rw[if_pos h]
def ttG{HP:aE ah}{r zT aT:T}{ps:List T}{D:List Fl}{y:Fl}{i g:Nat}(h:aW HP r 91 9 (i+1) (D.flatMap uv++ps))(e:uv y=ps): ∃v,aW HP v 91 9 (i+1) ((D++ [y]).flatMap uv)∧(⟨g,.cells [zT,aT,r] 0 true⟩:ah)=⟨g,.cells [zT,aT,v] 0 true⟩:=by
 refine⟨r, ?_,rfl⟩
 rw[List.flatMap_append,List.flatMap_cons,List.flatMap_nil,List.append_nil,e]
 exact h
def LJ(i:Nat)(n:Int)(x:Nat)(r:Int){A B:Nat}(ha:QP n x=A)(hb:Ar n x=B):uv (qG i n x r)= [.s [70,48+i],.s (te A),.s (te B),qi (tf n r),qi (FQ n r),.s (abR (n/1024%3).toNat),qi 1,qi 1,qi 2]:=by
 subst ha hb
 rfl
section
variable(xs:List Int)(la:T)(hl:IsSl la xs.length (ints xs))
include hl
def ttl(Y:Int)(FT:1440000≤Y)(AV:Y≤1441425)(zT aT:T)(g:Nat)(fr:Fr)(lh:aE ah)(sh:List ah)(h0:aa fr 0=la)(h3:aa fr 3= .ptr .L 3 g 0)(h4:aa fr 4= qi 0)(h5:aa fr 5= qi Y)(h6:aa fr 6=gpT)(h7:aa fr 7=tyT)(h8:aa fr 8= qi 0)(Z:ab lh 3=⟨g,.cells [zT,aT,.nilsl] 0 true⟩):
  Lp pE 102 jK fr lh sh (.ext 0) fun f l s=>s=sh∧ab l 2=ab lh 2∧ ∃v,aW l v 91 9 (qp (bJ xs)) ((jz (bJ xs) (qp (bJ xs)) 0 0 Y).flatMap uv)∧ab l 3=⟨g,.cells [zT,aT,v] 0 true⟩:=by
 refine bK IZ (fun i f l s=>aa f 8= qi (i:Int)∧aa f 4= qi ((qc (bJ xs) i 0 0 Y).1:Int)∧aa f 5= qi (qc (bJ xs) i 0 0 Y).2∧s=sh∧ab l 2=ab lh 2∧ ∃v,aW l v 91 9 i ((jz (bJ xs) i 0 0 Y).flatMap uv)∧ab l 3=⟨g,.cells [zT,aT,v] 0 true⟩) (qp (bJ xs)) ⟨h8,h4,h5,rfl,rfl,.nilsl,aW.nil,Z⟩ ?_ ?_
 ·rintro i f l _ hi pr ⟨g8,g4,g5,rfl,o2,v,hO,Z⟩
  have hn:=nV (bJ xs)
  have a1:=jI la xs hl 1 zV
  have dk:=jI la xs hl (2+i) zV
  have n1:=rE xs 1
  have n2:=rE xs (2+i)
  have D:(i:Int)<2+bJ xs 1%6:=by unfold qp at hi;omega
  have t1:(bJ xs 1).tmod 6=bJ xs 1%6:=eF n1
  have w1:wr .i64 (2+bJ xs 1%6)=2+bJ xs 1%6:=aZ zV
  have w2:wr .i64 (2+(i:Int))=((2+i:Nat):Int):=by rw[aZ zV];omega
  have hw:=aF (k:=i) zV
  have fF:=LH (bJ xs) i 0 0 Y
  have zX:=LG (bJ xs) i 0 0 Y
  have hrg:=Q3 (bJ xs) i 0 0 Y zV zV zV
  rw[Nat.zero_add]at fF zX
  obtain⟨r1,r2,r3⟩:=hrg
  rw[fF,zX]
  generalize (qc (bJ xs) i 0 0 Y).1=x at*
  generalize (qc (bJ xs) i 0 0 Y).2=ck at*
  generalize jz (bJ xs) i 0 0 Y=fs at*
  have F:ae pE 23 [la,qi 1] []=some (qi (bJ xs 1),[]):=a1
  generalize bJ xs 1=m1 at*
  generalize bJ xs (2+i)=n at*
  have t7:n.tmod 7=n%7:=eF n2
  have t11:n.tmod 11=n%11:=eF n2
  have t5:n.tmod 5=n%5:=eF n2
  have t2:(n/8).tmod 2=n/8%2:=eF zV
  have t8:(n/16).tmod 8=n/16%8:=eF zV
  have t6:(n/128).tmod 6=n/128%6:=eF zV
  have t3:(n/1024).tmod 3=n/1024%3:=eF zV
  obtain⟨q1,e1⟩:=aCE (n/16%8) zV zV
  obtain⟨q2,e2⟩:=aCF (n/1024%3) zV zV
  obtain⟨g1,g2⟩:=oN (n/16%8).toNat
  obtain⟨u1,u2,u3⟩:=HK n x r1
  obtain⟨q3,e3⟩:=ab3 (QP n x) u3
  obtain⟨q4,e4⟩:=ab3 (Ar n x) u2
  have zx:=aqb
  have hdp:tf n ck=ck+De (n/16%8).toNat:=rfl
  have fj:FQ n ck=tf n ck+60+15*(n/128%6):=rfl
  have hz:=hl.froz
  have hi6:i≤6:=zV
  have O:wr .i64 (48+(i:Int))=((48+i:Nat):Int):=by rw[aZ zV];omega
  have w8:wr .u8 ((48+i:Nat):Int)=((48+i:Nat):Int):=by
   have:i=0∨i=1∨i=2∨i=3∨i=4∨i=5∨i=6:=zV
   rcases this with rfl|rfl|rfl|rfl|rfl|rfl|rfl <;> rfl
  have sH:=aI1 (48+i) zV
  have w9:wr .i64 (ck+De (n/16%8).toNat)=tf n ck:=by rw[aZ zV];rfl
  have U:wr .i64 (tf n ck+60)=tf n ck+60:=aZ zV
  have V:wr .i64 (15*(n/128%6))=15*(n/128%6):=aZ zV
  have W:wr .i64 (tf n ck+60+15*(n/128%6))=FQ n ck:=by rw[aZ zV];rfl
  have w13:wr .i64 (tf n ck+20)=tf n ck+20:=aZ zV
  have w14:wr .i64 (1+n/8%2)=1+n/8%2:=aZ zV
  have K:=fun(ps:List T) (jF:ps.length=9) (aN:aE ah) (aR:List ah) (e:ab aN 91=ab l 91)=>de (bytes:=104) (sh:=aR) (hO.congr e) ps jF (by unfold roomy;omega) true
  have X:=fun ps jF aN aR e=>(K ps jF aN aR e).2.1.cells
  have DE:=fun ps jF aN aR e=>(K ps jF aN aR e).2.1.noTup
  have lE:=hO.notS
  obtain⟨G,hG⟩: ∃G,(ab l 12).g+1=G:=⟨_,rfl⟩
  have e0:iaV cdT (qi 0) 1=some (.vp [.s (te 0),.s (te 1),.s (te 2)]):=rfl
  have e8: ∃q,iaV cdT (qi (1+n/8%2)) 1=some (.vp (.s (te (1+(n/8%2).toNat))::q)):=by
   obtain⟨q,h⟩:=ab3 (1+(n/8%2).toNat) zV
   refine⟨q, ?_⟩
   have:(1+n/8%2:Int)=((1+(n/8%2).toNat:Nat):Int):=zV
   rw[this]
   exact h .i64
  obtain⟨q8,e8⟩:=e8
  generalize cdT=cdT at*
  by_cases hA:n%7=6
  ·have ha:QP n x=0:=if_pos hA
   have LK:Ar n x=1+(n/8%2).toNat:=by unfold Ar;rw[if_pos ha]
   have r:(1+n/8%2:Int)=((Ar n x:Nat):Int):=by rw[LK];omega
   by_cases I:n%5=4
   ·have hc:As n ck=tf n ck+20:=if_pos I
    simp(maxDischargeDepth:=6) only[qA,seval,gd,repl,bg,aH,jK,pr,h0,h3,h6,h7,g8,g5,Z,F,dk,t1,w1,w2,D,hw,hz,t7,t5,t2,t8,t6,t3,e1,e2,e0,e8,zx,O,w8,sH,w9,U,V,W,w13,w14,K,X,DE,lE,hG,hA,I,LI,zY,oa,JE,JF,zO,kH]
    exact⟨congrArg (T.i .i64) r,congrArg (T.i .i64) (hc.symm),o2,ttG ((dx zz).mpr (K _ rfl _ _ yk).2.1) (LJ i n x ck ha LK)⟩
   ·have hc:As n ck=FQ n ck:=if_neg I
    simp(maxDischargeDepth:=6) only[qA,seval,gd,repl,bg,aH,jK,pr,h0,h3,h6,h7,g8,g5,Z,F,dk,t1,w1,w2,D,hw,hz,t7,t5,t2,t8,t6,t3,e1,e2,e0,e8,zx,O,w8,sH,w9,U,V,W,w14,K,X,DE,lE,hG,hA,I,LI,zY,oa,JE,JF,zO,kH]
    exact⟨congrArg (T.i .i64) r,congrArg (T.i .i64) (hc.symm),o2,ttG ((dx zz).mpr (K _ rfl _ _ yk).2.1) (LJ i n x ck ha LK)⟩
  ·have hax:QP n x=x:=if_neg hA
   by_cases hx:x=0
   ·subst hx
    have ha:QP n 0=0:=hax
    have LK:Ar n 0=1+(n/8%2).toNat:=by unfold Ar;rw[if_pos ha]
    have r:(1+n/8%2:Int)=((Ar n 0:Nat):Int):=by rw[LK];omega
    have g4:aa f 4= qi 0:=g4
    by_cases I:n%5=4
    ·have hc:As n ck=tf n ck+20:=if_pos I
     simp(maxDischargeDepth:=6) only[qA,seval,gd,repl,bg,aH,jK,pr,h0,h3,h6,h7,g8,g4,g5,Z,F,dk,t1,w1,w2,D,hw,hz,t7,t5,t2,t8,t6,t3,e1,e2,e0,e8,zx,O,w8,sH,w9,U,V,W,w13,w14,K,X,DE,lE,hG,hA,I,LI,zY,oa,JE,JF,zO,kH]
     exact⟨congrArg (T.i .i64) r,congrArg (T.i .i64) (hc.symm),o2,ttG ((dx zz).mpr (K _ rfl _ _ yk).2.1) (LJ i n 0 ck ha LK)⟩
    ·have hc:As n ck=FQ n ck:=if_neg I
     simp(maxDischargeDepth:=6) only[qA,seval,gd,repl,bg,aH,jK,pr,h0,h3,h6,h7,g8,g4,g5,Z,F,dk,t1,w1,w2,D,hw,hz,t7,t5,t2,t8,t6,t3,e1,e2,e0,e8,zx,O,w8,sH,w9,U,V,W,w14,K,X,DE,lE,hG,hA,I,LI,zY,oa,JE,JF,zO,kH]
     exact⟨congrArg (T.i .i64) r,congrArg (T.i .i64) (hc.symm),o2,ttG ((dx zz).mpr (K _ rfl _ _ yk).2.1) (LJ i n 0 ck ha LK)⟩
   ·have ha:QP n x=x:=hax
    have hx': ¬((x:Nat):Int)=0:=zV
    rw[hax]at e3
    by_cases hE:n%11=10
    ·have LK:Ar n x=3-x:=by unfold Ar;rw[hax,if_neg hx,if_pos hE]
     have w15:wr .i64 (3-(x:Int))=3-(x:Int):=aZ zV
     have e6: ∃q,iaV cdT (qi (3-(x:Int))) 1=some (.vp (.s (te (3-x))::q)):=⟨q4,by
      have:(3-(x:Int))=((Ar n x:Nat):Int):=by rw[LK];omega
      rw[this,←LK];exact e4 .i64⟩
     obtain⟨q6,e6⟩:=e6
     have r:(3-(x:Int))=((Ar n x:Nat):Int):=by rw[LK];omega
     by_cases I:n%5=4
     ·have hc:As n ck=tf n ck+20:=if_pos I
      simp(maxDischargeDepth:=6) only[qA,seval,gd,repl,bg,aH,jK,pr,h0,h3,h6,h7,g8,g4,g5,Z,F,dk,t1,w1,w2,D,hw,hz,t7,t11,t5,t8,t6,t3,e1,e2,zx,O,w8,sH,w9,U,V,W,w13,K,X,DE,lE,hG,hA,I,LI,zY,oa,JE,JF,zO,kH,hx',hE,w15,e3,e6]
      exact⟨congrArg (T.i .i64) r,congrArg (T.i .i64) (hc.symm),o2,ttG ((dx zz).mpr (K _ rfl _ _ yk).2.1) (LJ i n x ck ha LK)⟩
     ·have hc:As n ck=FQ n ck:=if_neg I
      simp(maxDischargeDepth:=6) only[qA,seval,gd,repl,bg,aH,jK,pr,h0,h3,h6,h7,g8,g4,g5,Z,F,dk,t1,w1,w2,D,hw,hz,t7,t11,t5,t8,t6,t3,e1,e2,zx,O,w8,sH,w9,U,V,W,K,X,DE,lE,hG,hA,I,LI,zY,oa,JE,JF,zO,kH,hx',hE,w15,e3,e6]
      exact⟨congrArg (T.i .i64) r,congrArg (T.i .i64) (hc.symm),o2,ttG ((dx zz).mpr (K _ rfl _ _ yk).2.1) (LJ i n x ck ha LK)⟩
    ·have LK:Ar n x=0:=by unfold Ar;rw[hax,if_neg hx,if_neg hE]
     have r:(0:Int)=((Ar n x:Nat):Int):=by rw[LK];rfl
     by_cases I:n%5=4
     ·have hc:As n ck=tf n ck+20:=if_pos I
      simp(maxDischargeDepth:=6) only[qA,seval,gd,repl,bg,aH,jK,pr,h0,h3,h6,h7,g8,g4,g5,Z,F,dk,t1,w1,w2,D,hw,hz,t7,t11,t5,t8,t6,t3,e1,e2,e0,zx,O,w8,sH,w9,U,V,W,w13,K,X,DE,lE,hG,hA,I,LI,zY,oa,JE,JF,zO,kH,hx',hE,e3]
      exact⟨congrArg (T.i .i64) r,congrArg (T.i .i64) (hc.symm),o2,ttG ((dx zz).mpr (K _ rfl _ _ yk).2.1) (LJ i n x ck ha LK)⟩
     ·have hc:As n ck=FQ n ck:=if_neg I
      simp(maxDischargeDepth:=6) only[qA,seval,gd,repl,bg,aH,jK,pr,h0,h3,h6,h7,g8,g4,g5,Z,F,dk,t1,w1,w2,D,hw,hz,t7,t11,t5,t8,t6,t3,e1,e2,e0,zx,O,w8,sH,w9,U,V,W,K,X,DE,lE,hG,hA,I,LI,zY,oa,JE,JF,zO,kH,hx',hE,e3]
      exact⟨congrArg (T.i .i64) r,congrArg (T.i .i64) (hc.symm),o2,ttG ((dx zz).mpr (K _ rfl _ _ yk).2.1) (LJ i n x ck ha LK)⟩
 ·rintro f l _ pr ⟨g8,g4,g5,rfl,o2,v,hO,Z⟩
  have hn:=nV (bJ xs)
  have a1:=jI la xs hl 1 zV
  have n1:=rE xs 1
  have t1:(bJ xs 1).tmod 6=bJ xs 1%6:=eF n1
  have w1:wr .i64 (2+bJ xs 1%6)=2+bJ xs 1%6:=aZ zV
  have D: ¬((qp (bJ xs):Nat):Int)<2+bJ xs 1%6:=by unfold qp;omega
  have F:ae pE 23 [la,qi 1] []=some (qi (bJ xs 1),[]):=a1
  have hz:=hl.froz
  simp(maxDischargeDepth:=6) only[qA,seval,gd,jK,pr,h0,g8,F,t1,w1,D,hz,oa]
  exact⟨o2,v,hO,Z⟩
omit hl in
def aqc:ae pE 32 [] []=some (En,[])∧ae pE 33 [] []=some (Eo,[]):=by
 refine⟨?_, ?_⟩
 ·rw[au axs (by simp[c32])]
  unfold En
  simp(maxDischargeDepth:=6) only[qA,seval,c32,repl]
 ·rw[au axt (by simp[c33])]
  unfold Eo
  simp(maxDischargeDepth:=6) only[qA,seval,c33,repl]
def aqd: ∃v,ae pE 24 [la] []=some (.agg [En,Eo,v],[])∧v=bj (qp (bJ xs)) ((oM (bJ xs)).fl.flatMap uv):=by
 refine⟨_, ?_,rfl⟩
 have h0:ae pE 23 [la,qi 0] []=some (qi (bJ xs 0),[]):=jI la xs hl 0 zV
 have Y:=rE xs 0
 have V:=fun fr lh sh h0 h3 h4 h5 h6 Z h8 I=>ttl xs la hl (1440000+15*(bJ xs 0%96)) zV zV En Eo 1 fr lh sh h0 h3 h4 h5 h6 Z h8 I
 have t0:(bJ xs 0).tmod 96=bJ xs 0%96:=eF Y
 have w0:wr .i64 (15*(bJ xs 0%96))=15*(bJ xs 0%96):=aZ zV
 have w1:wr .i64 (1440000+15*(bJ xs 0%96))=1440000+15*(bJ xs 0%96):=aZ zV
 obtain⟨z1,z2⟩:=aqc
 have hz:=hl.froz
 have k1:froz1 En=true:=rfl
 have k2:froz1 Eo=true:=rfl
 have k3:froz En=true:=rfl
 have k4:froz Eo=true:=rfl
 have k5:cellsOf En= [En]:=rfl
 have k6:cellsOf Eo= [Eo]:=rfl
 have k7:noTup En=true:=rfl
 have k8:noTup Eo=true:=rfl
 rw[au axp (by simp[c24])]
 have r:gpT= .sl [qi 30,qi 45,qi 45,qi 60,qi 90,qi 150,qi 600,qi 780] 8 true:=rfl
 have F:tyT= .sl [.s [97,51,50,48],.s [98,55,51,55],.s [101,49,57,48]] 3 true:=rfl
 unfold oM
 simp only
 generalize En=zT at*
 generalize Eo=aT at*
 simp(maxDischargeDepth:=6) only[qA,seval,c24,repl,z1,z2,h0,t0,w0,w1,hz,k5,k6,k7,k8,oa,aF1,aF2,←r,←F]
 generalize hD:DC pE 102 (.loop jK) _=D
 obtain⟨W,X,s2,rfl,⟨rfl,o2,v,K,I⟩,O⟩:=qK IZ hD (V _ _ _ yk yk yk yk (by simp only[qA,seval,r]) (by simp only[qA,seval,F]) yk yk)
 have q2:aa W 2= .ptr .L 2 1 0:=by rw[O 2 zz];simp only[qA,seval]
 have q3:aa W 3= .ptr .L 3 1 0:=by rw[O 3 zz];simp only[qA,seval]
 have U:ab X 2=⟨1,.cells [.nilsl,.nilsl,.nilsl] 0 true⟩:=by rw[o2];simp only[qA,seval]
 have ez:=fun e m sh keep=>aW.fzW (m:=m) (sh:=sh) (keep:=keep) (K.congr (bq X e (show(91:Nat)≠2 by decide)))
 have hcl:=K.cells
 have DE:=K.noTup
 clear O V
 simp(maxDischargeDepth:=6) only[qA,wD,seval,q2,q3,U,I,ez,k1,k2]
end
def atR(f:Nat→Int)(n:Nat):List Int:=(List.range n).map f
theorem Q4(f:Nat→Int)(n:Nat):(atR f n).length=n:=by simp[atR]
theorem ab4(o:Nat→Int)(k:Nat):HQ o (k+1)=if 0<o k%8 then HQ o k++ [k]else HQ o k:=by
 unfold HQ
 rw[List.range_succ,List.filter_append]
 by_cases h:0<o k%8 <;> simp[h]
def ahP(o:Nat→Int)(n:Nat):(HQ o n).length≤n:=by unfold HQ;exact Nat.le_trans (List.length_filter_le _ _) yv
section
variable(xs:List Int)(l:T)(hl:IsSl l xs.length (ints xs))(zT aT fT:T)(N:Nat)(fc:List T)(hf:IsSl fT N fc)(hN:N≤1000)
include hl hf hN
def aI3(fr:Fr)(lh:aE ah)(sh:List ah)(h1:aa fr 1=l)(h2:aa fr 2= .ptr .L 2 1 0)(h5:aa fr 5= .nilsl)(h6:aa fr 6= qi 0)(o2:ab lh 2=⟨1,.cells [zT,aT,fT] 0 true⟩):
  Lp pE 24 tH fr lh sh (.ext 0) fun f q s=>s=sh∧aW q (aa f 5) 22 1 (HQ (bJ xs) N).length (ints ((HQ (bJ xs) N).map Int.ofNat))∧ab q 2=⟨1,.cells [zT,aT,fT] 0 true⟩:=by
 have U:=hf.lenI
 refine bK I0 (fun k f q s=>aa f 6= qi (k:Int)∧s=sh∧aW q (aa f 5) 22 1 (HQ (bJ xs) k).length (ints ((HQ (bJ xs) k).map Int.ofNat))∧ab q 2=⟨1,.cells [zT,aT,fT] 0 true⟩) N ⟨h6,rfl,by rw[h5];exact aW.nil,o2⟩ ?_ ?_
 ·rintro k f q _ hk I ⟨K,rfl,D,Iz⟩
  have F:(k:Int)<N:=zV
  have X:=aF (k:=k) zV
  have e1:=jI l xs hl k zV
  have O:=Iz
  have Y:=hl.froz
  have Z:=ahP (bJ xs) k
  have V:=rE xs k
  have W:=fun(aN:aE ah) (aR:List ah) (e:ab aN 22=ab q 22)=>de (sh:=aR) (D.congr e) [qi (k:Int)] rfl (bytes:=8) (by unfold roomy;omega) true
  have lE:=D.notS
  have ht:(bJ xs k).tmod 8=bJ xs k%8:=eF V
  rw[ab4]
  generalize HQ (bJ xs) k=r at*
  generalize Uw:aa f 5=v5 at D W lE
  by_cases hb:0<bJ xs k%8
  ·simp(maxDischargeDepth:=6) only[qA,seval,gd,tH,I,h1,h2,K,O,U,F,X,e1,ht,hb,oa,Y,Uw,W,lE,repl]
   obtain⟨_,k1,k2⟩:=W q _ rfl
   rw[show ints ((r++ [k]).map Int.ofNat)=ints (r.map Int.ofNat)++ [qi (k:Int)]by simp[ints],show(r++ [k]).length=r.length+1 by simp]
   exact by first|exact k1|exact⟨k1,(k2 2 zz).trans Iz⟩
  ·simp(maxDischargeDepth:=6) only[qA,seval,gd,tH,I,h1,h2,K,O,U,F,X,e1,ht,hb,oa,Y,Uw]
   exact D
 ·rintro f q _ I ⟨K,rfl,D,Iz⟩
  have O:=Iz
  simp only[qA,seval,gd,tH,I,h2,O,K,U,Int.lt_irrefl]
  exact D
def aqe(r:froz1 zT=true∧froz1 aT=true∧froz1 fT=true):ae pE 27 [.agg [zT,aT,fT],l] []=some (bj (HQ (bJ xs) N).length (ints ((HQ (bJ xs) N).map Int.ofNat)),[]):=by
 have F:=fun fr lh sh=>aI3 xs l hl zT aT fT N fc hf hN fr lh sh
 obtain⟨O,U,V⟩:=r
 rw[au amQ (by simp[c27])]
 simp(maxDischargeDepth:=6) only[qA,seval,c27]
 generalize I:DC pE 24 (.loop tH) _=D
 obtain⟨W,X,s2,rfl,⟨rfl,K,Iz⟩,Y⟩:=qK I0 I (F _ _ _ yk yk yk yk yk)
 have e:=K.fzV (sh:=([]:List ah)) (keep:=false)
 simp(maxDischargeDepth:=6) only[qA,wD,seval,e]
end
def nW:List (List Nat):= [[100,117,116,121,32,114,117,108,101,32,115,105,122,101,32,105,115,32,108,101,103,115,32,43,32,104,101,97,100,115,32,60,61,32,51],
 [100,117,116,121,32,114,117,108,101,32,115,112,97,110,32,105,115,32,115,112,97,110,32,60,61,32,49,51,58,48,48,32,45,32,48,58,51,48,32,42,32,40,108,101,103,115,32,45,32,49,41],
 [100,117,116,121,32,114,117,108,101,32,110,105,103,104,116,32,105,115,32,115,116,97,114,116,32,105,110,32,64,50,50,58,48,48,32,116,111,32,64,48,53,58,48,48,32,105,109,112,108,105,101,115,32,115,112,97,110,32,60,61,32,56,58,48,48],
 [100,117,116,121,32,114,117,108,101,32,98,108,111,99,107,32,105,115,32,98,108,111,99,107,32,60,61,32,54,58,48,48],
 [100,117,116,121,32,114,117,108,101,32,116,121,112,101,115,32,105,115,32,116,121,112,101,115,32,60,61,32,49],
 [100,117,116,121,32,114,117,108,101,32,111,100,100,32,105,115,32,108,101,103,115,32,61,32,49,32,111,114,32,108,101,103,115,32,61,32,51,32,111,114,32,104,101,97,100,115,32,61,32,49],
 [100,117,116,121,32,114,117,108,101,32,103,97,112,32,105,115,32,108,111,110,103,101,115,116,32,60,61,32,50,58,48,48,32,111,114,32,54,58,48,48,32,60,61,32,115,112,97,110],
 [114,101,115,116,32,114,117,108,101,32,108,101,97,115,116,32,105,115,32,56,58,48,48,32,60,61,32,114,101,115,116],
 [114,101,115,116,32,114,117,108,101,32,98,101,102,111,114,101,32,105,115,32,109,97,120,40,54,58,48,48,44,32,98,101,102,111,114,101,46,115,112,97,110,41,32,60,61,32,114,101,115,116],
 [114,101,115,116,32,114,117,108,101,32,110,105,103,104,116,115,32,105,115,32,110,105,103,104,116,115,32,60,61,32,49,32,111,114,32,104,111,109,101],
 [114,101,115,116,32,114,117,108,101,32,104,111,109,101,32,105,115,32,104,111,109,101,32,105,109,112,108,105,101,115,32,114,101,115,116,32,60,61,32,50,48,58,48,48],
 [114,101,115,116,32,114,117,108,101,32,97,102,116,101,114,32,105,115,32,97,102,116,101,114,46,115,116,97,114,116,32,105,110,32,64,48,54,58,48,48,32,116,111,32,64,50,48,58,48,48,32,111,114,32,57,58,48,48,32,60,61,32,114,101,115,116],
 [112,97,105,114,105,110,103,32,114,117,108,101,32,100,97,121,115,32,105,115,32,100,97,121,115,32,60,61,32,51],
 [112,97,105,114,105,110,103,32,114,117,108,101,32,100,117,116,105,101,115,32,105,115,32,100,117,116,105,101,115,32,60,61,32,51],
 [112,97,105,114,105,110,103,32,114,117,108,101,32,98,108,111,99,107,32,105,115,32,98,108,111,99,107,32,60,61,32,57,58,48,48],
 [112,97,105,114,105,110,103,32,114,117,108,101,32,99,114,101,100,105,116,32,105,115,32,99,114,101,100,105,116,32,60,61,32,49,50,58,48,48],
 [112,97,105,114,105,110,103,32,114,117,108,101,32,115,112,97,110,32,105,115,32,115,112,97,110,32,60,61,32,53,48,58,48,48],
 [112,97,105,114,105,110,103,32,114,117,108,101,32,108,101,103,115,32,105,115,32,50,32,60,61,32,108,101,103,115]]
def nY:List (List Nat):= [[100,117,116,121,32,99,111,115,116,32,105,115,32,49,48,48,32,43,32,49,48,32,42,32,108,101,103,115],
 [100,117,116,121,32,99,111,115,116,32,105,115,32,40,115,112,97,110,32,45,32,98,108,111,99,107,41,32,47,32,48,58,49,53],
 [100,117,116,121,32,99,111,115,116,32,105,115,32,105,102,32,110,105,103,104,116,32,60,61,32,50,58,48,48,32,116,104,101,110,32,48,32,101,108,115,101,32,51,48],
 [114,101,115,116,32,99,111,115,116,32,105,115,32,105,102,32,104,111,109,101,32,116,104,101,110,32,48,32,101,108,115,101,32,53,48],
 [114,101,115,116,32,99,111,115,116,32,105,115,32,114,101,115,116,32,47,32,49,58,48,48],
 [112,97,105,114,105,110,103,32,99,111,115,116,32,105,115,32,50,48,32,42,32,100,97,121,115],
 [112,97,105,114,105,110,103,32,99,111,115,116,32,105,115,32,109,97,120,40,48,58,48,48,44,32,99,114,101,100,105,116,32,45,32,56,58,48,48,41,32,47,32,48,58,51,48],
 [100,117,116,121,32,99,111,115,116,32,105,115,32,45,40,53,32,42,32,104,101,97,100,115,41],
 [100,117,116,121,32,99,111,115,116,32,105,115,32,116,121,112,101,115,32,42,32,116,121,112,101,115],
 [112,97,105,114,105,110,103,32,99,111,115,116,32,105,115,32,45,40,51,32,42,32,108,101,103,115,41,32,43,32,115,104,105,102,116,115]]
def tg:List (List Nat):= [[100,117,116,121,32,99,114,101,100,105,116,32,105,115,32,109,97,120,40,98,108,111,99,107,44,32,52,58,48,48,41],
 [100,117,116,121,32,99,114,101,100,105,116,32,105,115,32,115,112,97,110,32,47,32,50],
 [100,117,116,121,32,99,114,101,100,105,116,32,105,115,32,98,108,111,99,107,32,43,32,48,58,50,48,32,42,32,108,101,103,115]]
def yD(r:Int):List Nat:=([[48,58,48,48],[48,58,52,53],[49,58,48,48]]:List (List Nat)).getD r.toNat []
def Gt(r:Int):List Nat:=([[48,58,48,48],[48,58,49,53],[48,58,51,48]]:List (List Nat)).getD r.toNat []
def yh(r:Int):List Nat:=([[48,58,51,48],[48,58,52,48],[48,58,49,53]]:List (List Nat)).getD r.toNat []
def UT(r:Int):List Nat:=([[51,58,48,48],[50,52,58,48,48],[49,58,48,48]]:List (List Nat)).getD r.toNat []
def hv4(r:Int):List Nat:=([[50,52,58,48,48],[49,54,58,48,48],[51,54,58,48,48]]:List (List Nat)).getD r.toNat []
def Uw(r:Int):List Nat:=([[64,50,50,58,48,48,32,116,111,32,64,48,54,58,48,48],[64,48,48,58,48,48,32,116,111,32,64,48,53,58,48,48],[64,49,50,58,48,48,32,116,111,32,64,49,50,58,48,48]]:List (List Nat)).getD r.toNat []
def U8(r:Int):List Nat:=([[50],[55,32,47,32,50],[45,40,49,41]]:List (List Nat)).getD r.toNat []
def hdB(b:Nat→Int):List (List Nat):= [[114,101,112,111,114,116,32]++yD (b 0%3),[114,101,108,101,97,115,101,32]++Gt (b 1%3),[99,111,110,110,101,99,116,32]++yh (b 2%3),[115,105,116,32]++UT (b 3%3),[108,97,121,111,118,101,114,32]++hv4 (b 4%3),[110,105,103,104,116,32]++Uw (b 5%3),[99,111,110,115,116,32,115,104,105,102,116,115,32,105,115,32]++U8 (b 6%3)]
def crD(b:Nat→Int):List (List Nat):=if b 41%4<3 then [tg.getD (b 41%4).toNat []]else []
def AW(b:Nat→Int)(i:Nat):Bool:=decide (b (7+i)%4=0)
def HR(b:Nat→Int)(i:Nat):Bool:=decide (b (30+i)%3=0)
def Ux(b:Nat→Int):List (List Nat):=hdB b++dh (AW b) 0 nW++dh (HR b) 0 nY++crD b
theorem LL{α:Type}(p:Nat→Bool): ∀(i:Nat) (a b:List α),dh p i (a++b)=dh p i a++dh p (i+a.length) b
 |_,[],b=>rfl
 |i,x::a,b=>by
  rw[List.cons_append,dh,dh,LL p (i+1) a b,List.length_cons,show i+1+a.length=i+(a.length+1)by omega]
  split <;> simp
theorem sM{α:Type}(p:Nat→Bool)(l:List α)(k:Nat)(hk:k<l.length):dh p 0 (l.take (k+1))=dh p 0 (l.take k)++if p k=true then [l[k]]else []:=by
 rw[List.take_succ_eq_append_getElem hk,LL,List.length_take,Nat.min_eq_left zV,Nat.zero_add,dh]
 rfl
theorem xg(a b:List (List Nat)):lr (a++b)=lr a++lr b:=by unfold lr;rw[List.flatMap_append]
theorem HS(a:List Nat):lr [a]=a++ [10]:=by simp[lr]
def Dj(a b c:List Nat)(r:Int)(h0:0≤r)(h3:r<3): ∃q,∀kk,iaV (.sl [.s a,.s b,.s c] 3 true) (.i kk r) 1=some (.vp (.s (([a,b,c]:List (List Nat)).getD r.toNat [])::q)):=by
 have:r=0∨r=1∨r=2:=zV
 rcases this with rfl|rfl|rfl <;> exact⟨_,fun _=>rfl⟩
def xh{v:T}{L:List (List Nat)}(r:IsSl v L.length (strs L))(k:Nat)(hk:k<L.length): ∃q,∀kk,iaV v (.i kk (k:Int)) 1=some (.vp (.s L[k]::q)):=by
 refine⟨(strs L).drop (k+1),fun kk=> ?_⟩
 rw[r.ia (sz:=1) (by simp[strs]) hk,Nat.mul_one,List.drop_eq_getElem_cons (by simp[strs];exact hk)]
 simp[strs]
def aqg:ae pE 119 [] []=some (.sl (strs nW) 18 true,[]):=by
 rw[au ai0 (by simp[VB])]
 simp(maxDischargeDepth:=6) only[qA,seval,VB,repl,strs,nW]
def aqh:ae pE 120 [] []=some (.sl (strs nY) 10 true,[]):=by
 rw[au ai2 (by simp[VC])]
 simp(maxDischargeDepth:=6) only[qA,seval,VC,repl,strs,nY]
def aqi:ae pE 121 [] []=some (.sl (strs tg) 3 true,[]):=by
 rw[au ai3 (by simp[VD])]
 simp(maxDischargeDepth:=6) only[qA,seval,VD,repl,strs,tg]
theorem Q5: ∀(r:List (List Nat)),(∀l∈r,l.length≤100)→(lr r).length≤r.length*101
 | [],_=>by simp[lr]
 |x::m,D=>by
  have h1:=D x List.mem_cons_self
  have h2:=Q5 m fun l hl=>D l (List.mem_cons_of_mem _ hl)
  have e:lr (x::m)=x++ [10]++lr m:=by simp[lr]
  rw[e,List.length_append,List.length_append,List.length_singleton,List.length_cons]
  omega
def AX(p:Nat→Bool)(l:List (List Nat))(h: ∀x∈l,x.length≤100)(k:Nat):(lr (dh p 0 (l.take k))).length≤k*101:=by
 have h1:=(eC p 0 (l.take k)).length_le
 have h2:=Q5 (dh p 0 (l.take k)) fun x hx=>h x (List.mem_of_mem_take ((eC p 0 (l.take k)).subset hx))
 have h3:(l.take k).length≤k:=by rw[List.length_take];omega
 have h4:(dh p 0 (l.take k)).length*101≤k*101:=Nat.mul_le_mul_right _ zV
 omega
def HT: ∀x∈nW,x.length≤100:=zz
def HU: ∀x∈nY,x.length≤100:=zz
def ahQ: ∀x∈tg,x.length≤100:=zz
def uy(a b c:List Nat)(n:Nat)(h:a.length≤20∧b.length≤20∧c.length≤20):(([a,b,c]:List (List Nat)).getD n []).length≤20:=by
 match n with
 |0=>exact h.1
 |1=>exact h.2.1
 |2=>exact h.2.2
 |n+3=>simp
section
variable(xs:List Int)(la:T)(hl:IsSl la xs.length (ints xs))
include hl
def aI4(K:List Nat)(hs0:K.length≤5000)(fr:Fr)(lh:aE ah)(sh:List ah)(h0:aa fr 0=la)(h3:aa fr 3= .s K)(h4:aa fr 4= .sl (strs nW) 18 true)(h5:aa fr 5= qi 0):
  Lp pE 119 tN fr lh sh (.ext 0) fun f l s=>s=sh∧l=lh∧aa f 3= .s (K++lr (dh (AW (bJ xs)) 0 nW)):=by
 have Ix:nW.length=18:=rfl
 have U:IsSl (T.sl (strs nW) 18 true) nW.length (strs nW):= .inr ⟨_,rfl⟩
 have W:=hl.froz
 generalize T.sl (strs nW) 18 true=v at*
 refine bK Jf (fun k f l s=>aa f 5= qi (k:Int)∧s=sh∧l=lh∧aa f 3= .s (K++lr (dh (AW (bJ xs)) 0 (nW.take k)))) 18 ⟨h5,rfl,rfl,by rw[h3];simp[dh,lr]⟩ ?_ ?_
 ·rintro k f _ _ hk O ⟨r,rfl,rfl,F⟩
  have I:(k:Int)<18:=zV
  have X:=aF (k:=k) zV
  have Y:=jI la xs hl (7+k) zV
  have Z:wr .i64 (7+(k:Int))=((7+k:Nat):Int):=by rw[aZ zV];omega
  have hn:=rE xs (7+k)
  have t4:(bJ xs (7+k)).tmod 4=bJ xs (7+k)%4:=eF hn
  obtain⟨q,V⟩:=xh U k zV
  have D:=U.lenI
  rw[Ix]at D
  rw[sM _ _ k zV]
  have hp:AW (bJ xs) k=decide (bJ xs (7+k)%4=0):=rfl
  rw[hp]
  have b1:=AX (AW (bJ xs)) nW HT k
  have b2:=HT nW[k] (List.getElem_mem zV)
  generalize dh (AW (bJ xs)) 0 (nW.take k)=S at*
  generalize nW[k]=R at*
  by_cases hb:bJ xs (7+k)%4=0
  ·simp(maxDischargeDepth:=6) only[qA,seval,gd,tN,O,h0,h4,r,F,D,I,X,Y,Z,t4,V,W,hb,oa]
   simp[xg,HS,List.append_assoc]
   exact⟨fun _ h=>absurd h zV,fun h=>absurd h zV⟩
  ·simp(maxDischargeDepth:=6) only[qA,seval,gd,tN,O,h0,h4,r,F,D,I,X,Y,Z,t4,W,hb,oa]
 ·rintro f _ _ O ⟨r,rfl,rfl,F⟩
  have D:=U.lenI
  rw[Ix]at D
  have ht:nW.take 18=nW:=rfl
  rw[ht]at F
  have r:aa f 5= qi 18:=r
  simp only[qA,seval,gd,tN,O,h4,r,D,Int.lt_irrefl]
  exact F
def aI5(K:List Nat)(hs0:K.length≤5000)(fr:Fr)(lh:aE ah)(sh:List ah)(h0:aa fr 0=la)(h3:aa fr 3= .s K)(h4:aa fr 6= .sl (strs nY) 10 true)(h5:aa fr 7= qi 0):
  Lp pE 119 tM fr lh sh (.ext 2) fun f l s=>s=sh∧l=lh∧aa f 3= .s (K++lr (dh (HR (bJ xs)) 0 nY)):=by
 have Ix:nY.length=10:=rfl
 have U:IsSl (T.sl (strs nY) 10 true) nY.length (strs nY):= .inr ⟨_,rfl⟩
 have W:=hl.froz
 generalize T.sl (strs nY) 10 true=v at*
 refine bK Je (fun k f l s=>aa f 7= qi (k:Int)∧s=sh∧l=lh∧aa f 3= .s (K++lr (dh (HR (bJ xs)) 0 (nY.take k)))) 10 ⟨h5,rfl,rfl,by rw[h3];simp[dh,lr]⟩ ?_ ?_
 ·rintro k f _ _ hk O ⟨r,rfl,rfl,F⟩
  have I:(k:Int)<10:=zV
  have X:=aF (k:=k) zV
  have Y:=jI la xs hl (30+k) zV
  have Z:wr .i64 (30+(k:Int))=((30+k:Nat):Int):=by rw[aZ zV];omega
  have hn:=rE xs (30+k)
  have t4:(bJ xs (30+k)).tmod 3=bJ xs (30+k)%3:=eF hn
  obtain⟨q,V⟩:=xh U k zV
  have D:=U.lenI
  rw[Ix]at D
  rw[sM _ _ k zV]
  have hp:HR (bJ xs) k=decide (bJ xs (30+k)%3=0):=rfl
  rw[hp]
  have b1:=AX (HR (bJ xs)) nY HU k
  have b2:=HU nY[k] (List.getElem_mem zV)
  generalize dh (HR (bJ xs)) 0 (nY.take k)=S at*
  generalize nY[k]=R at*
  by_cases hb:bJ xs (30+k)%3=0
  ·simp(maxDischargeDepth:=6) only[qA,seval,gd,tM,O,h0,h4,r,F,D,I,X,Y,Z,t4,V,W,hb,oa]
   simp[xg,HS,List.append_assoc]
   exact⟨fun _ h=>absurd h zV,fun h=>absurd h zV⟩
  ·simp(maxDischargeDepth:=6) only[qA,seval,gd,tM,O,h0,h4,r,F,D,I,X,Y,Z,t4,W,hb,oa]
 ·rintro f _ _ O ⟨r,rfl,rfl,F⟩
  have D:=U.lenI
  rw[Ix]at D
  have ht:nY.take 10=nY:=rfl
  rw[ht]at F
  have r:aa f 7= qi 10:=r
  simp only[qA,seval,gd,tM,O,h4,r,D,Int.lt_irrefl]
  exact F
def ahR:ae pE 65 [la] []=some (.s (lr (Ux (bJ xs))),[]):=by
 have h0:ae pE 23 [la,qi 0] []=some (qi (bJ xs 0),[]):=jI la xs hl 0 zV
 have h1:ae pE 23 [la,qi 1] []=some (qi (bJ xs 1),[]):=jI la xs hl 1 zV
 have h2:ae pE 23 [la,qi 2] []=some (qi (bJ xs 2),[]):=jI la xs hl 2 zV
 have h3:ae pE 23 [la,qi 3] []=some (qi (bJ xs 3),[]):=jI la xs hl 3 zV
 have h4:ae pE 23 [la,qi 4] []=some (qi (bJ xs 4),[]):=jI la xs hl 4 zV
 have h5:ae pE 23 [la,qi 5] []=some (qi (bJ xs 5),[]):=jI la xs hl 5 zV
 have h6:ae pE 23 [la,qi 6] []=some (qi (bJ xs 6),[]):=jI la xs hl 6 zV
 have r:ae pE 23 [la,qi 41] []=some (qi (bJ xs 41),[]):=jI la xs hl 41 zV
 have Y:=fun i=>rE xs i
 have ht:=fun i=>eF (b:=3) (Y i)
 have F:=eF (b:=4) (Y 41)
 obtain⟨q0,Z⟩:=Dj [48,58,48,48] [48,58,52,53] [49,58,48,48] (bJ xs 0%3) zV zV
 change ∀kk,iaV _ _ 1=some (.vp (.s (yD (bJ xs 0%3))::q0))at Z
 obtain⟨q1,e1⟩:=Dj [48,58,48,48] [48,58,49,53] [48,58,51,48] (bJ xs 1%3) zV zV
 change ∀kk,iaV _ _ 1=some (.vp (.s (Gt (bJ xs 1%3))::q1))at e1
 obtain⟨q2,e2⟩:=Dj [48,58,51,48] [48,58,52,48] [48,58,49,53] (bJ xs 2%3) zV zV
 change ∀kk,iaV _ _ 1=some (.vp (.s (yh (bJ xs 2%3))::q2))at e2
 obtain⟨q3,e3⟩:=Dj [51,58,48,48] [50,52,58,48,48] [49,58,48,48] (bJ xs 3%3) zV zV
 change ∀kk,iaV _ _ 1=some (.vp (.s (UT (bJ xs 3%3))::q3))at e3
 obtain⟨q4,e4⟩:=Dj [50,52,58,48,48] [49,54,58,48,48] [51,54,58,48,48] (bJ xs 4%3) zV zV
 change ∀kk,iaV _ _ 1=some (.vp (.s (hv4 (bJ xs 4%3))::q4))at e4
 obtain⟨q5,e5⟩:=Dj [64,50,50,58,48,48,32,116,111,32,64,48,54,58,48,48] [64,48,48,58,48,48,32,116,111,32,64,48,53,58,48,48] [64,49,50,58,48,48,32,116,111,32,64,49,50,58,48,48] (bJ xs 5%3) zV zV
 change ∀kk,iaV _ _ 1=some (.vp (.s (Uw (bJ xs 5%3))::q5))at e5
 obtain⟨q6,e6⟩:=Dj [50] [55,32,47,32,50] [45,40,49,41] (bJ xs 6%3) zV zV
 change ∀kk,iaV _ _ 1=some (.vp (.s (U8 (bJ xs 6%3))::q6))at e6
 have hz:=hl.froz
 have uE:=aqg
 have iz:=aqh
 have qn:=aqi
 have TQ:=fun s0 hs fr lh sh=>aI4 xs la hl s0 hs fr lh sh
 have KX:=fun s0 hs fr lh sh=>aI5 xs la hl s0 hs fr lh sh
 have y0:(yD (bJ xs 0%3)).length≤20:=uy _ _ _ _ zz
 have y1:(Gt (bJ xs 1%3)).length≤20:=uy _ _ _ _ zz
 have y2:(yh (bJ xs 2%3)).length≤20:=uy _ _ _ _ zz
 have y3:(UT (bJ xs 3%3)).length≤20:=uy _ _ _ _ zz
 have y4:(hv4 (bJ xs 4%3)).length≤20:=uy _ _ _ _ zz
 have y5:(Uw (bJ xs 5%3)).length≤20:=uy _ _ _ _ zz
 have y6:(U8 (bJ xs 6%3)).length≤20:=uy _ _ _ _ zz
 have QI:IsSl (T.sl (strs tg) 3 true) tg.length (strs tg):= .inr ⟨_,rfl⟩
 have aCH: ∀h:bJ xs 41%4<3,∃q,∀kk,iaV (T.sl (strs tg) 3 true) (.i kk (bJ xs 41%4)) 1=some (.vp (.s (tg.getD (bJ xs 41%4).toNat [])::q)):=fun h=>by
  have hk:(bJ xs 41%4).toNat<tg.length:=by show(bJ xs 41%4).toNat<3;omega
  obtain⟨q,e⟩:=xh QI (bJ xs 41%4).toNat hk
  have h0:=Y 41
  rw[Int.toNat_of_nonneg zV]at e
  refine⟨q,fun kk=> ?_⟩
  rw[e,List.getD_eq_getElem?_getD,List.getElem?_eq_getElem hk]
  rfl
 unfold Ux crD
 rw[xg,xg,xg]
 generalize T.sl (strs tg) 3 true=crT at*
 generalize aPm:T.sl (strs nW) 18 true=rF at*
 generalize aPn:T.sl (strs nY) 10 true=On at*
 generalize I:yD (bJ xs 0%3)=x0 at*
 generalize Mm:Gt (bJ xs 1%3)=x1 at*
 generalize K:yh (bJ xs 2%3)=x2 at*
 generalize O:UT (bJ xs 3%3)=x3 at*
 generalize U:hv4 (bJ xs 4%3)=x4 at*
 generalize V:Uw (bJ xs 5%3)=x5 at*
 generalize W:U8 (bJ xs 6%3)=x6 at*
 have hHl:(lr (hdB (bJ xs))).length≤1000:=by
  simp only[lr,hdB,I,Mm,K,O,U,V,W,List.flatMap_cons,List.flatMap_nil,List.length_append,List.length_cons,List.length_nil]
  omega
 have hH:=Eq.refl (lr (hdB (bJ xs)))
 conv at hH=>
  rhs
  simp only[lr,hdB,I,Mm,K,O,U,V,W,List.flatMap_cons,List.flatMap_nil,List.append_nil,List.append_assoc,List.cons_append,List.nil_append]
 have Ix:(lr (dh (AW (bJ xs)) 0 nW)).length≤18*101:=AX (AW (bJ xs)) nW HT 18
 have hcl:(lr (dh (HR (bJ xs)) 0 nY)).length≤10*101:=AX (HR (bJ xs)) nY HU 10
 generalize lr (dh (AW (bJ xs)) 0 nW)=XR at*
 generalize lr (dh (HR (bJ xs)) 0 nY)=XC at*
 generalize lr (hdB (bJ xs))=HB at*
 rw[au axM (by simp[c65])]
 simp(maxDischargeDepth:=6) only[qA,bg,aH,seval,c65,repl,h0,h1,h2,h3,h4,h5,h6,ht,Z,e1,e2,e3,e4,e5,e6,hz,uE,oa,aFU,ayr]
 repeat refine Eq.trans (if_pos (by first|omega|(simp only[List.length_append,List.length_cons,List.length_nil];omega))) ?_
 generalize X:DC pE 119 (.loop tN) _=D
 obtain⟨f2,l2,s2,rfl,⟨rfl,rfl,g3⟩,fR⟩:=qK Jf X (TQ HB zV _ _ _ yk (by rw[hH];simp only[qA,seval,List.append_assoc]) yk yk)
 have p0:aa f2 0=la:=by rw[fR 0 zz];simp only[qA,seval]
 clear fR X hH Z e1 e2 e3 e4 e5 e6
 simp(maxDischargeDepth:=6) only[qA,seval,iz,ays]
 generalize X:DC pE 119 (.loop tM) _=D
 obtain⟨f3,l3,s3,rfl,⟨rfl,rfl,k3⟩,Aq⟩:=qK Je X (KX (HB++XR) (by rw[List.length_append];omega) _ _ _ (by simp only[qA,seval,p0]) (by simp only[qA,seval,g3]) yk yk)
 have p1:aa f3 0=la:=by rw[Aq 0 zz];simp only[qA,seval,p0]
 clear Aq X KX TQ
 by_cases h:bJ xs 41%4<3
 ·obtain⟨q,e⟩:=aCH h
  have b1:(tg.getD (bJ xs 41%4).toNat []).length≤20*5:=by
   have hk:(bJ xs 41%4).toNat<tg.length:=by show(bJ xs 41%4).toNat<3;omega
   rw[List.getD_eq_getElem?_getD,List.getElem?_eq_getElem hk]
   exact ahQ _ (List.getElem_mem hk)
  rw[if_pos h,HS]
  generalize tg.getD (bJ xs 41%4).toNat []=CR at*
  have hA:(HB++XR++XC).length≤10000:=by simp only[List.length_append];omega
  generalize HB++XR++XC=A at*
  simp(maxDischargeDepth:=6) only[qA,seval,p1,k3,r,F,hz,h,qn,e,oa,ayt]
  repeat refine Eq.trans (if_pos (by first|omega|(simp only[List.length_append];omega))) ?_
  simp only[List.append_assoc]
 ·rw[if_neg h]
  have ht0:lr []= []:=rfl
  rw[ht0]
  simp(maxDischargeDepth:=6) only[qA,seval,p1,k3,r,F,hz,h,oa]
end
theorem Dk(f:Nat→Int)(k:Nat):ints (atR f (k+1))=ints (atR f k)++ [qi (f k)]:=by simp[atR,ints,List.range_succ]
section
variable(xs:List Int)(la:T)(hl:IsSl la xs.length (ints xs))
include hl
def aI6(fr:Fr)(lh:aE ah)(sh:List ah)(h0:aa fr 0=la)(h6:aa fr 6= .nilsl)(h7:aa fr 7= .nilsl)(h8:aa fr 8= .nilsl)(h9:aa fr 9= qi 0):
  Lp pE 44 Er fr lh sh (.ext 0) fun f q s=>s=sh∧aW q (aa f 6) 20 1 60 (ints (atR (bJ xs) 60))∧aW q (aa f 7) 27 1 60 (ints (atR (fun i=>bJ xs (60+i)) 60))∧aW q (aa f 8) 34 1 60 (ints (atR (fun i=>bJ xs (120+i)) 60))∧ab q 2=ab lh 2∧ab q 3=ab lh 3:=by
 refine bK O2 (fun k f q s=>aa f 9= qi (k:Int)∧s=sh∧aW q (aa f 6) 20 1 k (ints (atR (bJ xs) k))∧aW q (aa f 7) 27 1 k (ints (atR (fun i=>bJ xs (60+i)) k))∧aW q (aa f 8) 34 1 k (ints (atR (fun i=>bJ xs (120+i)) k))∧ab q 2=ab lh 2∧ab q 3=ab lh 3) 60 ⟨h9,rfl,by rw[h6];exact aW.nil,by rw[h7];exact aW.nil,by rw[h8];exact aW.nil,rfl,rfl⟩ ?_ ?_
 ·rintro k f q _ hk Z ⟨D,rfl,hA,I,hC,K,O⟩
  have U:(k:Int)<60:=zV
  have hw:=aF (k:=k) zV
  have e1:=jI la xs hl k zV
  have e2:=jI la xs hl (60+k) zV
  have e3:=jI la xs hl (120+k) zV
  have w2:wr .i64 (60+(k:Int))=((60+k:Nat):Int):=by rw[aZ zV];omega
  have w3:wr .i64 (120+(k:Int))=((120+k:Nat):Int):=by rw[aZ zV];omega
  have hz:=hl.froz
  have pA:=fun(x:T) (aN:aE ah) (r:List ah) (e:ab aN 20=ab q 20)=>de (sh:=r) (hA.congr e) [x] rfl (bytes:=8) (by unfold roomy;omega) true
  have pB:=fun(x:T) (aN:aE ah) (r:List ah) (e:ab aN 27=ab q 27)=>de (sh:=r) (I.congr e) [x] rfl (bytes:=8) (by unfold roomy;omega) true
  have pC:=fun(x:T) (aN:aE ah) (r:List ah) (e:ab aN 34=ab q 34)=>de (sh:=r) (hC.congr e) [x] rfl (bytes:=8) (by unfold roomy;omega) true
  have nA:=hA.notS
  have nB:=I.notS
  have nC:=hC.notS
  rw[Dk,Dk,Dk]
  generalize U8:aa f 6=v6 at*
  generalize V:aa f 7=v7 at*
  generalize W:aa f 8=v8 at*
  have X:=fun x r=>pA x q r rfl
  have gA:=fun x r j F=>(X x r).2.2 j F
  have kB:=fun x y r=>pB y (G6 q r 20 1 8 v6 (.sl [x] 1 true)) r (gA x r 27 zz)
  have gB:=fun x y r j F=>(kB x y r).2.2 j F
  have Y:=fun x y z r=>pC z (G6 (G6 q r 20 1 8 v6 (.sl [x] 1 true)) r 27 1 8 v7 (.sl [y] 1 true)) r ((gB x y r 34 zz).trans (gA x r 34 zz))
  have gC:=fun x y z r j F=>(Y x y z r).2.2 j F
  have rA:=fun x r=>(X x r).1
  have rB:=fun x y r=>(kB x y r).1
  have rC:=fun x y z r=>(Y x y z r).1
  simp(maxDischargeDepth:=6) only[qA,seval,gd,repl,Er,Z,h0,D,U8,V,W,U,hw,e1,e2,e3,w2,w3,hz,rA,rB,rC,nA,nB,nC,oa]
  refine⟨((X _ _).2.1.congr ?_),((kB _ _ _).2.1.congr ?_),(Y _ _ _ _).2.1, ?_, ?_⟩
  ·exact(gC _ _ _ _ 20 zz).trans (gB _ _ _ 20 zz)
  ·exact gC _ _ _ _ 27 zz
  ·exact((gC _ _ _ _ 2 zz).trans (gB _ _ _ 2 zz)).trans ((gA _ _ 2 zz).trans K)
  ·exact((gC _ _ _ _ 3 zz).trans (gB _ _ _ 3 zz)).trans ((gA _ _ 3 zz).trans O)
 ·rintro f q _ Z ⟨D,rfl,hA,I,hC,K,O⟩
  have D:aa f 9= qi 60:=D
  simp only[qA,seval,gd,Er,D,Int.lt_irrefl]
  exact⟨hA,I,hC,K,O⟩
end
def isLt(b:Nat):Bool:=(97≤b&&b≤122)||b==46
def ab5(b:Nat):Bool:=48≤b&&b≤57
def aqj(l:List Nat):Nat:=l.foldl (fun n b=>n*10+(b-48)) 0
def Vc(k:Int)(s:List Nat)(n p:Nat):List T:= [qi k,.s s,qi n,qi p]
def Oo:Nat→Nat→List Nat→List T
 |n+1,p,b::r=>
  if b=32 then Oo n (p+1) r
  else if isLt b then Vc 1 ((b::r).span isLt).1 0 p++Oo n (p+((b::r).span isLt).1.length) ((b::r).span isLt).2
  else if ab5 b||b==64 then
   let o:=if b=64 then 1 else 0
   let w:=((b::r).drop o).span ab5
   match w.2 with
   |58::z=>Vc (3+o) [] (aqj w.1*60+aqj (z.span ab5).1) p++Oo n (p+o+w.1.length+1+(z.span ab5).1.length) (z.span ab5).2
   |z=>Vc 2 [] (aqj w.1) p++Oo n (p+w.1.length) z
  else match b,r with
   |60,61::z=>Vc 5 [60,61] 0 p++Oo n (p+2) z
   |_,_=>Vc 5 [b] 0 p++Oo n (p+1) r
 |_,_,_=> []
def tok(l:List Nat):List T:=Oo l.length 0 l
def th(k:Nat)(l:List Nat):T:= .sl ((tok l).drop (k*4)) ((tok l).length/4-k) false
def ScK(l:List Nat):Prop:= ∃s,ae pE 116 [.s l] []=some (.tup [th 0 l,qi 0,qi 0],s)
def PaK(k:Nat)(p:List Nat×Ex):Prop:= ∃s,ae pE 196 [th k p.1] []=some (.tup [.agg (fN p.2),qi (-1)],s)
def gG:Nat→Int→List Nat
 |0,j=> [114,101,112,111,114,116,32]++yD j
 |1,j=> [114,101,108,101,97,115,101,32]++Gt j
 |2,j=> [99,111,110,110,101,99,116,32]++yh j
 |3,j=> [115,105,116,32]++UT j
 |4,j=> [108,97,121,111,118,101,114,32]++hv4 j
 |5,j=> [110,105,103,104,116,32]++Uw j
 |_,j=> [99,111,110,115,116,32,115,104,105,102,116,115,32,105,115,32]++U8 j
def hls:List (List Nat):=(List.range 7).flatMap fun i=> [gG i 0,gG i 1,gG i 2]
def ti(hd:List T)(jd:T)(sn:List T):List ah:= [⟨1,.cells (hd++ [jd,.nilsl,.nilsl,.nilsl,.nilsl,.nilsl,qi 0]) 0 true⟩,⟨1,.cells sn 0 true⟩]
def ruX:List (List Nat×Ex):=nW.zip (iX.map Ru.x)
def koX:List (List Nat×Ex):=nY.zip (ic.map Co.x)++tg.zip wJ++(List.range 3).map fun(j:Nat)=>(gG 6 j,nP j)
end Go.Proofs.YtnkgnjecmfkcfaaGreat
