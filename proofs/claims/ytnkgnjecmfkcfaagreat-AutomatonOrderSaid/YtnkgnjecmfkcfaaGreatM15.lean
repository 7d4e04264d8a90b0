/- Walks of functions of the program and of the reference, and their plain laws, part 15. Conditions: the theorems' own. -/
import Derived.Test.YtnkgnjecmfkcfaaGreatGS
import Derived.Test.YtnkgnjecmfkcfaaGreatM9
import Derived.Test.YtnkgnjecmfkcfaaGreatM11
import Derived.Test.YtnkgnjecmfkcfaaGreatM12
import Derived.Test.YtnkgnjecmfkcfaaGreatM13
import Derived.Test.YtnkgnjecmfkcfaaGreatM14
import Derived.KernelRfl
set_option maxRecDepth 100000
set_option linter.unusedSimpArgs false
set_option linter.unusedVariables false
set_option maxRecDepth 1000000
set_option maxHeartbeats 16000000
namespace Go.Proofs.YtnkgnjecmfkcfaaGreat
open Go Go.Ev
structure TtA (t:Tt):Prop where
 z:(∀u∈t.zo,u.sh.length≤fX)∧t.zo.length≤fX
 a:t.ap.length≤fX
 f:t.fl.length≤fX∧ ∀u∈t.fl,u.nu.length≤fX
section
variable(t:Tt)(c:Ct)(zT aT fT a7 a8 a9 aw aA az:T)(hT:ky t zT aT fT)(hC:kP c a7 a8 a9 aw aA az)
end
section
variable(t:Tt)(c:Ct)(zT aT fT a7 a8 a9 aw aA az:T)(hT:ky t zT aT fT)(hC:kP c a7 a8 a9 aw aA az)(hA:Ds c)(hTA:TtA t)(hCA:CtA c)(ops:List Int)(oT:T)(ho:IsSl oT ops.length (ints ops))(H:Int)
include hT hC hA hTA hCA ho
end
def Yq:List Zo:= [⟨[117,116,99],0,[]⟩,⟨[111,115,108,111],60,[(1441500,120),(1444000,60)]⟩,⟨[121,111,114,107],-300,[(1442900,-240)]⟩]
def Re:List Ap:= [⟨[65,65,65],[117,116,99]⟩,⟨[66,66,66],[111,115,108,111]⟩,⟨[67,67,67],[121,111,114,107]⟩]
def rM(k:Nat):List Nat:= [65+k,65+k,65+k]
def Bi(k:Nat):Int:=([30,45,45,60,90,150,600,780]:List Int).getD k 30
def Yr(k:Nat):List Nat:=([[97,51,50,48],[98,55,51,55],[101,49,57,48]]:List (List Nat)).getD k [97,51,50,48]
def N8(n:Int)(x:Nat):Nat:=if n%7=6 then 0 else x
def yl(n:Int)(x:Nat):Nat:=if N8 n x=0 then 1+(n/8%2).toNat else if n%11=10 then 3-N8 n x else 0
def rN(n r:Int):Int:=r+Bi (n/16%8).toNat
def DH(n r:Int):Int:=rN n r+60+15*(n/128%6)
def pJ(i:Nat)(n:Int)(x:Nat)(r:Int):Fl:=⟨[70,48+i],rM (N8 n x),rM (yl n x),rN n r,DH n r,Yr (n/1024%3).toNat,1,1,2⟩
def ym(n r:Int):Int:=if n%5=4 then rN n r+20 else DH n r
def iO(a:Nat→Int):Nat→Nat→Nat→Int→List Fl
 |0,_,_,_=> []
 |m+1,i,x,r=>pJ i (a (2+i)) x r::iO a m (i+1) (yl (a (2+i)) x) (ym (a (2+i)) r)
def po(a:Nat→Int):Nat:=2+(a 1%6).toNat
def mB(a:Nat→Int):Tt:=⟨Yq,Re,iO a (po a) 0 0 (1440000+15*(a 0%96))⟩
theorem nO(k:Nat):30≤Bi k∧Bi k≤780:=by
 unfold Bi
 have:k=0∨k=1∨k=2∨k=3∨k=4∨k=5∨k=6∨k=7∨8≤k:=zZ
 rcases this with rfl|rfl|rfl|rfl|rfl|rfl|rfl|rfl|h
 all_goals first|decide|(rw[List.getD_eq_getElem?_getD,List.getElem?_eq_none (by simpa using h)];decide)
theorem FF(n:Int)(x:Nat)(hx:x≤2):yl n x≠N8 n x∧yl n x≤2∧N8 n x≤2:=by
 have h1:N8 n x≤2:=by unfold N8;split <;> omega
 unfold yl
 have h2:(n/8%2).toNat≤1:=zZ
 split
 ·omega
 ·split <;> omega
theorem aea(k:Nat):iX (Yr k)=true:=by
 unfold Yr
 have:k=0∨k=1∨k=2∨3≤k:=zZ
 rcases this with rfl|rfl|rfl|h
 all_goals first|decide|(rw[List.getD_eq_getElem?_getD,List.getElem?_eq_none (by simpa using h)];decide)
theorem Ys{a b:Nat}(h:rM a=rM b):a=b:=by unfold rM at h;simp at h;omega
theorem Js{a:Nat}(h:a≤2):rM a∈Re.map Ap.cd:=by
 have:a=0∨a=1∨a=2:=zZ
 rcases this with rfl|rfl|rfl <;> decide
theorem aeb(i:Nat)(h:i≤8):DI [70,48+i]=true:=by
 have:i=0∨i=1∨i=2∨i=3∨i=4∨i=5∨i=6∨i=7∨i=8:=zZ
 rcases this with rfl|rfl|rfl|rfl|rfl|rfl|rfl|rfl|rfl <;> decide
theorem aec(i:Nat)(n:Int)(x:Nat)(r:Int)(hi:i≤8)(hx:x≤2)(h1:1440000≤r)(h2:r≤1500000):Ce (Re.map Ap.cd) (pJ i n x r)=0:=by
 obtain⟨F,I,K⟩:=FF n x hx
 obtain⟨R,U⟩:=nO (n/16%8).toNat
 have D:rM (N8 n x)≠rM (yl n x):=fun h=>F (Ys h).symm
 have O:IW (pJ i n x r)=true:=by
  unfold IW pJ DH rN
  simp only[Bool.and_eq_true,decide_eq_true_eq]
  omega
 unfold Ce
 rw[if_neg (by simp[pJ,aeb i hi]),if_neg (by simp[pJ,aea]),if_neg (by simpa[pJ]using Js K),if_neg (by simpa[pJ]using Js I),if_neg (by simpa[pJ]using D),if_neg (by simp[O]),if_neg (by simp[pJ,pq])]
theorem Yt(D:List (List Nat))(p:Option Fl)(f:Fl)(r:List Fl):BH D p (f::r)=if Ce D f≠0 then Ce D f else if(match p with|some p=> !FG p f|none=>false)=true then 8 else BH D (some f) r:=by cases p <;> rfl
theorem N9(a:Nat→Int): ∀(m i x:Nat) (r:Int) (p:Option Fl),i+m≤8→x≤2→1440000≤r→r≤1441425+915*i→(∀q,p=some q→q.dp+20≤r)→BH (Re.map Ap.cd) p (iO a m i x r)=0
 |0,_,_,_,p,_,_,_,_,_=>by cases p <;> rfl
 |m+1,i,x,r,p,hi,hx,h1,h2,D=>by
  obtain⟨O,R⟩:=nO (a (2+i)/16%8).toNat
  obtain⟨U,F,V⟩:=FF (a (2+i)) x hx
  rw[iO,Yt,if_neg (by rw[aec i _ x r zZ hx h1 zZ];simp)]
  refine Eq.trans (if_neg ?_) ?_
  ·cases p with
   |none=>simp
   |some q=>
    have h3:=D q rfl
    have h4:q.dp<(pJ i (a (2+i)) x r).dp:=by unfold pJ rN;simp only;omega
    have:FG q (pJ i (a (2+i)) x r)=true:=by
     unfold FG
     rw[if_pos zZ]
     simpa using h4
    simp[this]
  have W:ym (a (2+i)) r=rN (a (2+i)) r+20∨ym (a (2+i)) r=DH (a (2+i)) r:=by unfold ym;split <;> simp
  have I:rN (a (2+i)) r=r+Bi (a (2+i)/16%8).toNat:=rfl
  have X:DH (a (2+i)) r=rN (a (2+i)) r+60+15*(a (2+i)/128%6):=rfl
  refine N9 a m (i+1) _ _ _ zZ F zZ (by push_cast;omega) fun q K=> ?_
  cases K
  show(pJ i (a (2+i)) x r).dp+20≤_
  unfold pJ
  simp only
  omega
theorem Bj(a:Nat→Int): ∀(m i x:Nat) (r:Int),(iO a m i x r).length=m
 |0,_,_,_=>rfl
 |m+1,i,x,r=>by rw[iO,List.length_cons,Bj a m]
theorem mP(a:Nat→Int):2≤po a∧po a≤7:=by unfold po;omega
theorem Yu(a:Nat→Int):pG (mB a)=0:=by
 obtain⟨h1,h2⟩:=mP a
 have r:=N9 a (po a) 0 0 (1440000+15*(a 0%96)) none zZ zZ zZ zZ zP
 have hl:=Bj a (po a) 0 0 (1440000+15*(a 0%96))
 unfold pG mB
 simp only
 rw[if_neg zz,if_neg zz,if_neg zZ,if_neg zz,if_neg zz,r]
theorem Oa(a:Nat→Int): ∀(m i x:Nat) (r:Int) (j k:Nat) (D:j<(iO a m i x r).length) (hk:k<(iO a m i x r).length),(r<(iO a m i x r)[j].dp)∧(j<k→(iO a m i x r)[j].dp<(iO a m i x r)[k].dp)
 |0,_,_,_,j,k,D,_=>by simp[iO]at D
 |m+1,i,x,r,j,k,D,hk=>by
  obtain⟨I,K⟩:=nO (a (2+i)/16%8).toNat
  have F:rN (a (2+i)) r=r+Bi (a (2+i)/16%8).toNat:=rfl
  have O:DH (a (2+i)) r=rN (a (2+i)) r+60+15*(a (2+i)/128%6):=rfl
  have R:ym (a (2+i)) r=rN (a (2+i)) r+20∨ym (a (2+i)) r=DH (a (2+i)) r:=by unfold ym;split <;> simp
  have ih:=Oa a m (i+1) (yl (a (2+i)) x) (ym (a (2+i)) r)
  have h0:(pJ i (a (2+i)) x r).dp=rN (a (2+i)) r:=rfl
  simp only[iO]at D hk ⊢
  cases j with
  |zero=>
   cases k with
   |zero=>simp only[List.getElem_cons_zero,h0];omega
   |succ k=>
    have h1:=(ih k k (by simpa using hk) (by simpa using hk)).1
    simp only[List.getElem_cons_zero,List.getElem_cons_succ,h0]
    omega
  |succ j=>
   have h1:=(ih j j (by simpa using D) (by simpa using D)).1
   cases k with
   |zero=>simp only[List.getElem_cons_succ];omega
   |succ k=>
    have h2:=(ih j k (by simpa using D) (by simpa using hk)).2
    simp only[List.getElem_cons_succ]
    omega
theorem jy{f g:Nat→Nat}: ∀{n m:Nat},n≤m→(∀i,i<n→f i≤g i)→Sm n f≤Sm m g
 |0,_,_,_=>Nat.zero_le _
 |n+1,0,h,_=>by omega
 |n+1,m+1,h,hf=>by
  by_cases e:n=m
  ·subst e
   rw[Sm,Sm]
   have:=jy (Nat.le_refl n) fun i hi=>hf i zZ
   have:=hf n zZ
   omega
  ·have:=jy (show n+1≤m by omega) hf
   show Sm (n+1) f≤Sm m g+g m
   omega
theorem FH(f:Nat→Nat): ∀n,Sm n f=Sm n fun i=>f (n-1-i)
 |0=>rfl
 |n+1=>by
  rw[Sm,Jk,FH f n,Nat.add_sub_cancel,Nat.sub_zero,Nat.add_comm]
  congr 1
  exact vg fun i _=>by rw[show n-(i+1)=n-1-i by omega]
theorem ahI(N i:Nat)(hi:i<N)(f g:Nat→Nat)(h0: ∀j,j≤i→f j=0)(h1: ∀j,i<j→j<N→f j≤g (N-1-j)):Sm N f≤Sm (N-1-i) g:=by
 rw[FH f N]
 have r: ∀m,m≤N→Sm m (fun k=>f (N-1-k))≤Sm (min m (N-1-i)) g:=by
  intro m D
  induction m with
  |zero=>simp[Sm]
  |succ m ih=>
   have ih:=ih zZ
   rw[Sm]
   by_cases h:m<N-1-i
   ·rw[Nat.min_eq_left zZ]at ih ⊢
    have:=h1 (N-1-m) zZ zZ
    rw[show N-1-(N-1-m)=m by omega]at this
    rw[Sm]
    omega
   ·rw[Nat.min_eq_right zZ]at ih ⊢
    rw[h0 _ zZ]
    omega
 have:=r N (Nat.le_refl _)
 rwa [Nat.min_eq_right zZ]at this
theorem alJ{a b:Bool}(h:a=true→b=true):sW a≤sW b:=by cases a <;> cases b <;> simp_all[sW]
def Gc:Nat→Nat→Nat→Nat
 |0,_,h=>mS true LN h
 |k+1,n,h=>mS true (fun h=>Sm n fun m=>Gc k m h) h
section
variable(N:Nat)(J:Nat→Nat→Bool)(ch:Nat→Bool)(hJ: ∀i j,J i j=true→i<j)
include hJ
theorem Yv{b:Bool}{p q:Nat→Nat}(h: ∀i,p i≤q i)(k:Nat):mS b p k≤mS true q k:=by
 have _:=hJ
 unfold mS
 have h1:sW b*p k≤sW true*q k:=Nat.mul_le_mul (alJ fun _=>rfl) (h k)
 cases k with
 |zero=>exact Nat.add_le_add h1 (Nat.le_refl _)
 |succ k=>exact Nat.add_le_add h1 (h k)
theorem ahJ: ∀(k i h:Nat),i<N→cB N J ch (k+1) i h≤Gc k (N-1-i) h
 |0,i,h,_=>by rw[cB,Gc,Yf];exact Yv J hJ (fun _=>Nat.le_refl _) h
 |k+1,i,h,hi=>by
  rw[cB,Gc,Yf]
  refine Yv J hJ (fun h=> ?_) h
  refine ahI N i hi _ _ (fun j r=> ?_) fun j D r=> ?_
  ·have:J i j=false:=by
    cases e:J i j with
    |false=>rfl
    |true=>have:=hJ i j e;omega
   rw[this];simp[sW]
  ·have h1:=ahJ k j h r
   have h2:sW (J i j)≤1:=by cases J i j <;> simp[sW]
   calc sW (J i j)*cB N J ch (k+1) j h≤1*cB N J ch (k+1) j h:=Nat.mul_le_mul_right _ h2
    _≤_:=zZ
def GcT(N H:Nat):Nat→Nat
 |0=>0
 |k+1=>GcT N H k+Sm (H+1) fun h=>Sm N fun n=>Gc k n h
omit hJ in
theorem Jt{N N' H H':Nat}(hN:N≤N')(r:H≤H'): ∀k,GcT N H k≤GcT N' H' k
 |0=>Nat.le_refl _
 |k+1=>by
  have:=Jt hN r k
  have h2:=jy (n:=H+1) (m:=H'+1) (f:=fun h=>Sm N fun n=>Gc k n h) (g:=fun h=>Sm N' fun n=>Gc k n h) zZ fun i _=>jy hN fun _ _=>Nat.le_refl _
  rw[GcT,GcT];omega
theorem Oc(H:Nat): ∀k,yj N H (cB N J ch) k≤GcT N H k
 |0=>Nat.le_refl _
 |k+1=>by
  have ih:=Oc H k
  have h2:Csu N H (fun h g=>cB N J ch (k+1) g h)≤Sm (H+1) fun h=>Sm N fun n=>Gc k n h:=by
   unfold Csu
   refine jy (Nat.le_refl _) fun h _=> ?_
   rw[FH (fun n=>Gc k n h)]
   exact jy (Nat.le_refl _) fun i hi=>ahJ N J ch hJ k i h hi
  rw[yj,GcT];omega
theorem Rf(H:Nat)(hN:N≤7)(r:H≤2): ¬20000<gH (yj N H (cB N J ch) 6):=by
 have h1:=Oc N J ch hJ H 6
 have h2:=Jt hN r 6
 have h3:GcT 7 2 6=1218:=by decide+kernel
 have h4:gH (yj N H (cB N J ch) 6)=(yj N H (cB N J ch) 6:Int):=by unfold gH;rw[bI zZ]
 omega
end
def Tc:Nat→Nat→Nat→Nat
 |0,_,_=>0
 |m+1,n,h=>(1+Sm n fun k=>Tc m k h)+(if h=0 then 0 else 1+Sm n fun k=>Tc m k (h-1))
theorem FI: ∀(m:Nat) {n D h r:Nat},n≤D→h≤r→Tc m n h≤Tc m D r
 |0,_,_,_,_,_,_=>Nat.le_refl _
 |m+1,n,D,h,r,F,I=>by
  have h1:=jy (f:=fun k=>Tc m k h) (g:=fun k=>Tc m k r) F fun k _=>FI m (Nat.le_refl k) I
  have h2:=jy (f:=fun k=>Tc m k (h-1)) (g:=fun k=>Tc m k (r-1)) F fun k _=>FI m (Nat.le_refl k) zZ
  rw[Tc,Tc]
  by_cases e:h=0
  ·rw[if_pos e]
   split <;> omega
  ·rw[if_neg e,if_neg zZ];omega
theorem Bk{β:Type}(J:Nat→Bool)(g:Nat→List β): ∀n,(((List.range n).filter J).flatMap g).length=Sm n fun j=>sW (J j)*(g j).length
 |0=>rfl
 |n+1=>by
  rw[Ft,Sm,←Bk J g n]
  cases h:J n
  ·simp[sW]
  ·simp[sW]
section
variable(N:Nat)(J:Nat→Nat→Bool)(ch:Nat→Bool)(ok:List (Int×Bool)→Bool)(lg:List (Int×Bool)→Lg)(hJ: ∀i j,J i j=true→i<j)
include hJ
theorem Od: ∀(m:Nat) (d:List (Int×Bool)) (f h:Nat),f<N→(ed N J ch ok lg m d f h).length≤Tc m (N-1-f) h
 |0,_,_,_,_=>Nat.le_refl _
 |m+1,d,f,h,hf=>by
  have one: ∀(x:List (Int×Bool)) (h:Nat),(rL N J ok lg (ed N J ch ok lg m) x f h).length≤1+Sm (N-1-f) fun k=>Tc m k h:=by
   intro x h
   unfold rL
   rw[List.length_append]
   have h1:(if ok x=true then [lg x]else []).length≤1:=by split <;> simp
   have h2:((jN N J f).flatMap fun g=>ed N J ch ok lg m x g h).length≤Sm (N-1-f) fun k=>Tc m k h:=by
    rw[show((jN N J f).flatMap fun g=>ed N J ch ok lg m x g h).length=_ from Bk (J f) _ N]
    refine ahI N f hf _ _ (fun j r=> ?_) fun j D r=> ?_
    ·have:J f j=false:=by
      cases e:J f j with
      |false=>rfl
      |true=>have:=hJ f j e;omega
     rw[this];simp[sW]
    ·have h3:=Od m x j h r
     have h4:sW (J f j)≤1:=by cases J f j <;> simp[sW]
     calc sW (J f j)*(ed N J ch ok lg m x j h).length≤1*(ed N J ch ok lg m x j h).length:=Nat.mul_le_mul_right _ h4
      _≤_:=zZ
   omega
  rw[ed,List.length_append,Tc]
  have a1:(if ch f=true then rL N J ok lg (ed N J ch ok lg m) (d++ [((f:Int),false)]) f h else []).length≤1+Sm (N-1-f) fun k=>Tc m k h:=by
   split
   ·exact one _ _
   ·simp
  by_cases e:h=0
  ·rw[if_pos e,if_pos e];simp only[List.length_nil];omega
  ·rw[if_neg e,if_neg e]
   have:=one (d++ [((f:Int),true)]) (h-1)
   omega
theorem aed(H:Nat)(hN:N≤7)(r:H≤2): ¬2000<(jP N J ch ok lg H).length:=by
 have h1:(jP N J ch ok lg H).length≤Sm N fun n=>Tc 6 n H:=by
  unfold jP
  have h2:=Bk (fun _=>true) (fun f=>ed N J ch ok lg 6 [] f H) N
  rw[show(List.range N).filter (fun _=>true)=List.range N from List.filter_eq_self.2 zP]at h2
  rw[h2,FH (fun n=>Tc 6 n H)]
  exact jy (Nat.le_refl _) fun f hf=>by simpa[sW]using Od N J ch ok lg hJ 6 [] f H hf
 have h3:(Sm N fun n=>Tc 6 n H)≤Sm 7 fun n=>Tc 6 n 2:=jy hN fun i _=>FI 6 (Nat.le_refl _) r
 have h4:(Sm 7 fun n=>Tc 6 n 2)=1218:=by decide+kernel
 omega
end
section
variable(N:Nat)(J:Nat→Nat→Bool)(ch:Nat→Bool)(ok ok':List (Int×Bool)→Bool)(lg:List (Int×Bool)→Lg)(kN: ∀x,ok x=true→ok' x=true)
include kN
end
def at3(l:List Int)(k:Nat):Int:=l.getD k 0
def rpB(k:Nat):Int:=at3 [0,45,60] k
def rlB(k:Nat):Int:=at3 [0,15,30] k
def Rg(k:Nat):Int:=at3 [30,40,15] k
def EC(k:Nat):Int:=at3 [180,1440,60] k
def lyB(k:Nat):Int:=at3 [1440,960,2160] k
def nfB(k:Nat):Int:=at3 [1320,0,720] k
def ntB(k:Nat):Int:=at3 [360,300,720] k
def iy(k:Nat→Nat)(r:List Ru)(D:List Co)(cr:List Ex):Ct:=⟨rpB (k 0),rlB (k 1),Rg (k 2),EC (k 3),lyB (k 4),nfB (k 5),ntB (k 5),[(sN,mL (k 6))],r,D,cr,[],[],0⟩
def cX{α:Type}(p:Nat→Bool):Nat→List α→List α
 |_,[]=> []
 |i,x::l=>if p i=true then x::cX p (i+1) l else cX p (i+1) l
theorem dW{α:Type}(p:Nat→Bool): ∀(i:Nat) (l:List α),(cX p i l).Sublist l
 |_,[]=>List.Sublist.slnil
 |i,x::l=>by
  rw[cX]
  split
  ·exact(dW p (i+1) l).cons_cons x
  ·exact(dW p (i+1) l).cons x
def kB(b:Nat→Int)(i:Nat):Nat:=(b i%3).toNat
def crX(b:Nat→Int):List Ex:=if b 41%4<3 then [uR.getD (b 41%4).toNat (.mk 1 2 [] [])]else []
def mC(b:Nat→Int):Ct:=iy (kB b) (cX (fun i=>decide (b (7+i)%4=0)) 0 jK) (cX (fun i=>decide (b (30+i)%3=0)) 0 iS) (crX b)
theorem three{k:Nat}(P:Nat→Prop)(h0:P 0)(h1:P 1)(h2:P 2)(h:k≤2):P k:=by
 have:k=0∨k=1∨k=2:=zZ
 rcases this with rfl|rfl|rfl <;> assumption
def LW(l:Cs)(u:Ru):Bool:=jS u.sc 1 3&&(iL u.nm&&(decide (bJ u.x=0)&&decide (Gz l u.sc u.x 4=0)))
def LX(l:Cs)(u:Co):Bool:=jS u.sc 1 3&&(decide (bJ u.x=0)&&decide (Gz l u.sc u.x 1=0))
def LY(l:Cs)(x:Ex):Bool:=decide (bJ x=0)&&decide (Gz l 1 x 2=0)
theorem Oe(l:Cs): ∀(r:List Ru) (seen:List (Int×List Nat)),(∀u∈r,LW l u=true)→(r.map fun u=>(u.sc,u.nm)).Nodup→(∀u∈r,(u.sc,u.nm)∉seen)→Gy seen r=0
 | [],_,_,_,_=>rfl
 |u::r,seen,h1,h2,h3=>by
  have h:=h1 u List.mem_cons_self
  unfold LW at h
  simp only[Bool.and_eq_true,decide_eq_true_eq]at h
  obtain⟨a1,a2,F,I⟩:=h
  rw[List.map_cons,List.nodup_cons]at h2
  rw[Gy,if_neg (by simp[a1,a2]),if_neg (h3 u List.mem_cons_self),if_neg (by simp[F])]
  refine Oe l r _ (fun v D=>h1 v (List.mem_cons_of_mem _ D)) h2.2 fun v D hm=> ?_
  rcases List.mem_append.1 hm with hm|hm
  ·exact h3 v (List.mem_cons_of_mem _ D) hm
  ·rw[List.mem_singleton]at hm
   exact h2.1 (hm▸List.mem_map_of_mem (f:=fun u:Ru=>(u.sc,u.nm)) D)
theorem Og(l:Cs): ∀(r:List Co),(∀u∈r,LX l u=true)→IM r=0
 | [],_=>rfl
 |u::r,h1=>by
  have h:=h1 u List.mem_cons_self
  unfold LX at h
  simp only[Bool.and_eq_true,decide_eq_true_eq]at h
  rw[IM,if_neg (by simp[h.1]),if_neg (by simp[h.2.1])]
  exact Og l r fun v D=>h1 v (List.mem_cons_of_mem _ D)
theorem Oh(l:Cs): ∀(r:List Ex),(∀u∈r,LY l u=true)→IP r=0
 | [],_=>rfl
 |u::r,h1=>by
  have h:=h1 u List.mem_cons_self
  unfold LY at h
  simp only[Bool.and_eq_true,decide_eq_true_eq]at h
  rw[IP,if_neg (by simp[h.1])]
  exact Oh l r fun v D=>h1 v (List.mem_cons_of_mem _ D)
theorem Oi(l:Cs): ∀(r:List Ru),(∀u∈r,LW l u=true)→IQ l r=0
 | [],_=>rfl
 |u::r,h1=>by
  have h:=h1 u List.mem_cons_self
  unfold LW at h
  simp only[Bool.and_eq_true,decide_eq_true_eq]at h
  rw[IQ,if_neg (by simp[h.2.2.2])]
  exact Oi l r fun v D=>h1 v (List.mem_cons_of_mem _ D)
theorem Oj(l:Cs): ∀(r:List Co),(∀u∈r,LX l u=true)→IS l r=0
 | [],_=>rfl
 |u::r,h1=>by
  have h:=h1 u List.mem_cons_self
  unfold LX at h
  simp only[Bool.and_eq_true,decide_eq_true_eq]at h
  rw[IS,if_neg (by simp[h.2.2])]
  exact Oj l r fun v D=>h1 v (List.mem_cons_of_mem _ D)
theorem Ok(l:Cs): ∀(r:List Ex),(∀u∈r,LY l u=true)→Ke l r=0
 | [],_=>rfl
 |u::r,h1=>by
  have h:=h1 u List.mem_cons_self
  unfold LY at h
  simp only[Bool.and_eq_true,decide_eq_true_eq]at h
  rw[Ke,if_neg (by simp[h.2])]
  exact Ok l r fun v D=>h1 v (List.mem_cons_of_mem _ D)
theorem alR(k:Nat)(h:k≤2):jK.all (LW [(sN,mL k)])=true:=three (fun k=>jK.all (LW [(sN,mL k)])=true) (by decide+kernel) (by decide+kernel) (by decide+kernel) h
theorem alS(k:Nat)(h:k≤2):iS.all (LX [(sN,mL k)])=true:=three (fun k=>iS.all (LX [(sN,mL k)])=true) (by decide+kernel) (by decide+kernel) (by decide+kernel) h
theorem alT(k:Nat)(h:k≤2):uR.all (LY [(sN,mL k)])=true:=three (fun k=>uR.all (LY [(sN,mL k)])=true) (by decide+kernel) (by decide+kernel) (by decide+kernel) h
theorem alU(k:Nat)(h:k≤2):Ki [] [(sN,mL k)]=0∧LZ [(sN,mL k)] 0 [(sN,mL k)]=0:=three (fun k=>Ki [] [(sN,mL k)]=0∧LZ [(sN,mL k)] 0 [(sN,mL k)]=0) (by decide+kernel) (by decide+kernel) (by decide+kernel) h
theorem alV:(jK.map fun u=>(u.sc,u.nm)).Nodup:=by decide+kernel
theorem FJ(k:Nat→Nat)(hk: ∀i,k i≤2)(r:List Ru)(D:List Co)(cr:List Ex)(h1:r.Sublist jK)(h2:D.Sublist iS)(h3: ∀x∈cr,x∈uR)(h4:cr.length≤1):eV (iy k r D cr)=0:=by
 have e1: ∀u∈r,LW [(sN,mL (k 6))] u=true:=fun u F=>List.all_eq_true.1 (alR (k 6) (hk 6)) u (h1.subset F)
 have e2: ∀u∈D,LX [(sN,mL (k 6))] u=true:=fun u F=>List.all_eq_true.1 (alS (k 6) (hk 6)) u (h2.subset F)
 have e3: ∀u∈cr,LY [(sN,mL (k 6))] u=true:=fun u F=>List.all_eq_true.1 (alT (k 6) (hk 6)) u (h3 u F)
 obtain⟨I,K⟩:=alU (k 6) (hk 6)
 have Y:r.length≤18:=h1.length_le
 have Z:D.length≤10:=h2.length_le
 have hr:j4 (iy k r D cr)=true:=by
  have a0:jS (rpB (k 0)) 0 1440=true:=three (fun k=>jS (rpB k) 0 1440=true) rfl rfl rfl (hk 0)
  have a1:jS (rlB (k 1)) 0 1440=true:=three (fun k=>jS (rlB k) 0 1440=true) rfl rfl rfl (hk 1)
  have a2:jS (Rg (k 2)) 0 1440=true:=three (fun k=>jS (Rg k) 0 1440=true) rfl rfl rfl (hk 2)
  have O: ∀j,j≤2→jS (EC (k 3)) (Rg j) 1440=true:=fun j R=>three (fun j=>jS (EC (k 3)) (Rg j) 1440=true) (three (fun k=>jS (EC k) (Rg 0) 1440=true) rfl rfl rfl (hk 3)) (three (fun k=>jS (EC k) (Rg 1) 1440=true) rfl rfl rfl (hk 3)) (three (fun k=>jS (EC k) (Rg 2) 1440=true) rfl rfl rfl (hk 3)) R
  have U:jS (lyB (k 4)) 0 10080=true:=three (fun k=>jS (lyB k) 0 10080=true) rfl rfl rfl (hk 4)
  have V:jS (nfB (k 5)) 0 1439=true:=three (fun k=>jS (nfB k) 0 1439=true) rfl rfl rfl (hk 5)
  have W:jS (ntB (k 5)) 0 1439=true:=three (fun k=>jS (ntB k) 0 1439=true) rfl rfl rfl (hk 5)
  unfold j4 iy
  simp only[a0,a1,a2,O _ (hk 2),U,V,W,Bool.true_and]
  rfl
 have hs:kz (iy k r D cr)=true:=by
  unfold kz iy
  simp only[Bool.and_eq_true,decide_eq_true_eq,List.length_cons,List.length_nil]
  omega
 have X:fR (iy k r D cr)=0:=by
  unfold fR
  rw[if_neg (by simp[hr]),if_neg (by simp[hs])]
  unfold iy
  simp only
  rw[if_neg (by simp[I]),Oe _ r [] e1 (alV.sublist (h1.map _)) zP,if_neg zP,Og _ D e2,if_neg zP,Oh _ cr e3,if_neg zP]
  rfl
 unfold eV
 rw[if_neg (by simp[X])]
 unfold iy
 simp only
 rw[if_neg (by simp[K]),Oi _ r e1,if_neg zP,Oj _ D e2,if_neg zP,Ok _ cr e3]
theorem sg(b:Nat→Int)(i:Nat):kB b i≤2:=by unfold kB;omega
theorem Bl(b:Nat→Int):(∀x∈crX b,x∈uR)∧(crX b).length≤1:=by
 unfold crX
 split
 ·rename_i h
  refine⟨fun x hx=> ?_,by simp⟩
  rw[List.mem_singleton]at hx
  subst hx
  have hk:(b 41%4).toNat<uR.length:=by show(b 41%4).toNat<3;omega
  rw[List.getD_eq_getElem?_getD,List.getElem?_eq_getElem hk]
  exact List.getElem_mem hk
 ·exact⟨fun x hx=>by simp at hx,by simp⟩
theorem alW(b:Nat→Int):eV (mC b)=0:=FJ _ (sg b) _ _ _ (dW _ _ _) (dW _ _ _) (Bl b).1 (Bl b).2
def FL(o:Nat→Int)(n:Nat):List Nat:=(List.range n).filter fun i=>decide (0<o i%8)
def Rh(o:Nat→Int)(n:Nat):List Int:=(FL o n).map Int.ofNat
theorem Ol(N:Nat): ∀(l:List Nat) (p:Option Int),l.Pairwise (· < ·)→(∀x∈l,x<N)→(∀q,p=some q→ ∀x∈l,q<(x:Int))→BJ N p (l.map Int.ofNat)=0
 | [],_,_,_,_=>rfl
 |x::l,p,h1,h2,h3=>by
  rw[List.pairwise_cons]at h1
  have hx:=h2 x List.mem_cons_self
  have ih:=Ol N l (some (x:Int)) h1.2 (fun y r=>h2 y (List.mem_cons_of_mem _ r)) fun q D y r=>by
   cases D
   have:=h1.1 y r
   omega
  rw[List.map_cons,Jm]
  show(if 0≤(x:Int)∧(x:Int)<(N:Int)then _ else _)=_
  rw[if_pos zZ]
  cases p with
  |none=>exact ih
  |some q=>
   have h4:=h3 q rfl x List.mem_cons_self
   simpa[show¬((x:Int)≤q)by omega]using ih
theorem alX(o:Nat→Int)(n:Nat):BJ n none (Rh o n)=0:=
 Ol n _ none (List.Pairwise.filter _ List.pairwise_lt_range) (fun x hx=>List.mem_range.1 (List.mem_filter.1 hx).1) zP
theorem aee(o:Nat→Int)(n:Nat):(Rh o n).length≤n:=by
 unfold Rh FL
 rw[List.length_map]
 exact Nat.le_trans (List.length_filter_le _ _) zP
theorem Yw(a:Nat→Int): ∀(m i x:Nat) (r:Int),1440000≤r→r≤1441425+915*i→i+m≤8→ ∀f∈iO a m i x r,f.dp+60≤f.ar∧1440000≤f.dp∧f.ar≤1500000
 |0,_,_,_,_,_,_,f,hf=>by simp[iO]at hf
 |m+1,i,x,r,h1,h2,h3,f,hf=>by
  obtain⟨F,I⟩:=nO (a (2+i)/16%8).toNat
  have D:rN (a (2+i)) r=r+Bi (a (2+i)/16%8).toNat:=rfl
  have K:DH (a (2+i)) r=rN (a (2+i)) r+60+15*(a (2+i)/128%6):=rfl
  have O:ym (a (2+i)) r=rN (a (2+i)) r+20∨ym (a (2+i)) r=DH (a (2+i)) r:=by unfold ym;split <;> simp
  rw[iO]at hf
  rcases List.mem_cons.1 hf with rfl|hf
  ·show rN _ _+60≤DH _ _∧1440000≤rN _ _∧DH _ _≤1500000
   omega
  ·exact Yw a m (i+1) _ _ zZ (by push_cast;omega) zZ f hf
theorem oZ(a:Nat→Int):(mB a).fl.length=po a:=Bj a _ _ _ _
theorem ahL(a:Nat→Int)(c:Ct)(hc:0≤c.cn)(i j:Nat)(h:jn c (mB a).fl i j=true):i<j:=by
 have O:=mP a
 have hl:=oZ a
 have F:=Yw a (po a) 0 0 (1440000+15*(a 0%96)) zZ zZ zZ
 have r:=Oa a (po a) 0 0 (1440000+15*(a 0%96))
 by_cases hi:i<(mB a).fl.length
 ·by_cases D:j<(mB a).fl.length
  ·rw[NZ hi D]at h
   have h1:=F (mB a).fl[i] (List.getElem_mem hi)
   have h2:=F (mB a).fl[j] (List.getElem_mem D)
   unfold yf at h
   simp only[Bool.and_eq_true,decide_eq_true_eq]at h
   obtain⟨_,h3,_⟩:=h
   rw[bI zZ]at h3
   have h4:(mB a).fl[i].dp<(mB a).fl[j].dp:=zZ
   refine Nat.lt_of_not_le fun I=> ?_
   by_cases he:j=i
   ·subst he;omega
   ·have:=(r j i D hi).2 zZ
    have e1:(mB a).fl[i].dp=(iO a (po a) 0 0 (1440000+15*(a 0%96)))[i].dp:=rfl
    have e2:(mB a).fl[j].dp=(iO a (po a) 0 0 (1440000+15*(a 0%96)))[j].dp:=rfl
    omega
  ·unfold jn at h
   rw[List.getElem?_eq_none (by omega:(mB a).fl.length≤j)]at h
   cases K:(mB a).fl[i]? <;> rw[K]at h <;> cases h
 ·unfold jn at h
  rw[List.getElem?_eq_none (by omega:(mB a).fl.length≤i)]at h
  cases h
theorem aef(a:Nat→Int)(o:Nat→Int)(c:Ct)(hc:eV c=0)(H:Nat)(r:H≤2):FC (mB a) c (Rh o (po a)) H=0:=by
 have hk:eb (mB a) c=0:=by unfold eb;rw[Yu];simpa using hc
 unfold FC
 rw[if_pos hk,oZ,if_pos (alX o _),if_neg zZ]
theorem alY(a:Nat→Int)(o:Nat→Int)(c:Ct)(hc:0≤c.cn)(H:Nat)(r:H≤2): ¬alI (mB a) c (Rh o (po a)) H:=by
 have D:=mP a
 have hl:=oZ a
 unfold alI Q8
 rintro(h|h)
 ·exact Rf _ _ _ (fun i j=>ahL a c hc i j) H zZ r h
 ·exact aed _ _ _ _ _ (fun i j=>ahL a c hc i j) H zZ r h
theorem alZ(k:Nat→Nat)(hk: ∀i,k i≤2)(r:List Ru)(D:List Co)(cr:List Ex):0≤(iy k r D cr).cn:=three (fun k=>0≤Rg k) zz zz zz (hk 2)
def aDg(a b:Int):Int:=if a<b then-1 else mj (decide (b<a))
def axw(x y:Int×Bool):Int:=if x.1=y.1 then mj x.2-mj y.2 else if x.1<y.1 then-1 else 1
def al0:List (Int×Bool)→List (Int×Bool)→Int
 |x::a,y::b=>if axw x y≠0 then axw x y else al0 a b
 |_,_=>0
def aDh(a b:List (Int×Bool)):Int:=if al0 a b≠0 then al0 a b else aDg a.length b.length
section
variable(d e:List (Int×Bool))(a b:T)(ha:IsSl a d.length (lP d))(hb:IsSl b e.length (lP e))(hd:d.length≤4611686018427387000)(he:e.length≤4611686018427387000)
include ha hb hd he
end
def bE(xs:List Int)(i:Nat):Int:=if xs.length=0 then(i:Int)%65536 else xs.getD (i%xs.length) 0%65536+((i/xs.length:Nat):Int)
theorem qn(xs:List Int)(i:Nat):0≤bE xs i:=by
 unfold bE;split
 ·omega
 ·have:(0:Int)≤((i/xs.length:Nat):Int):=Int.natCast_nonneg _
  omega
theorem dZ{a b:Int}(h:0≤a):a.tmod b=a%b:=by rw[Int.tmod_eq_emod_of_nonneg h]
theorem ja(l:T)(xs:List Int)(hl:IsSl l xs.length (ints xs))(i:Nat)(hi:i<1000000):ae pE 23 [l,.i .i64 (i:Int)] []=some (.i .i64 (bE xs i),[]):=by
 rw[av aiH (by simp[c23])]
 by_cases h:xs.length=0
 ·have D:((xs.length:Nat):Int)=0:=zZ
  have ha:bE xs i=(i:Int)%65536:=by unfold bE;rw[if_pos h]
  simp only[qA,seval,c23,hl.lenI,D,ha]
 ·have D: ¬((xs.length:Nat):Int)=0:=zZ
  have r:i%xs.length<xs.length:=Nat.mod_lt _ zZ
  have ha:bE xs i=xs[i%xs.length]%65536+((i/xs.length:Nat):Int):=by
   unfold bE;rw[if_neg h];simp[List.getD_eq_getElem?_getD,r]
  have e1:((i:Int)).tmod (xs.length:Int)=((i%xs.length:Nat):Int):=by rw[dZ (Int.natCast_nonneg i)];exact(Int.natCast_emod i xs.length).symm
  have e2:((i:Int)).tdiv (xs.length:Int)=((i/xs.length:Nat):Int):=by rw[Int.tdiv_eq_ediv_of_nonneg (Int.natCast_nonneg i)];exact(Int.natCast_ediv i xs.length).symm
  have RX:i/xs.length≤i:=Nat.div_le_self _ _
  have I:0≤((i/xs.length:Nat):Int):=Int.natCast_nonneg _
  have K:((i/xs.length:Nat):Int)≤(i:Int):=Int.ofNat_le.2 RX
  have BR:(i:Int)<1000000:=zZ
  generalize ((i/xs.length:Nat):Int)=q at*
  have O:wr .i64 q=q:=bI zZ
  have R:wr .i64 (xs[i%xs.length]%65536+q)=xs[i%xs.length]%65536+q:=bI zZ
  have F: ∀kk,iaV l (.i kk ((i%xs.length:Nat):Int)) 1=some (.vp (T.i .i64 xs[i%xs.length]::(ints xs).drop (i%xs.length+1))):=fun kk=>by rw[hl.ia (sz:=1) (by rw[dR];omega) r,Nat.mul_one,ll xs _ r]
  simp only[qA,seval,c23,hl.lenI,D,e1,e2,F,O,R,ha]
def j6(r:List (List Nat)):List Nat:=r.flatMap (· ++ [10])
def Bm(tx:List Nat):Nat→List (List Nat)×Nat
 |0=>([],0)
 |k+1=>if tx.getD k 0=10 then((Bm tx k).1++ [(tx.drop (Bm tx k).2).take (k-(Bm tx k).2)],k+1)else Bm tx k
theorem Yx(tx:List Nat): ∀k,(Bm tx k).1.length≤k∧(Bm tx k).2≤k
 |0=>⟨Nat.le_refl _,Nat.le_refl _⟩
 |k+1=>by
  have:=Yx tx k
  rw[Bm]
  split
  ·simp;omega
  ·omega
theorem Ju(a l b:List Nat)(L:List (List Nat))(hl:10∉l)(h:Bm (a++l++b) a.length=(L,a.length)): ∀j,j≤l.length→Bm (a++l++b) (a.length+j)=(L,a.length)
 |0,_=>h
 |j+1,r=>by
  have ih:=Ju a l b L hl h j zZ
  rw[←Nat.add_assoc,Bm,ih]
  have e:(a++l++b).getD (a.length+j) 0=l[j]:=by
   rw[List.getD_eq_getElem?_getD,List.append_assoc,List.getElem?_append_right zZ,Nat.add_sub_cancel_left,List.getElem?_append_left zZ,List.getElem?_eq_getElem zZ]
   rfl
  rw[if_neg]
  rw[e]
  exact fun h=>hl (h▸List.getElem_mem _)
theorem Om: ∀(r:List (List Nat)) (a:List Nat) (L:List (List Nat)) (tx:List Nat),(∀l∈r,10∉l)→tx=a++j6 r→Bm tx a.length=(L,a.length)→Bm tx tx.length=(L++r,tx.length)
 | [],a,L,tx,_,e,h=>by
   have:tx=a:=by rw[e];simp[j6]
   rw[this]at h ⊢
   simpa using h
 |l::r,a,L,tx,hl,e,h=>by
  have e2:tx=a++l++([10]++j6 r):=by rw[e];simp[j6]
  have h2:=h
  rw[e2]at h2
  have h3:=Ju a l _ L (hl l List.mem_cons_self) h2 l.length (Nat.le_refl _)
  rw[←e2]at h3
  have h4:Bm tx (a++l++ [10]).length=(L++ [l],(a++l++ [10]).length):=by
   rw[List.length_append,List.length_append,List.length_singleton,Bm,h3]
   have e3:tx.getD (a.length+l.length) 0=10:=by
    rw[e2,List.getD_eq_getElem?_getD,List.getElem?_append_right zP]
    simp
   rw[if_pos e3]
   have e4:(tx.drop a.length).take (a.length+l.length-a.length)=l:=by
    rw[e2,List.append_assoc,List.drop_left,Nat.add_sub_cancel_left,List.take_left]
   rw[e4]
  have h5:=Om r (a++l++ [10]) (L++ [l]) tx (fun x hx=>hl x (List.mem_cons_of_mem _ hx)) (by rw[e2];simp) h4
  rw[h5,List.append_assoc]
  rfl
def Yy(tx:List Nat):Prop:=tx.length≤20000∧ ∀c∈tx,c=10∨(32≤c∧c≤126)
theorem On{c:Nat}:(do let a ←(some c:Option Nat);pure (a:Int))=some (c:Int):=rfl
section
variable(tx:List Nat)(hx:Yy tx)
include hx
theorem aDi(fr:Fr)(lh:aE ah)(sh:List ah)(h0:aa fr 0= .s tx)(h4:aa fr 4= .i .i64 0):
  Lp pE 66 og fr lh sh (.ext 0) fun f q s=>s=sh∧q=lh:=by
 obtain⟨J7,I⟩:=hx
 refine cm Cm (fun k f q s=>aa f 4= .i .i64 (k:Int)∧s=sh∧q=lh) tx.length ⟨h4,rfl,rfl⟩ ?_ ?_
 ·rintro k f _ _ hk D ⟨F,rfl,rfl⟩
  have r:(k:Int)<tx.length:=zZ
  have R:=aG (k:=k) zZ
  have hc:=I tx[k] (List.getElem_mem hk)
  have U:tx[k]? =some tx[k]:=List.getElem?_eq_getElem hk
  have V:(0:Int)≤(k:Int):=zZ
  generalize tx[k]=c at*
  by_cases K:c=10
  ·subst K
   simp(maxDischargeDepth:=6) only[qA,seval,gd,og,D,h0,F,r,U,On,R]
  ·have hi: ¬((c:Nat):Int)=10:=zZ
   have Z0: ¬((c:Nat):Int)<32:=zZ
   have O: ¬((c:Nat):Int)>126:=zZ
   simp(maxDischargeDepth:=6) only[qA,seval,gd,og,D,h0,F,r,U,On,R,hi,Z0,O]
 ·rintro f _ _ D ⟨F,rfl,rfl⟩
  simp only[qA,seval,gd,og,D,h0,F,Int.lt_irrefl]
theorem aDk(fr:Fr)(lh:aE ah)(sh:List ah)(h0:aa fr 0= .s tx)(h5:aa fr 5= .nilsl)(h6:aa fr 6= .i .i64 0)(h7:aa fr 7= .i .i64 0):
  Lp pE 66 oe fr lh sh (.ext 2) fun f q s=>s=sh∧bh q (aa f 5) 49 1 (Bm tx tx.length).1.length (strs (Bm tx tx.length).1)∧aa f 6= .i .i64 ((Bm tx tx.length).2:Int):=by
 obtain⟨J7,hx2⟩:=hx
 refine cm Cl (fun k f q s=>aa f 7= .i .i64 (k:Int)∧s=sh∧bh q (aa f 5) 49 1 (Bm tx k).1.length (strs (Bm tx k).1)∧aa f 6= .i .i64 ((Bm tx k).2:Int)) tx.length ⟨h7,rfl,by rw[h5];exact bh.nil,h6⟩ ?_ ?_
 ·rintro k f q _ hk K ⟨O,rfl,D,R⟩
  have F:(k:Int)<tx.length:=zZ
  have Y:=aG (k:=k) zZ
  have U:tx[k]? =some tx[k]:=List.getElem?_eq_getElem hk
  have hD:tx.getD k 0=tx[k]:=by rw[List.getD_eq_getElem?_getD,U];rfl
  have h0k:(0:Int)≤(k:Int):=zZ
  obtain⟨b1,b2⟩:=Yx tx k
  have V:((Bm tx k).2≤k∧k≤tx.length):=⟨b2,by omega⟩
  rw[Bm,hD]
  generalize Bm tx k=p at*
  obtain⟨L,r⟩:=p
  dsimp only at*
  have W:=fun(l:List Nat) (aU:aE ah) (X:List ah) (e:ab aU 49=ab q 49)=>dV (sh:=X) (D.congr e) [.s l] rfl (bytes:=16) (by unfold roomy;omega) true
  have Z:=D.notS
  generalize Ri:aa f 5=v5 at D W Z
  generalize tx[k]=c at*
  by_cases I:c=10
  ·subst I
   simp(maxDischargeDepth:=6) only[qA,seval,gd,oe,K,h0,O,R,Ri,F,U,On,Y,W,Z,repl,sH,V]
   have h:=fun X=>(W ((tx.drop r).take (k-r)) q X rfl).2.1
   rw[show strs (L++ [(tx.drop r).take (k-r)])=strs L++ [.s ((tx.drop r).take (k-r))]by simp[strs],List.length_append,List.length_singleton]
   exact h _
  ·have hi: ¬((c:Nat):Int)=10:=zZ
   simp(maxDischargeDepth:=6) only[qA,seval,gd,oe,K,h0,O,R,Ri,F,U,On,Y,hi,I]
   exact D
 ·rintro f q _ K ⟨O,rfl,D,R⟩
  simp only[qA,seval,gd,oe,K,h0,O,Int.lt_irrefl]
  exact⟨D,R⟩
end
theorem aeg(r:List (List Nat))(h: ∀l∈r,l.length≤100∧ ∀c∈l,32≤c∧c≤126)(hl:r.length≤100):Yy (j6 r)∧ ∀l∈r,10∉l:=by
 refine⟨⟨?_,fun c hc=> ?_⟩,fun l hl D=> ?_⟩
 ·have: ∀m:List (List Nat),(∀l∈m,l.length≤100)→(j6 m).length≤m.length*101:=by
   intro m
   induction m with
   |nil=>simp[j6]
   |cons x m ih=>
    intro F
    have h1:=F x List.mem_cons_self
    have h2:=ih fun l hl=>F l (List.mem_cons_of_mem _ hl)
    have e:j6 (x::m)=x++ [10]++j6 m:=by simp[j6]
    rw[e,List.length_append,List.length_append,List.length_singleton,List.length_cons]
    omega
  have:=this r fun l hl=>(h l hl).1
  omega
 ·obtain⟨l,h1,h2⟩:=List.mem_flatMap.1 hc
  rcases List.mem_append.1 h2 with h2|h2
  ·exact .inr ((h l h1).2 c h2)
  ·exact .inl (List.mem_singleton.1 h2)
 ·have:=(h l hl).2 10 D
  omega
theorem Yz(r:List (List Nat))(hx:Yy (j6 r))(F: ∀l∈r,10∉l)(hl:r.length≤1000):ae pE 115 [.s (j6 r)] []=some (.tup [bG r.length (strs r),.i .i64 0],[]):=by
 have e:=Om r [] [] (j6 r) F rfl rfl
 rw[List.nil_append]at e
 have h2:=fun fr lh sh=>aDi (j6 r) hx fr lh sh
 have h1:=fun fr lh sh=>aDk (j6 r) hx fr lh sh
 rw[e]at h1
 have O:=hx.1
 have hb: ¬((j6 r).length:Int)>20000:=zZ
 have U: ¬((r.length:Nat):Int)>1000:=zZ
 generalize j6 r=tx at*
 rw[av afe (by simp[Sq])]
 simp(maxDischargeDepth:=6) only[qA,seval,Sq,hb]
 generalize I:DC pE 66 (.loop og) _=D
 obtain⟨f2,l2,s2,rfl,⟨rfl,rfl⟩,R⟩:=sa Cm I (h2 _ _ _ yW yW)
 simp(maxDischargeDepth:=6) only[qA,seval]
 generalize I:DC pE 66 (.loop oe) _=D
 obtain⟨V,l3,s3,rfl,⟨rfl,K,W⟩,X⟩:=sa Cl I (h1 _ _ _ (by simp only[qA,seval,R]) yW yW yW)
 have Y:=fun m keep=>K.fzW (m:=m) (sh:=([]:List ah)) (keep:=keep)
 have Z:=K.lenI
 have q0:aa V 0= .s tx:=by rw[X 0 zz];simp only[qA,seval,R]
 have q3:=K.notS
 simp(maxDischargeDepth:=6) only[qA,AK,seval,q0,W,Z,U,Int.lt_irrefl,Y]
def pa(a:Nat→Int):Nat→Nat→Nat→Int→Nat×Int
 |0,_,x,r=>(x,r)
 |m+1,i,x,r=>pa a m (i+1) (yl (a (2+i)) x) (ym (a (2+i)) r)
theorem Jv(a:Nat→Int): ∀(m i x:Nat) (r:Int),iO a (m+1) i x r=iO a m i x r++ [pJ (i+m) (a (2+(i+m))) (pa a m i x r).1 (pa a m i x r).2]
 |0,i,x,r=>by simp[iO,pa]
 |m+1,i,x,r=>by
  rw[iO,Jv a m (i+1),iO,pa,List.cons_append,show i+1+m=i+(m+1)by omega]
theorem Jw(a:Nat→Int): ∀(m i x:Nat) (r:Int),pa a (m+1) i x r=(yl (a (2+(i+m))) (pa a m i x r).1,ym (a (2+(i+m))) (pa a m i x r).2)
 |0,i,x,r=>rfl
 |m+1,i,x,r=>by
  rw[pa,Jw a m (i+1),pa,show i+1+m=i+(m+1)by omega]
theorem Oo(a:Nat→Int): ∀(m i x:Nat) (r:Int),x≤2→1440000≤r→r≤1441425+915*i→(pa a m i x r).1≤2∧1440000≤(pa a m i x r).2∧(pa a m i x r).2≤1441425+915*(i+m)
 |0,i,x,r,h1,h2,h3=>by rw[pa];exact⟨h1,h2,by omega⟩
 |m+1,i,x,r,h1,h2,h3=>by
  obtain⟨I,K⟩:=nO (a (2+i)/16%8).toNat
  have D:rN (a (2+i)) r=r+Bi (a (2+i)/16%8).toNat:=rfl
  have O:DH (a (2+i)) r=rN (a (2+i)) r+60+15*(a (2+i)/128%6):=rfl
  have R:ym (a (2+i)) r=rN (a (2+i)) r+20∨ym (a (2+i)) r=DH (a (2+i)) r:=by unfold ym;split <;> simp
  rw[pa]
  obtain⟨U,F,V⟩:=FF (a (2+i)) x h1
  have:=Oo a m (i+1) (yl (a (2+i)) x) (ym (a (2+i)) r) F zZ (by push_cast;omega)
  push_cast at this
  refine⟨this.1,this.2.1,by push_cast;omega⟩
theorem Jx(a:Int)(k:IntKind):Ev.bin .shr (.i .i64 a) (.i k 7)=some (.i .i64 (a/128)):=eM (b:=7) zZ
theorem xT(a:Int)(k:IntKind):Ev.bin .shr (.i .i64 a) (.i k 10)=some (.i .i64 (a/1024)):=eM (b:=10) zZ
def BK:T:= .sl [.s [117,116,99],.i .i64 0,.nilsl,.s [111,115,108,111],.i .i64 60,.sl [.i .i64 1441500,.i .i64 120,.i .i64 1444000,.i .i64 60] 2 true,.s [121,111,114,107],.i .i64 (-300),.sl [.i .i64 1442900,.i .i64 (-240)] 1 true] 3 true
def BL:T:= .sl [.s [65,65,65],.s [117,116,99],.s [66,66,66],.s [111,115,108,111],.s [67,67,67],.s [121,111,114,107]] 3 true
def gpT:T:= .sl [.i .i64 30,.i .i64 45,.i .i64 45,.i .i64 60,.i .i64 90,.i .i64 150,.i .i64 600,.i .i64 780] 8 true
def tyT:T:= .sl [.s [97,51,50,48],.s [98,55,51,55],.s [101,49,57,48]] 3 true
def cdT:T:= .sl [.s [65,65,65],.s [66,66,66],.s [67,67,67]] 3 true
theorem axx(r:Int)(h0:0≤r)(D:r<8): ∃q,∀kk,iaV gpT (.i kk r) 1=some (.vp (.i .i64 (Bi r.toNat)::q)):=by
 have:r=0∨r=1∨r=2∨r=3∨r=4∨r=5∨r=6∨r=7:=zZ
 rcases this with rfl|rfl|rfl|rfl|rfl|rfl|rfl|rfl <;> exact⟨_,fun _=>rfl⟩
theorem axy(r:Int)(h0:0≤r)(D:r<3): ∃q,∀kk,iaV tyT (.i kk r) 1=some (.vp (.s (Yr r.toNat)::q)):=by
 have:r=0∨r=1∨r=2:=zZ
 rcases this with rfl|rfl|rfl <;> exact⟨_,fun _=>rfl⟩
theorem YA(x:Nat)(h:x≤2): ∃q,∀kk,iaV cdT (.i kk (x:Int)) 1=some (.vp (.s (rM x)::q)):=by
 have:x=0∨x=1∨x=2:=zZ
 rcases this with rfl|rfl|rfl <;> exact⟨_,fun _=>rfl⟩
theorem al1:ae pE 63 [] []=some (cdT,[]):=by
 rw[av aiU (by simp[c63])]
 unfold cdT
 simp(maxDischargeDepth:=6) only[qA,seval,c63,repl]
theorem aDn(k:Nat)(h:k<256):abm (.sl [.i .u8 (k:Int)] 1 true)=some (.s [k]):=by
 show(if k<256 then some (T.s [k])else none)=_
 rw[if_pos h]
theorem ttG{HP:aE ah}{r zT aT:T}{D:List T}{F:List Fl}{y:Fl}{i g:Nat}(h:bh HP r 91 9 (i+1) (F.flatMap sV++D))(e:sV y=D): ∃v,bh HP v 91 9 (i+1) ((F++ [y]).flatMap sV)∧(⟨g,.cells [zT,aT,r] 0 true⟩:ah)=⟨g,.cells [zT,aT,v] 0 true⟩:=by
 refine⟨r, ?_,rfl⟩
 rw[List.flatMap_append,List.flatMap_cons,List.flatMap_nil,List.append_nil,e]
 exact h
theorem Jy(i:Nat)(n:Int)(x:Nat)(r:Int){A B:Nat}(ha:N8 n x=A)(hb:yl n x=B):sV (pJ i n x r)= [.s [70,48+i],.s (rM A),.s (rM B),.i .i64 (rN n r),.i .i64 (DH n r),.s (Yr (n/1024%3).toNat),.i .i64 1,.i .i64 1,.i .i64 2]:=by
 subst ha hb
 rfl
section
variable(xs:List Int)(la:T)(hl:IsSl la xs.length (ints xs))
include hl
theorem ttl(V:Int)(DJ:1440000≤V)(yL:V≤1441425)(zT aT:T)(g:Nat)(fr:Fr)(lh:aE ah)(sh:List ah)(h0:aa fr 0=la)(h3:aa fr 3= .ptr .L 3 g 0)(h4:aa fr 4= .i .i64 0)(h5:aa fr 5= .i .i64 V)(h6:aa fr 6=gpT)(h7:aa fr 7=tyT)(h8:aa fr 8= .i .i64 0)(W:ab lh 3=⟨g,.cells [zT,aT,.nilsl] 0 true⟩):
  Lp pE 102 jb fr lh sh (.ext 0) fun f l s=>s=sh∧ab l 2=ab lh 2∧ ∃v,bh l v 91 9 (po (bE xs)) ((iO (bE xs) (po (bE xs)) 0 0 V).flatMap sV)∧ab l 3=⟨g,.cells [zT,aT,v] 0 true⟩:=by
 refine cm GM (fun i f l s=>aa f 8= .i .i64 (i:Int)∧aa f 4= .i .i64 ((pa (bE xs) i 0 0 V).1:Int)∧aa f 5= .i .i64 (pa (bE xs) i 0 0 V).2∧s=sh∧ab l 2=ab lh 2∧ ∃v,bh l v 91 9 i ((iO (bE xs) i 0 0 V).flatMap sV)∧ab l 3=⟨g,.cells [zT,aT,v] 0 true⟩) (po (bE xs)) ⟨h8,h4,h5,rfl,rfl,.nilsl,bh.nil,W⟩ ?_ ?_
 ·rintro i f l _ hi Y ⟨Z,g4,g5,rfl,o2,v,hO,W⟩
  have hn:=mP (bE xs)
  have a1:=ja la xs hl 1 zZ
  have ew:=ja la xs hl (2+i) zZ
  have n1:=qn xs 1
  have n2:=qn xs (2+i)
  have Z1:(i:Int)<2+bE xs 1%6:=by unfold po at hi;omega
  have t1:(bE xs 1).tmod 6=bE xs 1%6:=dZ n1
  have w1:wr .i64 (2+bE xs 1%6)=2+bE xs 1%6:=bI zZ
  have w2:wr .i64 (2+(i:Int))=((2+i:Nat):Int):=by rw[bI zZ];omega
  have hw:=aG (k:=i) zZ
  have fv:=Jw (bE xs) i 0 0 V
  have xS:=Jv (bE xs) i 0 0 V
  have hrg:=Oo (bE xs) i 0 0 V zZ zZ zZ
  rw[Nat.zero_add]at fv xS
  obtain⟨r1,r2,r3⟩:=hrg
  rw[fv,xS]
  generalize (pa (bE xs) i 0 0 V).1=x at*
  generalize (pa (bE xs) i 0 0 V).2=ck at*
  generalize iO (bE xs) i 0 0 V=fs at*
  have Z2:ae pE 23 [la,.i .i64 1] []=some (.i .i64 (bE xs 1),[]):=a1
  generalize bE xs 1=m1 at*
  generalize bE xs (2+i)=n at*
  have t7:n.tmod 7=n%7:=dZ n2
  have t11:n.tmod 11=n%11:=dZ n2
  have t5:n.tmod 5=n%5:=dZ n2
  have t2:(n/8).tmod 2=n/8%2:=dZ zZ
  have t8:(n/16).tmod 8=n/16%8:=dZ zZ
  have t6:(n/128).tmod 6=n/128%6:=dZ zZ
  have t3:(n/1024).tmod 3=n/1024%3:=dZ zZ
  obtain⟨q1,e1⟩:=axx (n/16%8) zZ zZ
  obtain⟨q2,e2⟩:=axy (n/1024%3) zZ zZ
  obtain⟨g1,g2⟩:=nO (n/16%8).toNat
  obtain⟨u1,u2,u3⟩:=FF n x r1
  obtain⟨q3,e3⟩:=YA (N8 n x) u3
  obtain⟨q4,e4⟩:=YA (yl n x) u2
  have wE:=al1
  have hdp:rN n ck=ck+Bi (n/16%8).toNat:=rfl
  have eN:DH n ck=rN n ck+60+15*(n/128%6):=rfl
  have hz:=hl.froz
  have hi6:i≤6:=zZ
  have I:wr .i64 (48+(i:Int))=((48+i:Nat):Int):=by rw[bI zZ];omega
  have w8:wr .u8 ((48+i:Nat):Int)=((48+i:Nat):Int):=by
   have:i=0∨i=1∨i=2∨i=3∨i=4∨i=5∨i=6:=zZ
   rcases this with rfl|rfl|rfl|rfl|rfl|rfl|rfl <;> rfl
  have te:=aDn (48+i) zZ
  have w9:wr .i64 (ck+Bi (n/16%8).toNat)=rN n ck:=by rw[bI zZ];rfl
  have K:wr .i64 (rN n ck+60)=rN n ck+60:=bI zZ
  have O:wr .i64 (15*(n/128%6))=15*(n/128%6):=bI zZ
  have R:wr .i64 (rN n ck+60+15*(n/128%6))=DH n ck:=by rw[bI zZ];rfl
  have w13:wr .i64 (rN n ck+20)=rN n ck+20:=bI zZ
  have w14:wr .i64 (1+n/8%2)=1+n/8%2:=bI zZ
  have F:=fun(ps:List T) (jY:ps.length=9) (aU:aE ah) (aX:List ah) (e:ab aU 91=ab l 91)=>dV (bytes:=104) (sh:=aX) (hO.congr e) ps jY (by unfold roomy;omega) true
  have U:=fun ps jY aU aX e=>(F ps jY aU aX e).2.1.cells
  have BD:=fun ps jY aU aX e=>(F ps jY aU aX e).2.1.noTup
  have nY:=hO.notS
  obtain⟨G,hG⟩: ∃G,(ab l 12).g+1=G:=⟨_,rfl⟩
  have e0:iaV cdT (.i .i64 0) 1=some (.vp [.s (rM 0),.s (rM 1),.s (rM 2)]):=rfl
  have e8: ∃q,iaV cdT (.i .i64 (1+n/8%2)) 1=some (.vp (.s (rM (1+(n/8%2).toNat))::q)):=by
   obtain⟨q,h⟩:=YA (1+(n/8%2).toNat) zZ
   refine⟨q, ?_⟩
   have:(1+n/8%2:Int)=((1+(n/8%2).toNat:Nat):Int):=zZ
   rw[this]
   exact h .i64
  obtain⟨q8,e8⟩:=e8
  generalize cdT=cdT at*
  by_cases hA:n%7=6
  ·have ha:N8 n x=0:=if_pos hA
   have Jz:yl n x=1+(n/8%2).toNat:=by unfold yl;rw[if_pos ha]
   have r:(1+n/8%2:Int)=((yl n x:Nat):Int):=by rw[Jz];omega
   by_cases D:n%5=4
   ·have hc:ym n ck=rN n ck+20:=if_pos D
    simp(maxDischargeDepth:=6) only[qA,seval,gd,repl,bj,aH,jb,Y,h0,h3,h6,h7,Z,g5,W,Z2,ew,t1,w1,w2,Z1,hw,hz,t7,t5,t2,t8,t6,t3,e1,e2,e0,e8,wE,I,w8,te,w9,K,O,R,w13,w14,F,U,BD,nY,hG,hA,D,Jx,xT,mW,Hr,Hs,xL,jI]
    exact⟨congrArg (T.i .i64) r,congrArg (T.i .i64) (hc.symm),o2,ttG ((dN zz).mpr (F _ rfl _ _ yW).2.1) (Jy i n x ck ha Jz)⟩
   ·have hc:ym n ck=DH n ck:=if_neg D
    simp(maxDischargeDepth:=6) only[qA,seval,gd,repl,bj,aH,jb,Y,h0,h3,h6,h7,Z,g5,W,Z2,ew,t1,w1,w2,Z1,hw,hz,t7,t5,t2,t8,t6,t3,e1,e2,e0,e8,wE,I,w8,te,w9,K,O,R,w14,F,U,BD,nY,hG,hA,D,Jx,xT,mW,Hr,Hs,xL,jI]
    exact⟨congrArg (T.i .i64) r,congrArg (T.i .i64) (hc.symm),o2,ttG ((dN zz).mpr (F _ rfl _ _ yW).2.1) (Jy i n x ck ha Jz)⟩
  ·have X:N8 n x=x:=if_neg hA
   by_cases hx:x=0
   ·subst hx
    have ha:N8 n 0=0:=X
    have Jz:yl n 0=1+(n/8%2).toNat:=by unfold yl;rw[if_pos ha]
    have r:(1+n/8%2:Int)=((yl n 0:Nat):Int):=by rw[Jz];omega
    have g4:aa f 4= .i .i64 0:=g4
    by_cases D:n%5=4
    ·have hc:ym n ck=rN n ck+20:=if_pos D
     simp(maxDischargeDepth:=6) only[qA,seval,gd,repl,bj,aH,jb,Y,h0,h3,h6,h7,Z,g4,g5,W,Z2,ew,t1,w1,w2,Z1,hw,hz,t7,t5,t2,t8,t6,t3,e1,e2,e0,e8,wE,I,w8,te,w9,K,O,R,w13,w14,F,U,BD,nY,hG,hA,D,Jx,xT,mW,Hr,Hs,xL,jI]
     exact⟨congrArg (T.i .i64) r,congrArg (T.i .i64) (hc.symm),o2,ttG ((dN zz).mpr (F _ rfl _ _ yW).2.1) (Jy i n 0 ck ha Jz)⟩
    ·have hc:ym n ck=DH n ck:=if_neg D
     simp(maxDischargeDepth:=6) only[qA,seval,gd,repl,bj,aH,jb,Y,h0,h3,h6,h7,Z,g4,g5,W,Z2,ew,t1,w1,w2,Z1,hw,hz,t7,t5,t2,t8,t6,t3,e1,e2,e0,e8,wE,I,w8,te,w9,K,O,R,w14,F,U,BD,nY,hG,hA,D,Jx,xT,mW,Hr,Hs,xL,jI]
     exact⟨congrArg (T.i .i64) r,congrArg (T.i .i64) (hc.symm),o2,ttG ((dN zz).mpr (F _ rfl _ _ yW).2.1) (Jy i n 0 ck ha Jz)⟩
   ·have ha:N8 n x=x:=X
    have hx': ¬((x:Nat):Int)=0:=zZ
    rw[X]at e3
    by_cases hE:n%11=10
    ·have Jz:yl n x=3-x:=by unfold yl;rw[X,if_neg hx,if_pos hE]
     have w15:wr .i64 (3-(x:Int))=3-(x:Int):=bI zZ
     have e6: ∃q,iaV cdT (.i .i64 (3-(x:Int))) 1=some (.vp (.s (rM (3-x))::q)):=⟨q4,by
      have:(3-(x:Int))=((yl n x:Nat):Int):=by rw[Jz];omega
      rw[this,←Jz];exact e4 .i64⟩
     obtain⟨q6,e6⟩:=e6
     have r:(3-(x:Int))=((yl n x:Nat):Int):=by rw[Jz];omega
     by_cases D:n%5=4
     ·have hc:ym n ck=rN n ck+20:=if_pos D
      simp(maxDischargeDepth:=6) only[qA,seval,gd,repl,bj,aH,jb,Y,h0,h3,h6,h7,Z,g4,g5,W,Z2,ew,t1,w1,w2,Z1,hw,hz,t7,t11,t5,t8,t6,t3,e1,e2,wE,I,w8,te,w9,K,O,R,w13,F,U,BD,nY,hG,hA,D,Jx,xT,mW,Hr,Hs,xL,jI,hx',hE,w15,e3,e6]
      exact⟨congrArg (T.i .i64) r,congrArg (T.i .i64) (hc.symm),o2,ttG ((dN zz).mpr (F _ rfl _ _ yW).2.1) (Jy i n x ck ha Jz)⟩
     ·have hc:ym n ck=DH n ck:=if_neg D
      simp(maxDischargeDepth:=6) only[qA,seval,gd,repl,bj,aH,jb,Y,h0,h3,h6,h7,Z,g4,g5,W,Z2,ew,t1,w1,w2,Z1,hw,hz,t7,t11,t5,t8,t6,t3,e1,e2,wE,I,w8,te,w9,K,O,R,F,U,BD,nY,hG,hA,D,Jx,xT,mW,Hr,Hs,xL,jI,hx',hE,w15,e3,e6]
      exact⟨congrArg (T.i .i64) r,congrArg (T.i .i64) (hc.symm),o2,ttG ((dN zz).mpr (F _ rfl _ _ yW).2.1) (Jy i n x ck ha Jz)⟩
    ·have Jz:yl n x=0:=by unfold yl;rw[X,if_neg hx,if_neg hE]
     have r:(0:Int)=((yl n x:Nat):Int):=by rw[Jz];rfl
     by_cases D:n%5=4
     ·have hc:ym n ck=rN n ck+20:=if_pos D
      simp(maxDischargeDepth:=6) only[qA,seval,gd,repl,bj,aH,jb,Y,h0,h3,h6,h7,Z,g4,g5,W,Z2,ew,t1,w1,w2,Z1,hw,hz,t7,t11,t5,t8,t6,t3,e1,e2,e0,wE,I,w8,te,w9,K,O,R,w13,F,U,BD,nY,hG,hA,D,Jx,xT,mW,Hr,Hs,xL,jI,hx',hE,e3]
      exact⟨congrArg (T.i .i64) r,congrArg (T.i .i64) (hc.symm),o2,ttG ((dN zz).mpr (F _ rfl _ _ yW).2.1) (Jy i n x ck ha Jz)⟩
     ·have hc:ym n ck=DH n ck:=if_neg D
      simp(maxDischargeDepth:=6) only[qA,seval,gd,repl,bj,aH,jb,Y,h0,h3,h6,h7,Z,g4,g5,W,Z2,ew,t1,w1,w2,Z1,hw,hz,t7,t11,t5,t8,t6,t3,e1,e2,e0,wE,I,w8,te,w9,K,O,R,F,U,BD,nY,hG,hA,D,Jx,xT,mW,Hr,Hs,xL,jI,hx',hE,e3]
      exact⟨congrArg (T.i .i64) r,congrArg (T.i .i64) (hc.symm),o2,ttG ((dN zz).mpr (F _ rfl _ _ yW).2.1) (Jy i n x ck ha Jz)⟩
 ·rintro f l _ Y ⟨Z,g4,g5,rfl,o2,v,hO,W⟩
  have hn:=mP (bE xs)
  have a1:=ja la xs hl 1 zZ
  have n1:=qn xs 1
  have t1:(bE xs 1).tmod 6=bE xs 1%6:=dZ n1
  have w1:wr .i64 (2+bE xs 1%6)=2+bE xs 1%6:=bI zZ
  have Z1: ¬((po (bE xs):Nat):Int)<2+bE xs 1%6:=by unfold po;omega
  have Z2:ae pE 23 [la,.i .i64 1] []=some (.i .i64 (bE xs 1),[]):=a1
  have hz:=hl.froz
  simp(maxDischargeDepth:=6) only[qA,seval,gd,jb,Y,h0,Z,Z2,t1,w1,Z1,hz,mW]
  exact⟨o2,v,hO,W⟩
omit hl in
theorem al2:ae pE 32 [] []=some (BK,[])∧ae pE 33 [] []=some (BL,[]):=by
 refine⟨?_, ?_⟩
 ·rw[av asz (by simp[c32])]
  unfold BK
  simp(maxDischargeDepth:=6) only[qA,seval,c32,repl]
 ·rw[av asA (by simp[c33])]
  unfold BL
  simp(maxDischargeDepth:=6) only[qA,seval,c33,repl]
theorem al4: ∃v,ae pE 24 [la] []=some (.agg [BK,BL,v],[])∧v=bG (po (bE xs)) ((mB (bE xs)).fl.flatMap sV):=by
 refine⟨_, ?_,rfl⟩
 have h0:ae pE 23 [la,.i .i64 0] []=some (.i .i64 (bE xs 0),[]):=ja la xs hl 0 zZ
 have X:=qn xs 0
 have U:=fun fr lh sh h0 h3 h4 h5 h6 Y Z I=>ttl xs la hl (1440000+15*(bE xs 0%96)) zZ zZ BK BL 1 fr lh sh h0 h3 h4 h5 h6 Y Z I
 have t0:(bE xs 0).tmod 96=bE xs 0%96:=dZ X
 have w0:wr .i64 (15*(bE xs 0%96))=15*(bE xs 0%96):=bI zZ
 have w1:wr .i64 (1440000+15*(bE xs 0%96))=1440000+15*(bE xs 0%96):=bI zZ
 obtain⟨z1,z2⟩:=al2
 have hz:=hl.froz
 have k1:froz1 BK=true:=rfl
 have k2:froz1 BL=true:=rfl
 have k3:froz BK=true:=rfl
 have k4:froz BL=true:=rfl
 have k5:cellsOf BK= [BK]:=rfl
 have k6:cellsOf BL= [BL]:=rfl
 have k7:noTup BK=true:=rfl
 have k8:noTup BL=true:=rfl
 rw[av asw (by simp[c24])]
 have r:gpT= .sl [.i .i64 30,.i .i64 45,.i .i64 45,.i .i64 60,.i .i64 90,.i .i64 150,.i .i64 600,.i .i64 780] 8 true:=rfl
 have F:tyT= .sl [.s [97,51,50,48],.s [98,55,51,55],.s [101,49,57,48]] 3 true:=rfl
 unfold mB
 simp only
 generalize BK=zT at*
 generalize BL=aT at*
 simp(maxDischargeDepth:=6) only[qA,seval,c24,repl,z1,z2,h0,t0,w0,w1,hz,k5,k6,k7,k8,mW,aAx,aAy,←r,←F]
 generalize hD:DC pE 102 (.loop jb) _=D
 obtain⟨V,W,s2,rfl,⟨rfl,o2,v,K,I⟩,O⟩:=sa GM hD (U _ _ _ yW yW yW yW (by simp only[qA,seval,r]) (by simp only[qA,seval,F]) yW yW)
 have q2:aa V 2= .ptr .L 2 1 0:=by rw[O 2 zz];simp only[qA,seval]
 have q3:aa V 3= .ptr .L 3 1 0:=by rw[O 3 zz];simp only[qA,seval]
 have R:ab W 2=⟨1,.cells [.nilsl,.nilsl,.nilsl] 0 true⟩:=by rw[o2];simp only[qA,seval]
 have ez:=fun e m sh keep=>bh.fzW (m:=m) (sh:=sh) (keep:=keep) (K.congr (bq W e (show(91:Nat)≠2 by decide)))
 have hcl:=K.cells
 have BD:=K.noTup
 clear O U
 simp(maxDischargeDepth:=6) only[qA,AK,seval,q2,q3,R,I,ez,k1,k2]
end
def atR(f:Nat→Int)(n:Nat):List Int:=(List.range n).map f
theorem Oq(f:Nat→Int)(n:Nat):(atR f n).length=n:=by simp[atR]
theorem YC(o:Nat→Int)(k:Nat):FL o (k+1)=if 0<o k%8 then FL o k++ [k]else FL o k:=by
 unfold FL
 rw[List.range_succ,List.filter_append]
 by_cases h:0<o k%8 <;> simp[h]
theorem aeh(o:Nat→Int)(n:Nat):(FL o n).length≤n:=by unfold FL;exact Nat.le_trans (List.length_filter_le _ _) zP
section
variable(xs:List Int)(l:T)(hl:IsSl l xs.length (ints xs))(zT aT fT:T)(N:Nat)(fc:List T)(hf:IsSl fT N fc)(hN:N≤1000)
include hl hf hN
theorem aDp(fr:Fr)(lh:aE ah)(sh:List ah)(h1:aa fr 1=l)(h2:aa fr 2= .ptr .L 2 1 0)(h5:aa fr 5= .nilsl)(h6:aa fr 6= .i .i64 0)(o2:ab lh 2=⟨1,.cells [zT,aT,fT] 0 true⟩):
  Lp pE 24 si fr lh sh (.ext 0) fun f q s=>s=sh∧bh q (aa f 5) 22 1 (FL (bE xs) N).length (ints ((FL (bE xs) N).map Int.ofNat))∧ab q 2=⟨1,.cells [zT,aT,fT] 0 true⟩:=by
 have R:=hf.lenI
 refine cm GN (fun k f q s=>aa f 6= .i .i64 (k:Int)∧s=sh∧bh q (aa f 5) 22 1 (FL (bE xs) k).length (ints ((FL (bE xs) k).map Int.ofNat))∧ab q 2=⟨1,.cells [zT,aT,fT] 0 true⟩) N ⟨h6,rfl,by rw[h5];exact bh.nil,o2⟩ ?_ ?_
 ·rintro k f q _ hk I ⟨K,rfl,D,Gt⟩
  have F:(k:Int)<N:=zZ
  have W:=aG (k:=k) zZ
  have e1:=ja l xs hl k zZ
  have O:=Gt
  have X:=hl.froz
  have Y:=aeh (bE xs) k
  have U:=qn xs k
  have V:=fun(aU:aE ah) (aX:List ah) (e:ab aU 22=ab q 22)=>dV (sh:=aX) (D.congr e) [.i .i64 (k:Int)] rfl (bytes:=8) (by unfold roomy;omega) true
  have Z:=D.notS
  have ht:(bE xs k).tmod 8=bE xs k%8:=dZ U
  rw[YC]
  generalize FL (bE xs) k=r at*
  generalize Ri:aa f 5=v5 at D V Z
  by_cases hb:0<bE xs k%8
  ·simp(maxDischargeDepth:=6) only[qA,seval,gd,si,I,h1,h2,K,O,R,F,W,e1,ht,hb,mW,X,Ri,V,Z,repl]
   obtain⟨_,k1,k2⟩:=V q _ rfl
   rw[show ints ((r++ [k]).map Int.ofNat)=ints (r.map Int.ofNat)++ [.i .i64 (k:Int)]by simp[ints],show(r++ [k]).length=r.length+1 by simp]
   exact by first|exact k1|exact⟨k1,(k2 2 zz).trans Gt⟩
  ·simp(maxDischargeDepth:=6) only[qA,seval,gd,si,I,h1,h2,K,O,R,F,W,e1,ht,hb,mW,X,Ri]
   exact D
 ·rintro f q _ I ⟨K,rfl,D,Gt⟩
  have O:=Gt
  simp only[qA,seval,gd,si,I,h2,O,K,R,Int.lt_irrefl]
  exact D
theorem al5(r:froz1 zT=true∧froz1 aT=true∧froz1 fT=true):ae pE 27 [.agg [zT,aT,fT],l] []=some (bG (FL (bE xs) N).length (ints ((FL (bE xs) N).map Int.ofNat)),[]):=by
 have F:=fun fr lh sh=>aDp xs l hl zT aT fT N fc hf hN fr lh sh
 obtain⟨O,R,U⟩:=r
 rw[av aiK (by simp[c27])]
 simp(maxDischargeDepth:=6) only[qA,seval,c27]
 generalize I:DC pE 24 (.loop si) _=D
 obtain⟨V,W,s2,rfl,⟨rfl,K,Gt⟩,X⟩:=sa GN I (F _ _ _ yW yW yW yW yW)
 have e:=K.fzV (sh:=([]:List ah)) (keep:=false)
 simp(maxDischargeDepth:=6) only[qA,AK,seval,e]
end
def mQ:List (List Nat):= [[100,117,116,121,32,114,117,108,101,32,115,105,122,101,32,105,115,32,108,101,103,115,32,43,32,104,101,97,100,115,32,60,61,32,51],
 [100,117,116,121,32,114,117,108,101,32,115,112,97,110,32,105,115,32,115,112,97,110,32,60,61,32,49,51,58,48,48,32,45,32,48,58,51,48,32,42,32,40,108,101,103,115,32,45,32,49,41],
 [100,117,116,121,32,114,117,108,101,32,110,105,103,104,116,32,105,115,32,115,116,97,114,116,32,105,110,32,64,50,50,58,48,48,32,116,111,32,64,48,53,58,48,48,32,105,109,112,108,105,101,115,32,115,112,97,110,32,60,61,32,56,58,48,48],
 [100,117,116,121,32,114,117,108,101,32,98,108,111,99,107,32,105,115,32,98,108,111,99,107,32,60,61,32,54,58,48,48],
 [100,117,116,121,32,114,117,108,101,32,116,121,112,101,115,32,105,115,32,116,121,112,101,115,32,60,61,32,49],
 [100,117,116,121,32,114,117,108,101,32,111,100,100,32,105,115,32,108,101,103,115,32,61,32,49,32,111,114,32,108,101,103,115,32,61,32,51,32,111,114,32,104,101,97,100,115,32,61,32,49],
 [100,117,116,121,32,114,117,108,101,32,103,97,112,32,105,115,32,108,111,110,103,101,115,116,32,60,61,32,50,58,48,48,32,111,114,32,54,58,48,48,32,60,61,32,115,112,97,110],
 [114,101,115,116,32,114,117,108,101,32,108,101,97,115,116,32,105,115,32,56,58,48,48,32,60,61,32,114,101,115,116],
 [114,101,115,116,32,114,117,108,101,32,98,101,102,111,114,101,32,105,115,32,109,97,120,40,54,58,48,48,44,32,98,101,102,111,114,101,46,115,112,97,110,41,32,60,61,32,114,101,115,116],
 [114,101,115,116,32,114,117,108,101,32,110,105,103,104,116,115,32,105,115,32,110,105,103,104,116,115,32,60,61,32,49,32,111,114,32,104,111,109,101],
 [114,101,115,116,32,114,117,108,101,32,104,111,109,101,32,105,115,32,104,111,109,101,32,105,109,112,108,105,101,115,32,114,101,115,116,32,60,61,32,50,48,58,48,48],
 [114,101,115,116,32,114,117,108,101,32,97,102,116,101,114,32,105,115,32,97,102,116,101,114,46,115,116,97,114,116,32,105,110,32,64,48,54,58,48,48,32,116,111,32,64,50,48,58,48,48,32,111,114,32,57,58,48,48,32,60,61,32,114,101,115,116],
 [112,97,105,114,105,110,103,32,114,117,108,101,32,100,97,121,115,32,105,115,32,100,97,121,115,32,60,61,32,51],
 [112,97,105,114,105,110,103,32,114,117,108,101,32,100,117,116,105,101,115,32,105,115,32,100,117,116,105,101,115,32,60,61,32,51],
 [112,97,105,114,105,110,103,32,114,117,108,101,32,98,108,111,99,107,32,105,115,32,98,108,111,99,107,32,60,61,32,57,58,48,48],
 [112,97,105,114,105,110,103,32,114,117,108,101,32,99,114,101,100,105,116,32,105,115,32,99,114,101,100,105,116,32,60,61,32,49,50,58,48,48],
 [112,97,105,114,105,110,103,32,114,117,108,101,32,115,112,97,110,32,105,115,32,115,112,97,110,32,60,61,32,53,48,58,48,48],
 [112,97,105,114,105,110,103,32,114,117,108,101,32,108,101,103,115,32,105,115,32,50,32,60,61,32,108,101,103,115]]
def mU:List (List Nat):= [[100,117,116,121,32,99,111,115,116,32,105,115,32,49,48,48,32,43,32,49,48,32,42,32,108,101,103,115],
 [100,117,116,121,32,99,111,115,116,32,105,115,32,40,115,112,97,110,32,45,32,98,108,111,99,107,41,32,47,32,48,58,49,53],
 [100,117,116,121,32,99,111,115,116,32,105,115,32,105,102,32,110,105,103,104,116,32,60,61,32,50,58,48,48,32,116,104,101,110,32,48,32,101,108,115,101,32,51,48],
 [114,101,115,116,32,99,111,115,116,32,105,115,32,105,102,32,104,111,109,101,32,116,104,101,110,32,48,32,101,108,115,101,32,53,48],
 [114,101,115,116,32,99,111,115,116,32,105,115,32,114,101,115,116,32,47,32,49,58,48,48],
 [112,97,105,114,105,110,103,32,99,111,115,116,32,105,115,32,50,48,32,42,32,100,97,121,115],
 [112,97,105,114,105,110,103,32,99,111,115,116,32,105,115,32,109,97,120,40,48,58,48,48,44,32,99,114,101,100,105,116,32,45,32,56,58,48,48,41,32,47,32,48,58,51,48],
 [100,117,116,121,32,99,111,115,116,32,105,115,32,45,40,53,32,42,32,104,101,97,100,115,41],
 [100,117,116,121,32,99,111,115,116,32,105,115,32,116,121,112,101,115,32,42,32,116,121,112,101,115],
 [112,97,105,114,105,110,103,32,99,111,115,116,32,105,115,32,45,40,51,32,42,32,108,101,103,115,41,32,43,32,115,104,105,102,116,115]]
def rO:List (List Nat):= [[100,117,116,121,32,99,114,101,100,105,116,32,105,115,32,109,97,120,40,98,108,111,99,107,44,32,52,58,48,48,41],
 [100,117,116,121,32,99,114,101,100,105,116,32,105,115,32,115,112,97,110,32,47,32,50],
 [100,117,116,121,32,99,114,101,100,105,116,32,105,115,32,98,108,111,99,107,32,43,32,48,58,50,48,32,42,32,108,101,103,115]]
def AZ(r:Int):List Nat:=([[48,58,48,48],[48,58,52,53],[49,58,48,48]]:List (List Nat)).getD r.toNat []
def Ec(r:Int):List Nat:=([[48,58,48,48],[48,58,49,53],[48,58,51,48]]:List (List Nat)).getD r.toNat []
def wD(r:Int):List Nat:=([[48,58,51,48],[48,58,52,48],[48,58,49,53]]:List (List Nat)).getD r.toNat []
def RI(r:Int):List Nat:=([[51,58,48,48],[50,52,58,48,48],[49,58,48,48]]:List (List Nat)).getD r.toNat []
def hv4(r:Int):List Nat:=([[50,52,58,48,48],[49,54,58,48,48],[51,54,58,48,48]]:List (List Nat)).getD r.toNat []
def Ri(r:Int):List Nat:=([[64,50,50,58,48,48,32,116,111,32,64,48,54,58,48,48],[64,48,48,58,48,48,32,116,111,32,64,48,53,58,48,48],[64,49,50,58,48,48,32,116,111,32,64,49,50,58,48,48]]:List (List Nat)).getD r.toNat []
def hv6(r:Int):List Nat:=([[50],[55,32,47,32,50],[45,40,49,41]]:List (List Nat)).getD r.toNat []
def Z3(b:Nat→Int):List (List Nat):= [[114,101,112,111,114,116,32]++AZ (b 0%3),[114,101,108,101,97,115,101,32]++Ec (b 1%3),[99,111,110,110,101,99,116,32]++wD (b 2%3),[115,105,116,32]++RI (b 3%3),[108,97,121,111,118,101,114,32]++hv4 (b 4%3),[110,105,103,104,116,32]++Ri (b 5%3),[99,111,110,115,116,32,115,104,105,102,116,115,32,105,115,32]++hv6 (b 6%3)]
def crD(b:Nat→Int):List (List Nat):=if b 41%4<3 then [rO.getD (b 41%4).toNat []]else []
def yM(b:Nat→Int)(i:Nat):Bool:=decide (b (7+i)%4=0)
def FM(b:Nat→Int)(i:Nat):Bool:=decide (b (30+i)%3=0)
def Rj(b:Nat→Int):List (List Nat):=Z3 b++cX (yM b) 0 mQ++cX (FM b) 0 mU++crD b
theorem JA{α:Type}(p:Nat→Bool): ∀(i:Nat) (a b:List α),cX p i (a++b)=cX p i a++cX p (i+a.length) b
 |_,[],b=>rfl
 |i,x::a,b=>by
  rw[List.cons_append,cX,cX,JA p (i+1) a b,List.length_cons,show i+1+a.length=i+(a.length+1)by omega]
  split <;> simp
theorem rm{α:Type}(p:Nat→Bool)(l:List α)(k:Nat)(hk:k<l.length):cX p 0 (l.take (k+1))=cX p 0 (l.take k)++if p k=true then [l[k]]else []:=by
 rw[List.take_succ_eq_append_getElem hk,JA,List.length_take,Nat.min_eq_left zZ,Nat.zero_add,cX]
 rfl
theorem vh(a b:List (List Nat)):j6 (a++b)=j6 a++j6 b:=by unfold j6;rw[List.flatMap_append]
theorem FN(a:List Nat):j6 [a]=a++ [10]:=by simp[j6]
theorem Bn(a b c:List Nat)(r:Int)(h0:0≤r)(h3:r<3): ∃q,∀kk,iaV (.sl [.s a,.s b,.s c] 3 true) (.i kk r) 1=some (.vp (.s (([a,b,c]:List (List Nat)).getD r.toNat [])::q)):=by
 have:r=0∨r=1∨r=2:=zZ
 rcases this with rfl|rfl|rfl <;> exact⟨_,fun _=>rfl⟩
theorem vi{v:T}{L:List (List Nat)}(r:IsSl v L.length (strs L))(k:Nat)(hk:k<L.length): ∃q,∀kk,iaV v (.i kk (k:Int)) 1=some (.vp (.s L[k]::q)):=by
 refine⟨(strs L).drop (k+1),fun kk=> ?_⟩
 rw[r.ia (sz:=1) (by simp[strs]) hk,Nat.mul_one,List.drop_eq_getElem_cons (by simp[strs];exact hk)]
 simp[strs]
theorem al7:ae pE 119 [] []=some (.sl (strs mQ) 18 true,[]):=by
 rw[av afg (by simp[Sr])]
 simp(maxDischargeDepth:=6) only[qA,seval,Sr,repl,strs,mQ]
theorem al8:ae pE 120 [] []=some (.sl (strs mU) 10 true,[]):=by
 rw[av afh (by simp[Ss])]
 simp(maxDischargeDepth:=6) only[qA,seval,Ss,repl,strs,mU]
theorem al9:ae pE 121 [] []=some (.sl (strs rO) 3 true,[]):=by
 rw[av afi (by simp[Su])]
 simp(maxDischargeDepth:=6) only[qA,seval,Su,repl,strs,rO]
theorem Ot: ∀(r:List (List Nat)),(∀l∈r,l.length≤100)→(j6 r).length≤r.length*101
 | [],_=>by simp[j6]
 |x::m,D=>by
  have h1:=D x List.mem_cons_self
  have h2:=Ot m fun l hl=>D l (List.mem_cons_of_mem _ hl)
  have e:j6 (x::m)=x++ [10]++j6 m:=by simp[j6]
  rw[e,List.length_append,List.length_append,List.length_singleton,List.length_cons]
  omega
theorem yN(p:Nat→Bool)(l:List (List Nat))(h: ∀x∈l,x.length≤100)(k:Nat):(j6 (cX p 0 (l.take k))).length≤k*101:=by
 have h1:=(dW p 0 (l.take k)).length_le
 have h2:=Ot (cX p 0 (l.take k)) fun x hx=>h x (List.mem_of_mem_take ((dW p 0 (l.take k)).subset hx))
 have h3:(l.take k).length≤k:=by rw[List.length_take];omega
 have h4:(cX p 0 (l.take k)).length*101≤k*101:=Nat.mul_le_mul_right _ zZ
 omega
theorem FO: ∀x∈mQ,x.length≤100:=zz
theorem FQ: ∀x∈mU,x.length≤100:=zz
theorem aej: ∀x∈rO,x.length≤100:=zz
theorem sY(a b c:List Nat)(n:Nat)(h:a.length≤20∧b.length≤20∧c.length≤20):(([a,b,c]:List (List Nat)).getD n []).length≤20:=by
 match n with
 |0=>exact h.1
 |1=>exact h.2.1
 |2=>exact h.2.2
 |n+3=>simp
section
variable(xs:List Int)(la:T)(hl:IsSl la xs.length (ints xs))
include hl
theorem aDq(K:List Nat)(hs0:K.length≤5000)(fr:Fr)(lh:aE ah)(sh:List ah)(h0:aa fr 0=la)(h3:aa fr 3= .s K)(h4:aa fr 4= .sl (strs mQ) 18 true)(h5:aa fr 5= .i .i64 0):
  Lp pE 119 su fr lh sh (.ext 0) fun f l s=>s=sh∧l=lh∧aa f 3= .s (K++j6 (cX (yM (bE xs)) 0 mQ)):=by
 have Gr:mQ.length=18:=rfl
 have U:IsSl (T.sl (strs mQ) 18 true) mQ.length (strs mQ):= .inr ⟨_,rfl⟩
 have W:=hl.froz
 generalize T.sl (strs mQ) 18 true=v at*
 refine cm G2 (fun k f l s=>aa f 5= .i .i64 (k:Int)∧s=sh∧l=lh∧aa f 3= .s (K++j6 (cX (yM (bE xs)) 0 (mQ.take k)))) 18 ⟨h5,rfl,rfl,by rw[h3];simp[cX,j6]⟩ ?_ ?_
 ·rintro k f _ _ hk O ⟨r,rfl,rfl,F⟩
  have I:(k:Int)<18:=zZ
  have X:=aG (k:=k) zZ
  have Y:=ja la xs hl (7+k) zZ
  have Z:wr .i64 (7+(k:Int))=((7+k:Nat):Int):=by rw[bI zZ];omega
  have hn:=qn xs (7+k)
  have t4:(bE xs (7+k)).tmod 4=bE xs (7+k)%4:=dZ hn
  obtain⟨q,V⟩:=vi U k zZ
  have D:=U.lenI
  rw[Gr]at D
  rw[rm _ _ k zZ]
  have hp:yM (bE xs) k=decide (bE xs (7+k)%4=0):=rfl
  rw[hp]
  have b1:=yN (yM (bE xs)) mQ FO k
  have b2:=FO mQ[k] (List.getElem_mem zZ)
  generalize cX (yM (bE xs)) 0 (mQ.take k)=S at*
  generalize mQ[k]=R at*
  by_cases hb:bE xs (7+k)%4=0
  ·simp(maxDischargeDepth:=6) only[qA,seval,gd,su,O,h0,h4,r,F,D,I,X,Y,Z,t4,V,W,hb,mW]
   simp[vh,FN,List.append_assoc]
   exact⟨fun _ h=>absurd h zZ,fun h=>absurd h zZ⟩
  ·simp(maxDischargeDepth:=6) only[qA,seval,gd,su,O,h0,h4,r,F,D,I,X,Y,Z,t4,W,hb,mW]
 ·rintro f _ _ O ⟨r,rfl,rfl,F⟩
  have D:=U.lenI
  rw[Gr]at D
  have ht:mQ.take 18=mQ:=rfl
  rw[ht]at F
  have r:aa f 5= .i .i64 18:=r
  simp only[qA,seval,gd,su,O,h4,r,D,Int.lt_irrefl]
  exact F
theorem aDr(K:List Nat)(hs0:K.length≤5000)(fr:Fr)(lh:aE ah)(sh:List ah)(h0:aa fr 0=la)(h3:aa fr 3= .s K)(h4:aa fr 6= .sl (strs mU) 10 true)(h5:aa fr 7= .i .i64 0):
  Lp pE 119 sr fr lh sh (.ext 2) fun f l s=>s=sh∧l=lh∧aa f 3= .s (K++j6 (cX (FM (bE xs)) 0 mU)):=by
 have Gr:mU.length=10:=rfl
 have U:IsSl (T.sl (strs mU) 10 true) mU.length (strs mU):= .inr ⟨_,rfl⟩
 have W:=hl.froz
 generalize T.sl (strs mU) 10 true=v at*
 refine cm G1 (fun k f l s=>aa f 7= .i .i64 (k:Int)∧s=sh∧l=lh∧aa f 3= .s (K++j6 (cX (FM (bE xs)) 0 (mU.take k)))) 10 ⟨h5,rfl,rfl,by rw[h3];simp[cX,j6]⟩ ?_ ?_
 ·rintro k f _ _ hk O ⟨r,rfl,rfl,F⟩
  have I:(k:Int)<10:=zZ
  have X:=aG (k:=k) zZ
  have Y:=ja la xs hl (30+k) zZ
  have Z:wr .i64 (30+(k:Int))=((30+k:Nat):Int):=by rw[bI zZ];omega
  have hn:=qn xs (30+k)
  have t4:(bE xs (30+k)).tmod 3=bE xs (30+k)%3:=dZ hn
  obtain⟨q,V⟩:=vi U k zZ
  have D:=U.lenI
  rw[Gr]at D
  rw[rm _ _ k zZ]
  have hp:FM (bE xs) k=decide (bE xs (30+k)%3=0):=rfl
  rw[hp]
  have b1:=yN (FM (bE xs)) mU FQ k
  have b2:=FQ mU[k] (List.getElem_mem zZ)
  generalize cX (FM (bE xs)) 0 (mU.take k)=S at*
  generalize mU[k]=R at*
  by_cases hb:bE xs (30+k)%3=0
  ·simp(maxDischargeDepth:=6) only[qA,seval,gd,sr,O,h0,h4,r,F,D,I,X,Y,Z,t4,V,W,hb,mW]
   simp[vh,FN,List.append_assoc]
   exact⟨fun _ h=>absurd h zZ,fun h=>absurd h zZ⟩
  ·simp(maxDischargeDepth:=6) only[qA,seval,gd,sr,O,h0,h4,r,F,D,I,X,Y,Z,t4,W,hb,mW]
 ·rintro f _ _ O ⟨r,rfl,rfl,F⟩
  have D:=U.lenI
  rw[Gr]at D
  have ht:mU.take 10=mU:=rfl
  rw[ht]at F
  have r:aa f 7= .i .i64 10:=r
  simp only[qA,seval,gd,sr,O,h4,r,D,Int.lt_irrefl]
  exact F
theorem aek:ae pE 65 [la] []=some (.s (j6 (Rj (bE xs))),[]):=by
 have h0:ae pE 23 [la,.i .i64 0] []=some (.i .i64 (bE xs 0),[]):=ja la xs hl 0 zZ
 have h1:ae pE 23 [la,.i .i64 1] []=some (.i .i64 (bE xs 1),[]):=ja la xs hl 1 zZ
 have h2:ae pE 23 [la,.i .i64 2] []=some (.i .i64 (bE xs 2),[]):=ja la xs hl 2 zZ
 have h3:ae pE 23 [la,.i .i64 3] []=some (.i .i64 (bE xs 3),[]):=ja la xs hl 3 zZ
 have h4:ae pE 23 [la,.i .i64 4] []=some (.i .i64 (bE xs 4),[]):=ja la xs hl 4 zZ
 have h5:ae pE 23 [la,.i .i64 5] []=some (.i .i64 (bE xs 5),[]):=ja la xs hl 5 zZ
 have h6:ae pE 23 [la,.i .i64 6] []=some (.i .i64 (bE xs 6),[]):=ja la xs hl 6 zZ
 have WZ:ae pE 23 [la,.i .i64 41] []=some (.i .i64 (bE xs 41),[]):=ja la xs hl 41 zZ
 have W:=fun i=>qn xs i
 have ht:=fun i=>dZ (b:=3) (W i)
 have r:=dZ (b:=4) (W 41)
 obtain⟨q0,X⟩:=Bn [48,58,48,48] [48,58,52,53] [49,58,48,48] (bE xs 0%3) zZ zZ
 change ∀kk,iaV _ _ 1=some (.vp (.s (AZ (bE xs 0%3))::q0))at X
 obtain⟨q1,e1⟩:=Bn [48,58,48,48] [48,58,49,53] [48,58,51,48] (bE xs 1%3) zZ zZ
 change ∀kk,iaV _ _ 1=some (.vp (.s (Ec (bE xs 1%3))::q1))at e1
 obtain⟨q2,e2⟩:=Bn [48,58,51,48] [48,58,52,48] [48,58,49,53] (bE xs 2%3) zZ zZ
 change ∀kk,iaV _ _ 1=some (.vp (.s (wD (bE xs 2%3))::q2))at e2
 obtain⟨q3,e3⟩:=Bn [51,58,48,48] [50,52,58,48,48] [49,58,48,48] (bE xs 3%3) zZ zZ
 change ∀kk,iaV _ _ 1=some (.vp (.s (RI (bE xs 3%3))::q3))at e3
 obtain⟨q4,e4⟩:=Bn [50,52,58,48,48] [49,54,58,48,48] [51,54,58,48,48] (bE xs 4%3) zZ zZ
 change ∀kk,iaV _ _ 1=some (.vp (.s (hv4 (bE xs 4%3))::q4))at e4
 obtain⟨q5,e5⟩:=Bn [64,50,50,58,48,48,32,116,111,32,64,48,54,58,48,48] [64,48,48,58,48,48,32,116,111,32,64,48,53,58,48,48] [64,49,50,58,48,48,32,116,111,32,64,49,50,58,48,48] (bE xs 5%3) zZ zZ
 change ∀kk,iaV _ _ 1=some (.vp (.s (Ri (bE xs 5%3))::q5))at e5
 obtain⟨q6,Y⟩:=Bn [50] [55,32,47,32,50] [45,40,49,41] (bE xs 6%3) zZ zZ
 change ∀kk,iaV _ _ 1=some (.vp (.s (hv6 (bE xs 6%3))::q6))at Y
 have Z:=hl.froz
 have IK:=al7
 have jR:=al8
 have qR:=al9
 have QL:=fun s0 hs fr lh sh=>aDq xs la hl s0 hs fr lh sh
 have IZ:=fun s0 hs fr lh sh=>aDr xs la hl s0 hs fr lh sh
 have y0:(AZ (bE xs 0%3)).length≤20:=sY _ _ _ _ zz
 have y1:(Ec (bE xs 1%3)).length≤20:=sY _ _ _ _ zz
 have y2:(wD (bE xs 2%3)).length≤20:=sY _ _ _ _ zz
 have y3:(RI (bE xs 3%3)).length≤20:=sY _ _ _ _ zz
 have y4:(hv4 (bE xs 4%3)).length≤20:=sY _ _ _ _ zz
 have y5:(Ri (bE xs 5%3)).length≤20:=sY _ _ _ _ zz
 have y6:(hv6 (bE xs 6%3)).length≤20:=sY _ _ _ _ zz
 have hcv:IsSl (T.sl (strs rO) 3 true) rO.length (strs rO):= .inr ⟨_,rfl⟩
 have axA: ∀h:bE xs 41%4<3,∃q,∀kk,iaV (T.sl (strs rO) 3 true) (.i kk (bE xs 41%4)) 1=some (.vp (.s (rO.getD (bE xs 41%4).toNat [])::q)):=fun h=>by
  have hk:(bE xs 41%4).toNat<rO.length:=by show(bE xs 41%4).toNat<3;omega
  obtain⟨q,e⟩:=vi hcv (bE xs 41%4).toNat hk
  have h0:=W 41
  rw[Int.toNat_of_nonneg zZ]at e
  refine⟨q,fun kk=> ?_⟩
  rw[e,List.getD_eq_getElem?_getD,List.getElem?_eq_getElem hk]
  rfl
 unfold Rj crD
 rw[vh,vh,vh]
 generalize T.sl (strs rO) 3 true=crT at*
 generalize aJu:T.sl (strs mQ) 18 true=qo at*
 generalize aJv:T.sl (strs mU) 10 true=L0 at*
 generalize F:AZ (bE xs 0%3)=x0 at*
 generalize J7:Ec (bE xs 1%3)=x1 at*
 generalize I:wD (bE xs 2%3)=x2 at*
 generalize K:RI (bE xs 3%3)=x3 at*
 generalize O:hv4 (bE xs 4%3)=x4 at*
 generalize R:Ri (bE xs 5%3)=x5 at*
 generalize U:hv6 (bE xs 6%3)=x6 at*
 have hHl:(j6 (Z3 (bE xs))).length≤1000:=by
  simp only[j6,Z3,F,J7,I,K,O,R,U,List.flatMap_cons,List.flatMap_nil,List.length_append,List.length_cons,List.length_nil]
  omega
 have hH:=Eq.refl (j6 (Z3 (bE xs)))
 conv at hH=>
  rhs
  simp only[j6,Z3,F,J7,I,K,O,R,U,List.flatMap_cons,List.flatMap_nil,List.append_nil,List.append_assoc,List.cons_append,List.nil_append]
 have Gr:(j6 (cX (yM (bE xs)) 0 mQ)).length≤18*101:=yN (yM (bE xs)) mQ FO 18
 have hcl:(j6 (cX (FM (bE xs)) 0 mU)).length≤10*101:=yN (FM (bE xs)) mU FQ 10
 generalize j6 (cX (yM (bE xs)) 0 mQ)=XR at*
 generalize j6 (cX (FM (bE xs)) 0 mU)=XC at*
 generalize j6 (Z3 (bE xs))=HB at*
 rw[av asP (by simp[c65])]
 simp(maxDischargeDepth:=6) only[qA,bj,aH,seval,c65,repl,h0,h1,h2,h3,h4,h5,h6,ht,X,e1,e2,e3,e4,e5,Y,Z,IK,mW,aAq,atp]
 repeat refine Eq.trans (if_pos (by first|omega|(simp only[List.length_append,List.length_cons,List.length_nil];omega))) ?_
 generalize V:DC pE 119 (.loop su) _=D
 obtain⟨f2,l2,s2,rfl,⟨rfl,rfl,g3⟩,fY⟩:=sa G2 V (QL HB zZ _ _ _ yW (by rw[hH];simp only[qA,seval,List.append_assoc]) yW yW)
 have p0:aa f2 0=la:=by rw[fY 0 zz];simp only[qA,seval]
 clear fY V hH X e1 e2 e3 e4 e5 Y
 simp(maxDischargeDepth:=6) only[qA,seval,jR,atq]
 generalize V:DC pE 119 (.loop sr) _=D
 obtain⟨f3,l3,s3,rfl,⟨rfl,rfl,k3⟩,yk⟩:=sa G1 V (IZ (HB++XR) (by rw[List.length_append];omega) _ _ _ (by simp only[qA,seval,p0]) (by simp only[qA,seval,g3]) yW yW)
 have p1:aa f3 0=la:=by rw[yk 0 zz];simp only[qA,seval,p0]
 clear yk V IZ QL
 by_cases h:bE xs 41%4<3
 ·obtain⟨q,e⟩:=axA h
  have b1:(rO.getD (bE xs 41%4).toNat []).length≤20*5:=by
   have hk:(bE xs 41%4).toNat<rO.length:=by show(bE xs 41%4).toNat<3;omega
   rw[List.getD_eq_getElem?_getD,List.getElem?_eq_getElem hk]
   exact aej _ (List.getElem_mem hk)
  rw[if_pos h,FN]
  generalize rO.getD (bE xs 41%4).toNat []=CR at*
  have hA:(HB++XR++XC).length≤10000:=by simp only[List.length_append];omega
  generalize HB++XR++XC=A at*
  simp(maxDischargeDepth:=6) only[qA,seval,p1,k3,WZ,r,Z,h,qR,e,mW,atr]
  repeat refine Eq.trans (if_pos (by first|omega|(simp only[List.length_append];omega))) ?_
  simp only[List.append_assoc]
 ·rw[if_neg h]
  have ht0:j6 []= []:=rfl
  rw[ht0]
  simp(maxDischargeDepth:=6) only[qA,seval,p1,k3,WZ,r,Z,h,mW]
end
theorem Bo(f:Nat→Int)(k:Nat):ints (atR f (k+1))=ints (atR f k)++ [.i .i64 (f k)]:=by simp[atR,ints,List.range_succ]
section
variable(xs:List Int)(la:T)(hl:IsSl la xs.length (ints xs))
include hl
theorem aDs(fr:Fr)(lh:aE ah)(sh:List ah)(h0:aa fr 0=la)(h6:aa fr 6= .nilsl)(Z:aa fr 7= .nilsl)(h8:aa fr 8= .nilsl)(h9:aa fr 9= .i .i64 0):
  Lp pE 44 Cj fr lh sh (.ext 0) fun f q s=>s=sh∧bh q (aa f 6) 20 1 60 (ints (atR (bE xs) 60))∧bh q (aa f 7) 27 1 60 (ints (atR (fun i=>bE xs (60+i)) 60))∧bh q (aa f 8) 34 1 60 (ints (atR (fun i=>bE xs (120+i)) 60))∧ab q 2=ab lh 2∧ab q 3=ab lh 3:=by
 refine cm Mv (fun k f q s=>aa f 9= .i .i64 (k:Int)∧s=sh∧bh q (aa f 6) 20 1 k (ints (atR (bE xs) k))∧bh q (aa f 7) 27 1 k (ints (atR (fun i=>bE xs (60+i)) k))∧bh q (aa f 8) 34 1 k (ints (atR (fun i=>bE xs (120+i)) k))∧ab q 2=ab lh 2∧ab q 3=ab lh 3) 60 ⟨h9,rfl,by rw[h6];exact bh.nil,by rw[Z];exact bh.nil,by rw[h8];exact bh.nil,rfl,rfl⟩ ?_ ?_
 ·rintro k f q _ hk Y ⟨D,rfl,hA,I,hC,K,O⟩
  have R:(k:Int)<60:=zZ
  have hw:=aG (k:=k) zZ
  have e1:=ja la xs hl k zZ
  have e2:=ja la xs hl (60+k) zZ
  have e3:=ja la xs hl (120+k) zZ
  have w2:wr .i64 (60+(k:Int))=((60+k:Nat):Int):=by rw[bI zZ];omega
  have w3:wr .i64 (120+(k:Int))=((120+k:Nat):Int):=by rw[bI zZ];omega
  have hz:=hl.froz
  have pA:=fun(x:T) (aU:aE ah) (r:List ah) (e:ab aU 20=ab q 20)=>dV (sh:=r) (hA.congr e) [x] rfl (bytes:=8) (by unfold roomy;omega) true
  have pB:=fun(x:T) (aU:aE ah) (r:List ah) (e:ab aU 27=ab q 27)=>dV (sh:=r) (I.congr e) [x] rfl (bytes:=8) (by unfold roomy;omega) true
  have pC:=fun(x:T) (aU:aE ah) (r:List ah) (e:ab aU 34=ab q 34)=>dV (sh:=r) (hC.congr e) [x] rfl (bytes:=8) (by unfold roomy;omega) true
  have nA:=hA.notS
  have nB:=I.notS
  have nC:=hC.notS
  rw[Bo,Bo,Bo]
  generalize hv6:aa f 6=v6 at*
  generalize U:aa f 7=v7 at*
  generalize V:aa f 8=v8 at*
  have W:=fun x r=>pA x q r rfl
  have gA:=fun x r j F=>(W x r).2.2 j F
  have kB:=fun x y r=>pB y (Qy q r 20 1 8 v6 (.sl [x] 1 true)) r (gA x r 27 zz)
  have gB:=fun x y r j F=>(kB x y r).2.2 j F
  have X:=fun x y z r=>pC z (Qy (Qy q r 20 1 8 v6 (.sl [x] 1 true)) r 27 1 8 v7 (.sl [y] 1 true)) r ((gB x y r 34 zz).trans (gA x r 34 zz))
  have gC:=fun x y z r j F=>(X x y z r).2.2 j F
  have rA:=fun x r=>(W x r).1
  have rB:=fun x y r=>(kB x y r).1
  have rC:=fun x y z r=>(X x y z r).1
  simp(maxDischargeDepth:=6) only[qA,seval,gd,repl,Cj,Y,h0,D,hv6,U,V,R,hw,e1,e2,e3,w2,w3,hz,rA,rB,rC,nA,nB,nC,mW]
  refine⟨((W _ _).2.1.congr ?_),((kB _ _ _).2.1.congr ?_),(X _ _ _ _).2.1, ?_, ?_⟩
  ·exact(gC _ _ _ _ 20 zz).trans (gB _ _ _ 20 zz)
  ·exact gC _ _ _ _ 27 zz
  ·exact((gC _ _ _ _ 2 zz).trans (gB _ _ _ 2 zz)).trans ((gA _ _ 2 zz).trans K)
  ·exact((gC _ _ _ _ 3 zz).trans (gB _ _ _ 3 zz)).trans ((gA _ _ 3 zz).trans O)
 ·rintro f q _ Y ⟨D,rfl,hA,I,hC,K,O⟩
  have D:aa f 9= .i .i64 60:=D
  simp only[qA,seval,gd,Cj,D,Int.lt_irrefl]
  exact⟨hA,I,hC,K,O⟩
end
def isLt(b:Nat):Bool:=(97≤b&&b≤122)||b==46
def YD(b:Nat):Bool:=48≤b&&b≤57
def ama(l:List Nat):Nat:=l.foldl (fun n b=>n*10+(b-48)) 0
def RY(k:Int)(s:List Nat)(n p:Nat):List T:= [.i .i64 k,.s s,.i .i64 n,.i .i64 p]
def L1:Nat→Nat→List Nat→List T
 |n+1,p,b::r=>
  if b=32 then L1 n (p+1) r
  else if isLt b then RY 1 ((b::r).span isLt).1 0 p++L1 n (p+((b::r).span isLt).1.length) ((b::r).span isLt).2
  else if YD b||b==64 then
   let o:=if b=64 then 1 else 0
   let w:=((b::r).drop o).span YD
   match w.2 with
   |58::z=>RY (3+o) [] (ama w.1*60+ama (z.span YD).1) p++L1 n (p+o+w.1.length+1+(z.span YD).1.length) (z.span YD).2
   |z=>RY 2 [] (ama w.1) p++L1 n (p+w.1.length) z
  else match b,r with
   |60,61::z=>RY 5 [60,61] 0 p++L1 n (p+2) z
   |_,_=>RY 5 [b] 0 p++L1 n (p+1) r
 |_,_,_=> []
def tok(l:List Nat):List T:=L1 l.length 0 l
def rP(k:Nat)(l:List Nat):T:= .sl ((tok l).drop (k*4)) ((tok l).length/4-k) false
def ScK(l:List Nat):Prop:= ∃s,ae pE 116 [.s l] []=some (.tup [rP 0 l,.i .i64 0,.i .i64 0],s)
def PaK(k:Nat)(p:List Nat×Ex):Prop:= ∃s,ae pE 196 [rP k p.1] []=some (.tup [.agg (fw p.2),.i .i64 (-1)],s)
def ki:Nat→Int→List Nat
 |0,j=> [114,101,112,111,114,116,32]++AZ j
 |1,j=> [114,101,108,101,97,115,101,32]++Ec j
 |2,j=> [99,111,110,110,101,99,116,32]++wD j
 |3,j=> [115,105,116,32]++RI j
 |4,j=> [108,97,121,111,118,101,114,32]++hv4 j
 |5,j=> [110,105,103,104,116,32]++Ri j
 |_,j=> [99,111,110,115,116,32,115,104,105,102,116,115,32,105,115,32]++hv6 j
def hls:List (List Nat):=(List.range 7).flatMap fun i=> [ki i 0,ki i 1,ki i 2]
def rQ(hd:List T)(iz:T)(sn:List T):List ah:= [⟨1,.cells (hd++ [iz,.nilsl,.nilsl,.nilsl,.nilsl,.nilsl,.i .i64 0]) 0 true⟩,⟨1,.cells sn 0 true⟩]
def ruX:List (List Nat×Ex):=mQ.zip (jK.map Ru.x)
def koX:List (List Nat×Ex):=mU.zip (iS.map Co.x)++rO.zip uR++(List.range 3).map fun(j:Nat)=>(ki 6 j,mL j)
end Go.Proofs.YtnkgnjecmfkcfaaGreat
