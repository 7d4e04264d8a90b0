/- Walks of functions of the program and of the reference, and their plain laws, part 18. Conditions: the theorems' own. -/
import Derived.Test.YtnkgnjecmfkcfaaGreatGS
import Derived.Test.YtnkgnjecmfkcfaaGreatM10
import Derived.Test.YtnkgnjecmfkcfaaGreatM13
import Derived.Test.YtnkgnjecmfkcfaaGreatM14
import Derived.Test.YtnkgnjecmfkcfaaGreatM16
import Derived.Test.YtnkgnjecmfkcfaaGreatM17
import Derived.KernelRfl
set_option maxRecDepth 100000
set_option linter.unusedSimpArgs false
set_option linter.unusedVariables false
set_option maxHeartbeats 16000000
namespace Go.Proofs.YtnkgnjecmfkcfaaGreat
open Go Go.Ev
section
variable(t:Tt)(c:Ct)(zT aT fT a7 a8 a9 aw aA az:T)(hT:kN t zT aT fT)(hC:mG c a7 a8 a9 aw aA az)(hA:Hb c)(hTA:TtA t)(hCA:CtA c)(ops:List Int)(oT:T)(ho:IsSl oT ops.length (ints ops))(H:Int)
include hT hC hA hTA hCA ho
end
def ZJ:List Zo:= [⟨[117,116,99],0,[]⟩,⟨[111,115,108,111],60,[(1441500,120),(1444000,60)]⟩,⟨[121,111,114,107],-300,[(1442900,-240)]⟩]
def Sd:List Ap:= [⟨[65,65,65],[117,116,99]⟩,⟨[66,66,66],[111,115,108,111]⟩,⟨[67,67,67],[121,111,114,107]⟩]
def sj(k:Nat):List Nat:= [65+k,65+k,65+k]
def BS(k:Nat):Int:=([30,45,45,60,90,150,600,780]:List Int).getD k 30
def ZK(k:Nat):List Nat:=([[97,51,50,48],[98,55,51,55],[101,49,57,48]]:List (List Nat)).getD k [97,51,50,48]
def O1(n:Int)(x:Nat):Nat:=if n%7=6 then 0 else x
def yQ(n:Int)(x:Nat):Nat:=if O1 n x=0 then 1+(n/8%2).toNat else if n%11=10 then 3-O1 n x else 0
def sk(n r:Int):Int:=r+BS (n/16%8).toNat
def Ep(n r:Int):Int:=sk n r+60+15*(n/128%6)
def pZ(i:Nat)(n:Int)(x:Nat)(r:Int):Fl:=⟨[70,48+i],sj (O1 n x),sj (yQ n x),sk n r,Ep n r,ZK (n/1024%3).toNat,1,1,2⟩
def yR(n r:Int):Int:=if n%5=4 then sk n r+20 else Ep n r
def jd(a:Nat→Int):Nat→Nat→Nat→Int→List Fl
 |0,_,_,_=> []
 |m+1,i,x,r=>pZ i (a (2+i)) x r::jd a m (i+1) (yQ (a (2+i)) x) (yR (a (2+i)) r)
def pN(a:Nat→Int):Nat:=2+(a 1%6).toNat
def nZ(a:Nat→Int):Tt:=⟨ZJ,Sd,jd a (pN a) 0 0 (1440000+15*(a 0%96))⟩
theorem oa(k:Nat):30≤BS k∧BS k≤780:=by
 unfold BS
 have:k=0∨k=1∨k=2∨k=3∨k=4∨k=5∨k=6∨k=7∨8≤k:=yv
 rcases this with rfl|rfl|rfl|rfl|rfl|rfl|rfl|rfl|h
 all_goals first|decide|(rw[List.getD_eq_getElem?_getD,List.getElem?_eq_none (by simpa using h)];decide)
theorem Gr(n:Int)(x:Nat)(hx:x≤2):yQ n x≠O1 n x∧yQ n x≤2∧O1 n x≤2:=by
 have h1:O1 n x≤2:=by unfold O1;split <;> omega
 unfold yQ
 have h2:(n/8%2).toNat≤1:=yv
 split
 ·omega
 ·split <;> omega
theorem aeZ(k:Nat):ji (ZK k)=true:=by
 unfold ZK
 have:k=0∨k=1∨k=2∨3≤k:=yv
 rcases this with rfl|rfl|rfl|h
 all_goals first|decide|(rw[List.getD_eq_getElem?_getD,List.getElem?_eq_none (by simpa using h)];decide)
theorem ZL{a b:Nat}(h:sj a=sj b):a=b:=by unfold sj at h;simp at h;omega
theorem J6{a:Nat}(h:a≤2):sj a∈Sd.map Ap.cd:=by
 have:a=0∨a=1∨a=2:=yv
 rcases this with rfl|rfl|rfl <;> decide
theorem ae0(i:Nat)(h:i≤8):D3 [70,48+i]=true:=by
 have:i=0∨i=1∨i=2∨i=3∨i=4∨i=5∨i=6∨i=7∨i=8:=yv
 rcases this with rfl|rfl|rfl|rfl|rfl|rfl|rfl|rfl|rfl <;> decide
theorem ae1(i:Nat)(n:Int)(x:Nat)(r:Int)(hi:i≤8)(hx:x≤2)(h1:1440000≤r)(h2:r≤1500000):CV (Sd.map Ap.cd) (pZ i n x r)=0:=by
 obtain⟨F,I,K⟩:=Gr n x hx
 obtain⟨U,V⟩:=oa (n/16%8).toNat
 have D:sj (O1 n x)≠sj (yQ n x):=fun h=>F (ZL h).symm
 have O:Jd (pZ i n x r)=true:=by
  unfold Jd pZ Ep sk
  simp only[Bool.and_eq_true,decide_eq_true_eq]
  omega
 unfold CV
 rw[if_neg (by simp[pZ,ae0 i hi]),if_neg (by simp[pZ,aeZ]),if_neg (by simpa[pZ]using J6 K),if_neg (by simpa[pZ]using J6 I),if_neg (by simpa[pZ]using D),if_neg (by simp[O]),if_neg (by simp[pZ,pJ])]
theorem ZM(D:List (List Nat))(p:Option Fl)(f:Fl)(r:List Fl):Cj D p (f::r)=if CV D f≠0 then CV D f else if(match p with|some p=> !FQ p f|none=>false)=true then 8 else Cj D (some f) r:=by cases p <;> rfl
theorem O2(a:Nat→Int): ∀(m i x:Nat) (r:Int) (p:Option Fl),i+m≤8→x≤2→1440000≤r→r≤1441425+915*i→(∀q,p=some q→q.dp+20≤r)→Cj (Sd.map Ap.cd) p (jd a m i x r)=0
 |0,_,_,_,p,_,_,_,_,_=>by cases p <;> rfl
 |m+1,i,x,r,p,hi,hx,h1,h2,D=>by
  obtain⟨O,U⟩:=oa (a (2+i)/16%8).toNat
  obtain⟨V,F,W⟩:=Gr (a (2+i)) x hx
  rw[jd,ZM,if_neg (by rw[ae1 i _ x r yv hx h1 yv];simp)]
  refine Eq.trans (if_neg ?_) ?_
  ·cases p with
   |none=>simp
   |some q=>
    have h3:=D q rfl
    have h4:q.dp<(pZ i (a (2+i)) x r).dp:=by unfold pZ sk;simp only;omega
    have:FQ q (pZ i (a (2+i)) x r)=true:=by
     unfold FQ
     rw[if_pos yv]
     simpa using h4
    simp[this]
  have X:yR (a (2+i)) r=sk (a (2+i)) r+20∨yR (a (2+i)) r=Ep (a (2+i)) r:=by unfold yR;split <;> simp
  have I:sk (a (2+i)) r=r+BS (a (2+i)/16%8).toNat:=rfl
  have Y:Ep (a (2+i)) r=sk (a (2+i)) r+60+15*(a (2+i)/128%6):=rfl
  refine O2 a m (i+1) _ _ _ yv F yv (by push_cast;omega) fun q K=> ?_
  cases K
  show(pZ i (a (2+i)) x r).dp+20≤_
  unfold pZ
  simp only
  omega
theorem BT(a:Nat→Int): ∀(m i x:Nat) (r:Int),(jd a m i x r).length=m
 |0,_,_,_=>rfl
 |m+1,i,x,r=>by rw[jd,List.length_cons,BT a m]
theorem nj(a:Nat→Int):2≤pN a∧pN a≤7:=by unfold pN;omega
theorem ZN(a:Nat→Int):nR (nZ a)=0:=by
 obtain⟨h1,h2⟩:=nj a
 have r:=O2 a (pN a) 0 0 (1440000+15*(a 0%96)) none yv yv yv yv xv
 have hl:=BT a (pN a) 0 0 (1440000+15*(a 0%96))
 unfold nR nZ
 simp only
 rw[if_neg xW,if_neg xW,if_neg yv,if_neg xW,if_neg xW,r]
theorem O3(a:Nat→Int): ∀(m i x:Nat) (r:Int) (j k:Nat) (D:j<(jd a m i x r).length) (hk:k<(jd a m i x r).length),(r<(jd a m i x r)[j].dp)∧(j<k→(jd a m i x r)[j].dp<(jd a m i x r)[k].dp)
 |0,_,_,_,j,k,D,_=>by simp[jd]at D
 |m+1,i,x,r,j,k,D,hk=>by
  obtain⟨I,K⟩:=oa (a (2+i)/16%8).toNat
  have F:sk (a (2+i)) r=r+BS (a (2+i)/16%8).toNat:=rfl
  have O:Ep (a (2+i)) r=sk (a (2+i)) r+60+15*(a (2+i)/128%6):=rfl
  have U:yR (a (2+i)) r=sk (a (2+i)) r+20∨yR (a (2+i)) r=Ep (a (2+i)) r:=by unfold yR;split <;> simp
  have ih:=O3 a m (i+1) (yQ (a (2+i)) x) (yR (a (2+i)) r)
  have h0:(pZ i (a (2+i)) x r).dp=sk (a (2+i)) r:=rfl
  simp only[jd]at D hk ⊢
  cases j with
  |zero=>
   cases k with
   |zero=>simp only[List.getElem_cons_zero,h0];omega
   |succ k=>
    have h1:=(ih k k (by simpa using hk) (by simpa using hk)).1
    simp only[List.getElem_cons_zero,List.getElem_cons_succ,h0]
    omega
  |succ j=>
   have h1:=(ih j j (by simpa using D) (by simpa using D)).1
   cases k with
   |zero=>simp only[List.getElem_cons_succ];omega
   |succ k=>
    have h2:=(ih j k (by simpa using D) (by simpa using hk)).2
    simp only[List.getElem_cons_succ]
    omega
theorem jM{f g:Nat→Nat}: ∀{n m:Nat},n≤m→(∀i,i<n→f i≤g i)→Sm n f≤Sm m g
 |0,_,_,_=>Nat.zero_le _
 |n+1,0,h,_=>by omega
 |n+1,m+1,h,hf=>by
  by_cases e:n=m
  ·subst e
   rw[Sm,Sm]
   have:=jM (Nat.le_refl n) fun i hi=>hf i yv
   have:=hf n yv
   omega
  ·have:=jM (show n+1≤m by omega) hf
   show Sm (n+1) f≤Sm m g+g m
   omega
theorem Gs(f:Nat→Nat): ∀n,Sm n f=Sm n fun i=>f (n-1-i)
 |0=>rfl
 |n+1=>by
  rw[Sm,JZ,Gs f n,Nat.add_sub_cancel,Nat.sub_zero,Nat.add_comm]
  congr 1
  exact vV fun i _=>by rw[show n-(i+1)=n-1-i by omega]
theorem aiB(N i:Nat)(hi:i<N)(f g:Nat→Nat)(h0: ∀j,j≤i→f j=0)(h1: ∀j,i<j→j<N→f j≤g (N-1-j)):Sm N f≤Sm (N-1-i) g:=by
 rw[Gs f N]
 have r: ∀m,m≤N→Sm m (fun k=>f (N-1-k))≤Sm (min m (N-1-i)) g:=by
  intro m D
  induction m with
  |zero=>simp[Sm]
  |succ m ih=>
   have ih:=ih yv
   rw[Sm]
   by_cases h:m<N-1-i
   ·rw[Nat.min_eq_left yv]at ih ⊢
    have:=h1 (N-1-m) yv yv
    rw[show N-1-(N-1-m)=m by omega]at this
    rw[Sm]
    omega
   ·rw[Nat.min_eq_right yv]at ih ⊢
    rw[h0 _ yv]
    omega
 have:=r N (Nat.le_refl _)
 rwa [Nat.min_eq_right yv]at this
theorem amu{a b:Bool}(h:a=true→b=true):tD a≤tD b:=by cases a <;> cases b <;> simp_all[tD]
def Gc:Nat→Nat→Nat→Nat
 |0,_,h=>nl true Ms h
 |k+1,n,h=>nl true (fun h=>Sm n fun m=>Gc k m h) h
section
variable(N:Nat)(J:Nat→Nat→Bool)(cg:Nat→Bool)(hJ: ∀i j,J i j=true→i<j)
include hJ
theorem ZO{b:Bool}{p q:Nat→Nat}(h: ∀i,p i≤q i)(k:Nat):nl b p k≤nl true q k:=by
 have _:=hJ
 unfold nl
 have h1:tD b*p k≤tD true*q k:=Nat.mul_le_mul (amu fun _=>rfl) (h k)
 cases k with
 |zero=>exact Nat.add_le_add h1 (Nat.le_refl _)
 |succ k=>exact Nat.add_le_add h1 (h k)
theorem aiC: ∀(k i h:Nat),i<N→cB N J cg (k+1) i h≤Gc k (N-1-i) h
 |0,i,h,_=>by rw[cB,Gc,Zy];exact ZO J hJ (fun _=>Nat.le_refl _) h
 |k+1,i,h,hi=>by
  rw[cB,Gc,Zy]
  refine ZO J hJ (fun h=> ?_) h
  refine aiB N i hi _ _ (fun j r=> ?_) fun j D r=> ?_
  ·have:J i j=false:=by
    cases e:J i j with
    |false=>rfl
    |true=>have:=hJ i j e;omega
   rw[this];simp[tD]
  ·have h1:=aiC k j h r
   have h2:tD (J i j)≤1:=by cases J i j <;> simp[tD]
   calc tD (J i j)*cB N J cg (k+1) j h≤1*cB N J cg (k+1) j h:=Nat.mul_le_mul_right _ h2
    _≤_:=yv
def GcT(N H:Nat):Nat→Nat
 |0=>0
 |k+1=>GcT N H k+Sm (H+1) fun h=>Sm N fun n=>Gc k n h
omit hJ in
theorem J7{N N' H H':Nat}(hN:N≤N')(r:H≤H'): ∀k,GcT N H k≤GcT N' H' k
 |0=>Nat.le_refl _
 |k+1=>by
  have:=J7 hN r k
  have h2:=jM (n:=H+1) (m:=H'+1) (f:=fun h=>Sm N fun n=>Gc k n h) (g:=fun h=>Sm N' fun n=>Gc k n h) yv fun i _=>jM hN fun _ _=>Nat.le_refl _
  rw[GcT,GcT];omega
theorem O4(H:Nat): ∀k,yO N H (cB N J cg) k≤GcT N H k
 |0=>Nat.le_refl _
 |k+1=>by
  have ih:=O4 H k
  have h2:Csu N H (fun h g=>cB N J cg (k+1) g h)≤Sm (H+1) fun h=>Sm N fun n=>Gc k n h:=by
   unfold Csu
   refine jM (Nat.le_refl _) fun h _=> ?_
   rw[Gs (fun n=>Gc k n h)]
   exact jM (Nat.le_refl _) fun i hi=>aiC N J cg hJ k i h hi
  rw[yO,GcT];omega
theorem Se(H:Nat)(hN:N≤7)(r:H≤2): ¬20000<il (yO N H (cB N J cg) 6):=by
 have h1:=O4 N J cg hJ H 6
 have h2:=J7 hN r 6
 have h3:GcT 7 2 6=1218:=by decide+kernel
 have h4:il (yO N H (cB N J cg) 6)=(yO N H (cB N J cg) 6:Int):=by unfold il;rw[bj yv]
 omega
end
def Tc:Nat→Nat→Nat→Nat
 |0,_,_=>0
 |m+1,n,h=>(1+Sm n fun k=>Tc m k h)+(if h=0 then 0 else 1+Sm n fun k=>Tc m k (h-1))
theorem Gt: ∀(m:Nat) {n D h r:Nat},n≤D→h≤r→Tc m n h≤Tc m D r
 |0,_,_,_,_,_,_=>Nat.le_refl _
 |m+1,n,D,h,r,F,I=>by
  have h1:=jM (f:=fun k=>Tc m k h) (g:=fun k=>Tc m k r) F fun k _=>Gt m (Nat.le_refl k) I
  have h2:=jM (f:=fun k=>Tc m k (h-1)) (g:=fun k=>Tc m k (r-1)) F fun k _=>Gt m (Nat.le_refl k) yv
  rw[Tc,Tc]
  by_cases e:h=0
  ·rw[if_pos e]
   split <;> omega
  ·rw[if_neg e,if_neg yv];omega
theorem BU{β:Type}(J:Nat→Bool)(g:Nat→List β): ∀n,(((List.range n).filter J).flatMap g).length=Sm n fun j=>tD (J j)*(g j).length
 |0=>rfl
 |n+1=>by
  rw[Gg,Sm,←BU J g n]
  cases h:J n
  ·simp[tD]
  ·simp[tD]
section
variable(N:Nat)(J:Nat→Nat→Bool)(cg:Nat→Bool)(ok:List (Int×Bool)→Bool)(lg:List (Int×Bool)→Lg)(hJ: ∀i j,J i j=true→i<j)
include hJ
theorem O5: ∀(m:Nat) (d:List (Int×Bool)) (f h:Nat),f<N→(ew N J cg ok lg m d f h).length≤Tc m (N-1-f) h
 |0,_,_,_,_=>Nat.le_refl _
 |m+1,d,f,h,hf=>by
  have one: ∀(x:List (Int×Bool)) (h:Nat),(si N J ok lg (ew N J cg ok lg m) x f h).length≤1+Sm (N-1-f) fun k=>Tc m k h:=by
   intro x h
   unfold si
   rw[List.length_append]
   have h1:(if ok x=true then [lg x]else []).length≤1:=by split <;> simp
   have h2:((j5 N J f).flatMap fun g=>ew N J cg ok lg m x g h).length≤Sm (N-1-f) fun k=>Tc m k h:=by
    rw[show((j5 N J f).flatMap fun g=>ew N J cg ok lg m x g h).length=_ from BU (J f) _ N]
    refine aiB N f hf _ _ (fun j r=> ?_) fun j D r=> ?_
    ·have:J f j=false:=by
      cases e:J f j with
      |false=>rfl
      |true=>have:=hJ f j e;omega
     rw[this];simp[tD]
    ·have h3:=O5 m x j h r
     have h4:tD (J f j)≤1:=by cases J f j <;> simp[tD]
     calc tD (J f j)*(ew N J cg ok lg m x j h).length≤1*(ew N J cg ok lg m x j h).length:=Nat.mul_le_mul_right _ h4
      _≤_:=yv
   omega
  rw[ew,List.length_append,Tc]
  have a1:(if cg f=true then si N J ok lg (ew N J cg ok lg m) (d++ [((f:Int),false)]) f h else []).length≤1+Sm (N-1-f) fun k=>Tc m k h:=by
   split
   ·exact one _ _
   ·simp
  by_cases e:h=0
  ·rw[if_pos e,if_pos e];simp only[List.length_nil];omega
  ·rw[if_neg e,if_neg e]
   have:=one (d++ [((f:Int),true)]) (h-1)
   omega
theorem ae2(H:Nat)(hN:N≤7)(r:H≤2): ¬2000<(j6 N J cg ok lg H).length:=by
 have h1:(j6 N J cg ok lg H).length≤Sm N fun n=>Tc 6 n H:=by
  unfold j6
  have h2:=BU (fun _=>true) (fun f=>ew N J cg ok lg 6 [] f H) N
  rw[show(List.range N).filter (fun _=>true)=List.range N from List.filter_eq_self.2 xv]at h2
  rw[h2,Gs (fun n=>Tc 6 n H)]
  exact jM (Nat.le_refl _) fun f hf=>by simpa[tD]using O5 N J cg ok lg hJ 6 [] f H hf
 have h3:(Sm N fun n=>Tc 6 n H)≤Sm 7 fun n=>Tc 6 n 2:=jM hN fun i _=>Gt 6 (Nat.le_refl _) r
 have h4:(Sm 7 fun n=>Tc 6 n 2)=1218:=by decide+kernel
 omega
end
section
variable(N:Nat)(J:Nat→Nat→Bool)(cg:Nat→Bool)(ok ok':List (Int×Bool)→Bool)(lg:List (Int×Bool)→Lg)(jb: ∀x,ok x=true→ok' x=true)
include jb
end
def at3(l:List Int)(k:Nat):Int:=l.getD k 0
def rpB(k:Nat):Int:=at3 [0,45,60] k
def rlB(k:Nat):Int:=at3 [0,15,30] k
def Sf(k:Nat):Int:=at3 [30,40,15] k
def Fj(k:Nat):Int:=at3 [180,1440,60] k
def lyB(k:Nat):Int:=at3 [1440,960,2160] k
def nfB(k:Nat):Int:=at3 [1320,0,720] k
def ntB(k:Nat):Int:=at3 [360,300,720] k
def jl(k:Nat→Nat)(r:List Ru)(D:List Co)(cr:List Ex):Ct:=⟨rpB (k 0),rlB (k 1),Sf (k 2),Fj (k 3),lyB (k 4),nfB (k 5),ntB (k 5),[(yC,pV (k 6))],r,D,cr,[],[],0⟩
def cY{α:Type}(p:Nat→Bool):Nat→List α→List α
 |_,[]=> []
 |i,x::l=>if p i=true then x::cY p (i+1) l else cY p (i+1) l
theorem ee{α:Type}(p:Nat→Bool): ∀(i:Nat) (l:List α),(cY p i l).Sublist l
 |_,[]=>List.Sublist.slnil
 |i,x::l=>by
  rw[cY]
  split
  ·exact(ee p (i+1) l).cons_cons x
  ·exact(ee p (i+1) l).cons x
def kB(b:Nat→Int)(i:Nat):Nat:=(b i%3).toNat
def crX(b:Nat→Int):List Ex:=if b 41%4<3 then [CQ.getD (b 41%4).toNat (.mk 1 2 [] [])]else []
def mQ(b:Nat→Int):Ct:=jl (kB b) (cY (fun i=>decide (b (7+i)%4=0)) 0 pH) (cY (fun i=>decide (b (30+i)%3=0)) 0 sE) (crX b)
theorem three{k:Nat}(P:Nat→Prop)(h0:P 0)(h1:P 1)(h2:P 2)(h:k≤2):P k:=by
 have:k=0∨k=1∨k=2:=yv
 rcases this with rfl|rfl|rfl <;> assumption
def Mz(l:Cs)(u:Ru):Bool:=ki u.sc 1 3&&(iW u.nm&&(decide (bL u.x=0)&&decide (G2 l u.sc u.x 4=0)))
def MA(l:Cs)(u:Co):Bool:=ki u.sc 1 3&&(decide (bL u.x=0)&&decide (G2 l u.sc u.x 1=0))
def MB(l:Cs)(x:Ex):Bool:=decide (bL x=0)&&decide (G2 l 1 x 2=0)
theorem O6(l:Cs): ∀(r:List Ru) (seen:List (Int×List Nat)),(∀u∈r,Mz l u=true)→(r.map fun u=>(u.sc,u.nm)).Nodup→(∀u∈r,(u.sc,u.nm)∉seen)→G0 seen r=0
 | [],_,_,_,_=>rfl
 |u::r,seen,h1,h2,h3=>by
  have h:=h1 u List.mem_cons_self
  unfold Mz at h
  simp only[Bool.and_eq_true,decide_eq_true_eq]at h
  obtain⟨a1,a2,F,I⟩:=h
  rw[List.map_cons,List.nodup_cons]at h2
  rw[G0,if_neg (by simp[a1,a2]),if_neg (h3 u List.mem_cons_self),if_neg (by simp[F])]
  refine O6 l r _ (fun v D=>h1 v (List.mem_cons_of_mem _ D)) h2.2 fun v D hm=> ?_
  rcases List.mem_append.1 hm with hm|hm
  ·exact h3 v (List.mem_cons_of_mem _ D) hm
  ·rw[List.mem_singleton]at hm
   exact h2.1 (hm▸List.mem_map_of_mem (f:=fun u:Ru=>(u.sc,u.nm)) D)
theorem O7(l:Cs): ∀(r:List Co),(∀u∈r,MA l u=true)→I4 r=0
 | [],_=>rfl
 |u::r,h1=>by
  have h:=h1 u List.mem_cons_self
  unfold MA at h
  simp only[Bool.and_eq_true,decide_eq_true_eq]at h
  rw[I4,if_neg (by simp[h.1]),if_neg (by simp[h.2.1])]
  exact O7 l r fun v D=>h1 v (List.mem_cons_of_mem _ D)
theorem O8(l:Cs): ∀(r:List Ex),(∀u∈r,MB l u=true)→I5 r=0
 | [],_=>rfl
 |u::r,h1=>by
  have h:=h1 u List.mem_cons_self
  unfold MB at h
  simp only[Bool.and_eq_true,decide_eq_true_eq]at h
  rw[I5,if_neg (by simp[h.1])]
  exact O8 l r fun v D=>h1 v (List.mem_cons_of_mem _ D)
theorem O9(l:Cs): ∀(r:List Ru),(∀u∈r,Mz l u=true)→I9 l r=0
 | [],_=>rfl
 |u::r,h1=>by
  have h:=h1 u List.mem_cons_self
  unfold Mz at h
  simp only[Bool.and_eq_true,decide_eq_true_eq]at h
  rw[I9,if_neg (by simp[h.2.2.2])]
  exact O9 l r fun v D=>h1 v (List.mem_cons_of_mem _ D)
theorem Pb(l:Cs): ∀(r:List Co),(∀u∈r,MA l u=true)→Ja l r=0
 | [],_=>rfl
 |u::r,h1=>by
  have h:=h1 u List.mem_cons_self
  unfold MA at h
  simp only[Bool.and_eq_true,decide_eq_true_eq]at h
  rw[Ja,if_neg (by simp[h.2.2])]
  exact Pb l r fun v D=>h1 v (List.mem_cons_of_mem _ D)
theorem Pc(l:Cs): ∀(r:List Ex),(∀u∈r,MB l u=true)→KH l r=0
 | [],_=>rfl
 |u::r,h1=>by
  have h:=h1 u List.mem_cons_self
  unfold MB at h
  simp only[Bool.and_eq_true,decide_eq_true_eq]at h
  rw[KH,if_neg (by simp[h.2])]
  exact Pc l r fun v D=>h1 v (List.mem_cons_of_mem _ D)
theorem amB(k:Nat)(h:k≤2):pH.all (Mz [(yC,pV k)])=true:=three (fun k=>pH.all (Mz [(yC,pV k)])=true) (by decide+kernel) (by decide+kernel) (by decide+kernel) h
theorem amC(k:Nat)(h:k≤2):sE.all (MA [(yC,pV k)])=true:=three (fun k=>sE.all (MA [(yC,pV k)])=true) (by decide+kernel) (by decide+kernel) (by decide+kernel) h
theorem amD(k:Nat)(h:k≤2):CQ.all (MB [(yC,pV k)])=true:=three (fun k=>CQ.all (MB [(yC,pV k)])=true) (by decide+kernel) (by decide+kernel) (by decide+kernel) h
theorem amE(k:Nat)(h:k≤2):KG [] [(yC,pV k)]=0∧L1 [(yC,pV k)] 0 [(yC,pV k)]=0:=three (fun k=>KG [] [(yC,pV k)]=0∧L1 [(yC,pV k)] 0 [(yC,pV k)]=0) (by decide+kernel) (by decide+kernel) (by decide+kernel) h
theorem amF:(pH.map fun u=>(u.sc,u.nm)).Nodup:=by decide+kernel
theorem MC(k:Nat→Nat)(hk: ∀i,k i≤2)(r:List Ru)(D:List Co)(cr:List Ex)(h1:r.Sublist pH)(h2:D.Sublist sE)(h3: ∀x∈cr,x∈CQ)(h4:cr.length≤1):fi (jl k r D cr)=0:=by
 have e1: ∀u∈r,Mz [(yC,pV (k 6))] u=true:=fun u F=>List.all_eq_true.1 (amB (k 6) (hk 6)) u (h1.subset F)
 have e2: ∀u∈D,MA [(yC,pV (k 6))] u=true:=fun u F=>List.all_eq_true.1 (amC (k 6) (hk 6)) u (h2.subset F)
 have e3: ∀u∈cr,MB [(yC,pV (k 6))] u=true:=fun u F=>List.all_eq_true.1 (amD (k 6) (hk 6)) u (h3 u F)
 obtain⟨I,K⟩:=amE (k 6) (hk 6)
 have Z:r.length≤18:=h1.length_le
 have l2:D.length≤10:=h2.length_le
 have hr:kz (jl k r D cr)=true:=by
  have a0:ki (rpB (k 0)) 0 1440=true:=three (fun k=>ki (rpB k) 0 1440=true) rfl rfl rfl (hk 0)
  have a1:ki (rlB (k 1)) 0 1440=true:=three (fun k=>ki (rlB k) 0 1440=true) rfl rfl rfl (hk 1)
  have a2:ki (Sf (k 2)) 0 1440=true:=three (fun k=>ki (Sf k) 0 1440=true) rfl rfl rfl (hk 2)
  have O: ∀j,j≤2→ki (Fj (k 3)) (Sf j) 1440=true:=fun j U=>three (fun j=>ki (Fj (k 3)) (Sf j) 1440=true) (three (fun k=>ki (Fj k) (Sf 0) 1440=true) rfl rfl rfl (hk 3)) (three (fun k=>ki (Fj k) (Sf 1) 1440=true) rfl rfl rfl (hk 3)) (three (fun k=>ki (Fj k) (Sf 2) 1440=true) rfl rfl rfl (hk 3)) U
  have V:ki (lyB (k 4)) 0 10080=true:=three (fun k=>ki (lyB k) 0 10080=true) rfl rfl rfl (hk 4)
  have W:ki (nfB (k 5)) 0 1439=true:=three (fun k=>ki (nfB k) 0 1439=true) rfl rfl rfl (hk 5)
  have X:ki (ntB (k 5)) 0 1439=true:=three (fun k=>ki (ntB k) 0 1439=true) rfl rfl rfl (hk 5)
  unfold kz jl
  simp only[a0,a1,a2,O _ (hk 2),V,W,X,Bool.true_and]
  rfl
 have hs:kM (jl k r D cr)=true:=by
  unfold kM jl
  simp only[Bool.and_eq_true,decide_eq_true_eq,List.length_cons,List.length_nil]
  omega
 have Y:fY (jl k r D cr)=0:=by
  unfold fY
  rw[if_neg (by simp[hr]),if_neg (by simp[hs])]
  unfold jl
  simp only
  rw[if_neg (by simp[I]),O6 _ r [] e1 (amF.sublist (h1.map _)) xv,if_neg xv,O7 _ D e2,if_neg xv,O8 _ cr e3,if_neg xv]
  rfl
 unfold fi
 rw[if_neg (by simp[Y])]
 unfold jl
 simp only
 rw[if_neg (by simp[K]),O9 _ r e1,if_neg xv,Pb _ D e2,if_neg xv,Pc _ cr e3]
theorem sH(b:Nat→Int)(i:Nat):kB b i≤2:=by unfold kB;omega
theorem BV(b:Nat→Int):(∀x∈crX b,x∈CQ)∧(crX b).length≤1:=by
 unfold crX
 split
 ·rename_i h
  refine⟨fun x hx=> ?_,by simp⟩
  rw[List.mem_singleton]at hx
  subst hx
  have hk:(b 41%4).toNat<CQ.length:=by show(b 41%4).toNat<3;omega
  rw[List.getD_eq_getElem?_getD,List.getElem?_eq_getElem hk]
  exact List.getElem_mem hk
 ·exact⟨fun x hx=>by simp at hx,by simp⟩
theorem amG(b:Nat→Int):fi (mQ b)=0:=MC _ (sH b) _ _ _ (ee _ _ _) (ee _ _ _) (BV b).1 (BV b).2
def Gu(o:Nat→Int)(n:Nat):List Nat:=(List.range n).filter fun i=>decide (0<o i%8)
def Sg(o:Nat→Int)(n:Nat):List Int:=(Gu o n).map Int.ofNat
theorem Pd(N:Nat): ∀(l:List Nat) (p:Option Int),l.Pairwise (· < ·)→(∀x∈l,x<N)→(∀q,p=some q→ ∀x∈l,q<(x:Int))→Cq N p (l.map Int.ofNat)=0
 | [],_,_,_,_=>rfl
 |x::l,p,h1,h2,h3=>by
  rw[List.pairwise_cons]at h1
  have hx:=h2 x List.mem_cons_self
  have ih:=Pd N l (some (x:Int)) h1.2 (fun y r=>h2 y (List.mem_cons_of_mem _ r)) fun q D y r=>by
   cases D
   have:=h1.1 y r
   omega
  rw[List.map_cons,J1]
  show(if 0≤(x:Int)∧(x:Int)<(N:Int)then _ else _)=_
  rw[if_pos yv]
  cases p with
  |none=>exact ih
  |some q=>
   have h4:=h3 q rfl x List.mem_cons_self
   simpa[show¬((x:Int)≤q)by omega]using ih
theorem amH(o:Nat→Int)(n:Nat):Cq n none (Sg o n)=0:=
 Pd n _ none (List.Pairwise.filter _ List.pairwise_lt_range) (fun x hx=>List.mem_range.1 (List.mem_filter.1 hx).1) xv
theorem ae3(o:Nat→Int)(n:Nat):(Sg o n).length≤n:=by
 unfold Sg Gu
 rw[List.length_map]
 exact Nat.le_trans (List.length_filter_le _ _) xv
theorem ZP(a:Nat→Int): ∀(m i x:Nat) (r:Int),1440000≤r→r≤1441425+915*i→i+m≤8→ ∀f∈jd a m i x r,f.dp+60≤f.ar∧1440000≤f.dp∧f.ar≤1500000
 |0,_,_,_,_,_,_,f,hf=>by simp[jd]at hf
 |m+1,i,x,r,h1,h2,h3,f,hf=>by
  obtain⟨F,I⟩:=oa (a (2+i)/16%8).toNat
  have D:sk (a (2+i)) r=r+BS (a (2+i)/16%8).toNat:=rfl
  have K:Ep (a (2+i)) r=sk (a (2+i)) r+60+15*(a (2+i)/128%6):=rfl
  have O:yR (a (2+i)) r=sk (a (2+i)) r+20∨yR (a (2+i)) r=Ep (a (2+i)) r:=by unfold yR;split <;> simp
  rw[jd]at hf
  rcases List.mem_cons.1 hf with rfl|hf
  ·show sk _ _+60≤Ep _ _∧1440000≤sk _ _∧Ep _ _≤1500000
   omega
  ·exact ZP a m (i+1) _ _ yv (by push_cast;omega) yv f hf
theorem pq(a:Nat→Int):(nZ a).fl.length=pN a:=BT a _ _ _ _
theorem aiE(a:Nat→Int)(c:Ct)(hc:0≤c.cn)(i j:Nat)(h:jn c (nZ a).fl i j=true):i<j:=by
 have O:=nj a
 have hl:=pq a
 have F:=ZP a (pN a) 0 0 (1440000+15*(a 0%96)) yv yv yv
 have r:=O3 a (pN a) 0 0 (1440000+15*(a 0%96))
 by_cases hi:i<(nZ a).fl.length
 ·by_cases D:j<(nZ a).fl.length
  ·rw[OY hi D]at h
   have h1:=F (nZ a).fl[i] (List.getElem_mem hi)
   have h2:=F (nZ a).fl[j] (List.getElem_mem D)
   unfold yI at h
   simp only[Bool.and_eq_true,decide_eq_true_eq]at h
   obtain⟨_,h3,_⟩:=h
   rw[bj yv]at h3
   have h4:(nZ a).fl[i].dp<(nZ a).fl[j].dp:=yv
   refine Nat.lt_of_not_le fun I=> ?_
   by_cases he:j=i
   ·subst he;omega
   ·have:=(r j i D hi).2 yv
    have e1:(nZ a).fl[i].dp=(jd a (pN a) 0 0 (1440000+15*(a 0%96)))[i].dp:=rfl
    have e2:(nZ a).fl[j].dp=(jd a (pN a) 0 0 (1440000+15*(a 0%96)))[j].dp:=rfl
    omega
  ·unfold jn at h
   rw[List.getElem?_eq_none (by omega:(nZ a).fl.length≤j)]at h
   cases K:(nZ a).fl[i]? <;> rw[K]at h <;> cases h
 ·unfold jn at h
  rw[List.getElem?_eq_none (by omega:(nZ a).fl.length≤i)]at h
  cases h
theorem ae4(a:Nat→Int)(o:Nat→Int)(c:Ct)(hc:fi c=0)(H:Nat)(r:H≤2):Gn (nZ a) c (Sg o (pN a)) H=0:=by
 have hk:eK (nZ a) c=0:=by unfold eK;rw[ZN];simpa using hc
 unfold Gn
 rw[if_pos hk,pq,if_pos (amH o _),if_neg yv]
theorem amI(a:Nat→Int)(o:Nat→Int)(c:Ct)(hc:0≤c.cn)(H:Nat)(r:H≤2): ¬amt (nZ a) c (Sg o (pN a)) H:=by
 have D:=nj a
 have hl:=pq a
 unfold amt R5
 rintro(h|h)
 ·exact Se _ _ _ (fun i j=>aiE a c hc i j) H yv r h
 ·exact ae2 _ _ _ _ _ (fun i j=>aiE a c hc i j) H yv r h
theorem amJ(k:Nat→Nat)(hk: ∀i,k i≤2)(r:List Ru)(D:List Co)(cr:List Ex):0≤(jl k r D cr).cn:=three (fun k=>0≤Sf k) xW xW xW (hk 2)
def aEs(a b:Int):Int:=if a<b then-1 else mE (decide (b<a))
def axR(x y:Int×Bool):Int:=if x.1=y.1 then mE x.2-mE y.2 else if x.1<y.1 then-1 else 1
def amK:List (Int×Bool)→List (Int×Bool)→Int
 |x::a,y::b=>if axR x y≠0 then axR x y else amK a b
 |_,_=>0
def aEt(a b:List (Int×Bool)):Int:=if amK a b≠0 then amK a b else aEs a.length b.length
section
variable(d e:List (Int×Bool))(a b:T)(ha:IsSl a d.length (l6 d))(hb:IsSl b e.length (l6 e))(hd:d.length≤4611686018427387000)(he:e.length≤4611686018427387000)
include ha hb hd he
end
def bJ(xs:List Int)(i:Nat):Int:=if xs.length=0 then(i:Int)%65536 else xs.getD (i%xs.length) 0%65536+((i/xs.length:Nat):Int)
theorem qO(xs:List Int)(i:Nat):0≤bJ xs i:=by
 unfold bJ;split
 ·omega
 ·have:(0:Int)≤((i/xs.length:Nat):Int):=Int.natCast_nonneg _
  omega
theorem ep{a b:Int}(h:0≤a):a.tmod b=a%b:=by rw[Int.tmod_eq_emod_of_nonneg h]
theorem jm(l:T)(xs:List Int)(hl:IsSl l xs.length (ints xs))(i:Nat)(hi:i<1000000):ae pE 23 [l,.i .i64 (i:Int)] []=some (.i .i64 (bJ xs i),[]):=by
 rw[au ajk (by simp[c23])]
 by_cases h:xs.length=0
 ·have D:((xs.length:Nat):Int)=0:=yv
  have ha:bJ xs i=(i:Int)%65536:=by unfold bJ;rw[if_pos h]
  simp only[qA,seval,c23,hl.lenI,D,ha]
 ·have D: ¬((xs.length:Nat):Int)=0:=yv
  have r:i%xs.length<xs.length:=Nat.mod_lt _ yv
  have ha:bJ xs i=xs[i%xs.length]%65536+((i/xs.length:Nat):Int):=by
   unfold bJ;rw[if_neg h];simp[List.getD_eq_getElem?_getD,r]
  have e1:((i:Int)).tmod (xs.length:Int)=((i%xs.length:Nat):Int):=by rw[ep (Int.natCast_nonneg i)];exact(Int.natCast_emod i xs.length).symm
  have e2:((i:Int)).tdiv (xs.length:Int)=((i/xs.length:Nat):Int):=by rw[Int.tdiv_eq_ediv_of_nonneg (Int.natCast_nonneg i)];exact(Int.natCast_ediv i xs.length).symm
  have SZ:i/xs.length≤i:=Nat.div_le_self _ _
  have I:0≤((i/xs.length:Nat):Int):=Int.natCast_nonneg _
  have K:((i/xs.length:Nat):Int)≤(i:Int):=Int.ofNat_le.2 SZ
  have Cy:(i:Int)<1000000:=yv
  generalize ((i/xs.length:Nat):Int)=q at*
  have O:wr .i64 q=q:=bj yv
  have U:wr .i64 (xs[i%xs.length]%65536+q)=xs[i%xs.length]%65536+q:=bj yv
  have F: ∀kk,iaV l (.i kk ((i%xs.length:Nat):Int)) 1=some (.vp (T.i .i64 xs[i%xs.length]::(ints xs).drop (i%xs.length+1))):=fun kk=>by rw[hl.ia (sz:=1) (by rw[dX];omega) r,Nat.mul_one,lB xs _ r]
  simp only[qA,seval,c23,hl.lenI,D,e1,e2,F,O,U,ha]
def kF(r:List (List Nat)):List Nat:=r.flatMap (· ++ [10])
def BW(tx:List Nat):Nat→List (List Nat)×Nat
 |0=>([],0)
 |k+1=>if tx.getD k 0=10 then((BW tx k).1++ [(tx.drop (BW tx k).2).take (k-(BW tx k).2)],k+1)else BW tx k
theorem ZQ(tx:List Nat): ∀k,(BW tx k).1.length≤k∧(BW tx k).2≤k
 |0=>⟨Nat.le_refl _,Nat.le_refl _⟩
 |k+1=>by
  have:=ZQ tx k
  rw[BW]
  split
  ·simp;omega
  ·omega
theorem J8(a l b:List Nat)(L:List (List Nat))(hl:10∉l)(h:BW (a++l++b) a.length=(L,a.length)): ∀j,j≤l.length→BW (a++l++b) (a.length+j)=(L,a.length)
 |0,_=>h
 |j+1,r=>by
  have ih:=J8 a l b L hl h j yv
  rw[←Nat.add_assoc,BW,ih]
  have e:(a++l++b).getD (a.length+j) 0=l[j]:=by
   rw[List.getD_eq_getElem?_getD,List.append_assoc,List.getElem?_append_right yv,Nat.add_sub_cancel_left,List.getElem?_append_left yv,List.getElem?_eq_getElem yv]
   rfl
  rw[if_neg]
  rw[e]
  exact fun h=>hl (h▸List.getElem_mem _)
theorem Pe: ∀(r:List (List Nat)) (a:List Nat) (L:List (List Nat)) (tx:List Nat),(∀l∈r,10∉l)→tx=a++kF r→BW tx a.length=(L,a.length)→BW tx tx.length=(L++r,tx.length)
 | [],a,L,tx,_,e,h=>by
   have:tx=a:=by rw[e];simp[kF]
   rw[this]at h ⊢
   simpa using h
 |l::r,a,L,tx,hl,e,h=>by
  have e2:tx=a++l++([10]++kF r):=by rw[e];simp[kF]
  have h2:=h
  rw[e2]at h2
  have h3:=J8 a l _ L (hl l List.mem_cons_self) h2 l.length (Nat.le_refl _)
  rw[←e2]at h3
  have h4:BW tx (a++l++ [10]).length=(L++ [l],(a++l++ [10]).length):=by
   rw[List.length_append,List.length_append,List.length_singleton,BW,h3]
   have e3:tx.getD (a.length+l.length) 0=10:=by
    rw[e2,List.getD_eq_getElem?_getD,List.getElem?_append_right xv]
    simp
   rw[if_pos e3]
   have e4:(tx.drop a.length).take (a.length+l.length-a.length)=l:=by
    rw[e2,List.append_assoc,List.drop_left,Nat.add_sub_cancel_left,List.take_left]
   rw[e4]
  have h5:=Pe r (a++l++ [10]) (L++ [l]) tx (fun x hx=>hl x (List.mem_cons_of_mem _ hx)) (by rw[e2];simp) h4
  rw[h5,List.append_assoc]
  rfl
def ZR(tx:List Nat):Prop:=tx.length≤20000∧ ∀c∈tx,c=10∨(32≤c∧c≤126)
theorem Pf{c:Nat}:(do let a ←(some c:Option Nat);pure (a:Int))=some (c:Int):=rfl
section
variable(tx:List Nat)(hx:ZR tx)
include hx
theorem aEu(fr:Fr)(lh:aD ah)(sh:List ah)(h0:aa fr 0= .s tx)(h4:aa fr 4= .i .i64 0):
  Lp pE 66 oy fr lh sh (.ext 0) fun f q s=>s=sh∧q=lh:=by
 obtain⟨KB,I⟩:=hx
 refine cV C9 (fun k f q s=>aa f 4= .i .i64 (k:Int)∧s=sh∧q=lh) tx.length ⟨h4,rfl,rfl⟩ ?_ ?_
 ·rintro k f _ _ hk D ⟨F,rfl,rfl⟩
  have r:(k:Int)<tx.length:=yv
  have U:=aG (k:=k) yv
  have hc:=I tx[k] (List.getElem_mem hk)
  have V:tx[k]? =some tx[k]:=List.getElem?_eq_getElem hk
  have W:(0:Int)≤(k:Int):=yv
  generalize tx[k]=c at*
  by_cases K:c=10
  ·subst K
   simp(maxDischargeDepth:=6) only[qA,seval,gd,oy,D,h0,F,r,V,Pf,U]
  ·have hi: ¬((c:Nat):Int)=10:=yv
   have X: ¬((c:Nat):Int)<32:=yv
   have O: ¬((c:Nat):Int)>126:=yv
   simp(maxDischargeDepth:=6) only[qA,seval,gd,oy,D,h0,F,r,V,Pf,U,hi,X,O]
 ·rintro f _ _ D ⟨F,rfl,rfl⟩
  simp only[qA,seval,gd,oy,D,h0,F,Int.lt_irrefl]
theorem aEw(fr:Fr)(lh:aD ah)(sh:List ah)(h0:aa fr 0= .s tx)(h5:aa fr 5= .nilsl)(h6:aa fr 6= .i .i64 0)(h7:aa fr 7= .i .i64 0):
  Lp pE 66 ow fr lh sh (.ext 2) fun f q s=>s=sh∧bg q (aa f 5) 49 1 (BW tx tx.length).1.length (strs (BW tx tx.length).1)∧aa f 6= .i .i64 ((BW tx tx.length).2:Int):=by
 obtain⟨KB,hx2⟩:=hx
 refine cV C8 (fun k f q s=>aa f 7= .i .i64 (k:Int)∧s=sh∧bg q (aa f 5) 49 1 (BW tx k).1.length (strs (BW tx k).1)∧aa f 6= .i .i64 ((BW tx k).2:Int)) tx.length ⟨h7,rfl,by rw[h5];exact bg.nil,h6⟩ ?_ ?_
 ·rintro k f q _ hk K ⟨O,rfl,D,U⟩
  have F:(k:Int)<tx.length:=yv
  have Z:=aG (k:=k) yv
  have V:tx[k]? =some tx[k]:=List.getElem?_eq_getElem hk
  have hD:tx.getD k 0=tx[k]:=by rw[List.getD_eq_getElem?_getD,V];rfl
  have h0k:(0:Int)≤(k:Int):=yv
  obtain⟨b1,b2⟩:=ZQ tx k
  have W:((BW tx k).2≤k∧k≤tx.length):=⟨b2,by omega⟩
  rw[BW,hD]
  generalize BW tx k=p at*
  obtain⟨L,r⟩:=p
  dsimp only at*
  have X:=fun(l:List Nat) (aU:aD ah) (Y:List ah) (e:ab aU 49=ab q 49)=>dO (sh:=Y) (D.congr e) [.s l] rfl (bytes:=16) (by unfold roomy;omega) true
  have mN:=D.notS
  generalize Sh:aa f 5=v5 at D X mN
  generalize tx[k]=c at*
  by_cases I:c=10
  ·subst I
   simp(maxDischargeDepth:=6) only[qA,seval,gd,ow,K,h0,O,U,Sh,F,V,Pf,Z,X,mN,repl,tc,W]
   have h:=fun Y=>(X ((tx.drop r).take (k-r)) q Y rfl).2.1
   rw[show strs (L++ [(tx.drop r).take (k-r)])=strs L++ [.s ((tx.drop r).take (k-r))]by simp[strs],List.length_append,List.length_singleton]
   exact h _
  ·have hi: ¬((c:Nat):Int)=10:=yv
   simp(maxDischargeDepth:=6) only[qA,seval,gd,ow,K,h0,O,U,Sh,F,V,Pf,Z,hi,I]
   exact D
 ·rintro f q _ K ⟨O,rfl,D,U⟩
  simp only[qA,seval,gd,ow,K,h0,O,Int.lt_irrefl]
  exact⟨D,U⟩
end
theorem ae5(r:List (List Nat))(h: ∀l∈r,l.length≤100∧ ∀c∈l,32≤c∧c≤126)(hl:r.length≤100):ZR (kF r)∧ ∀l∈r,10∉l:=by
 refine⟨⟨?_,fun c hc=> ?_⟩,fun l hl D=> ?_⟩
 ·have: ∀m:List (List Nat),(∀l∈m,l.length≤100)→(kF m).length≤m.length*101:=by
   intro m
   induction m with
   |nil=>simp[kF]
   |cons x m ih=>
    intro F
    have h1:=F x List.mem_cons_self
    have h2:=ih fun l hl=>F l (List.mem_cons_of_mem _ hl)
    have e:kF (x::m)=x++ [10]++kF m:=by simp[kF]
    rw[e,List.length_append,List.length_append,List.length_singleton,List.length_cons]
    omega
  have:=this r fun l hl=>(h l hl).1
  omega
 ·obtain⟨l,h1,h2⟩:=List.mem_flatMap.1 hc
  rcases List.mem_append.1 h2 with h2|h2
  ·exact .inr ((h l h1).2 c h2)
  ·exact .inl (List.mem_singleton.1 h2)
 ·have:=(h l hl).2 10 D
  omega
theorem ZS(r:List (List Nat))(hx:ZR (kF r))(F: ∀l∈r,10∉l)(hl:r.length≤1000):ae pE 115 [.s (kF r)] []=some (.tup [bA r.length (strs r),.i .i64 0],[]):=by
 have e:=Pe r [] [] (kF r) F rfl rfl
 rw[List.nil_append]at e
 have h2:=fun fr lh sh=>aEu (kF r) hx fr lh sh
 have h1:=fun fr lh sh=>aEw (kF r) hx fr lh sh
 rw[e]at h1
 have O:=hx.1
 have hb: ¬((kF r).length:Int)>20000:=yv
 have V: ¬((r.length:Nat):Int)>1000:=yv
 generalize kF r=tx at*
 rw[au afQ (by simp[Ti])]
 simp(maxDischargeDepth:=6) only[qA,seval,Ti,hb]
 generalize I:DC pE 66 (.loop oy) _=D
 obtain⟨f2,l2,s2,rfl,⟨rfl,rfl⟩,U⟩:=yq C9 I (h2 _ _ _ wW wW)
 simp(maxDischargeDepth:=6) only[qA,seval]
 generalize I:DC pE 66 (.loop ow) _=D
 obtain⟨W,l3,s3,rfl,⟨rfl,K,X⟩,Gm⟩:=yq C8 I (h1 _ _ _ (by simp only[qA,seval,U]) wW wW wW)
 have Y:=fun m keep=>K.fzW (m:=m) (sh:=([]:List ah)) (keep:=keep)
 have Z:=K.lenI
 have q0:aa W 0= .s tx:=by rw[Gm 0 xW];simp only[qA,seval,U]
 have q3:=K.notS
 simp(maxDischargeDepth:=6) only[qA,xk,seval,q0,X,Z,V,Int.lt_irrefl,Y]
def pt(a:Nat→Int):Nat→Nat→Nat→Int→Nat×Int
 |0,_,x,r=>(x,r)
 |m+1,i,x,r=>pt a m (i+1) (yQ (a (2+i)) x) (yR (a (2+i)) r)
theorem J9(a:Nat→Int): ∀(m i x:Nat) (r:Int),jd a (m+1) i x r=jd a m i x r++ [pZ (i+m) (a (2+(i+m))) (pt a m i x r).1 (pt a m i x r).2]
 |0,i,x,r=>by simp[jd,pt]
 |m+1,i,x,r=>by
  rw[jd,J9 a m (i+1),jd,pt,List.cons_append,show i+1+m=i+(m+1)by omega]
theorem Ka(a:Nat→Int): ∀(m i x:Nat) (r:Int),pt a (m+1) i x r=(yQ (a (2+(i+m))) (pt a m i x r).1,yR (a (2+(i+m))) (pt a m i x r).2)
 |0,i,x,r=>rfl
 |m+1,i,x,r=>by
  rw[pt,Ka a m (i+1),pt,show i+1+m=i+(m+1)by omega]
theorem Pg(a:Nat→Int): ∀(m i x:Nat) (r:Int),x≤2→1440000≤r→r≤1441425+915*i→(pt a m i x r).1≤2∧1440000≤(pt a m i x r).2∧(pt a m i x r).2≤1441425+915*(i+m)
 |0,i,x,r,h1,h2,h3=>by rw[pt];exact⟨h1,h2,by omega⟩
 |m+1,i,x,r,h1,h2,h3=>by
  obtain⟨I,K⟩:=oa (a (2+i)/16%8).toNat
  have D:sk (a (2+i)) r=r+BS (a (2+i)/16%8).toNat:=rfl
  have O:Ep (a (2+i)) r=sk (a (2+i)) r+60+15*(a (2+i)/128%6):=rfl
  have U:yR (a (2+i)) r=sk (a (2+i)) r+20∨yR (a (2+i)) r=Ep (a (2+i)) r:=by unfold yR;split <;> simp
  rw[pt]
  obtain⟨V,F,W⟩:=Gr (a (2+i)) x h1
  have:=Pg a m (i+1) (yQ (a (2+i)) x) (yR (a (2+i)) r) F yv (by push_cast;omega)
  push_cast at this
  refine⟨this.1,this.2.1,by push_cast;omega⟩
theorem Kb(a:Int)(k:IntKind):Ev.bin .shr (.i .i64 a) (.i k 7)=some (.i .i64 (a/128)):=eY (b:=7) yv
theorem yt(a:Int)(k:IntKind):Ev.bin .shr (.i .i64 a) (.i k 10)=some (.i .i64 (a/1024)):=eY (b:=10) yv
def C3:T:= .sl [.s [117,116,99],.i .i64 0,.nilsl,.s [111,115,108,111],.i .i64 60,.sl [.i .i64 1441500,.i .i64 120,.i .i64 1444000,.i .i64 60] 2 true,.s [121,111,114,107],.i .i64 (-300),.sl [.i .i64 1442900,.i .i64 (-240)] 1 true] 3 true
def C4:T:= .sl [.s [65,65,65],.s [117,116,99],.s [66,66,66],.s [111,115,108,111],.s [67,67,67],.s [121,111,114,107]] 3 true
def gpT:T:= .sl [.i .i64 30,.i .i64 45,.i .i64 45,.i .i64 60,.i .i64 90,.i .i64 150,.i .i64 600,.i .i64 780] 8 true
def tyT:T:= .sl [.s [97,51,50,48],.s [98,55,51,55],.s [101,49,57,48]] 3 true
def cdT:T:= .sl [.s [65,65,65],.s [66,66,66],.s [67,67,67]] 3 true
theorem axS(r:Int)(h0:0≤r)(D:r<8): ∃q,∀kk,iaV gpT (.i kk r) 1=some (.vp (.i .i64 (BS r.toNat)::q)):=by
 have:r=0∨r=1∨r=2∨r=3∨r=4∨r=5∨r=6∨r=7:=yv
 rcases this with rfl|rfl|rfl|rfl|rfl|rfl|rfl|rfl <;> exact⟨_,fun _=>rfl⟩
theorem axT(r:Int)(h0:0≤r)(D:r<3): ∃q,∀kk,iaV tyT (.i kk r) 1=some (.vp (.s (ZK r.toNat)::q)):=by
 have:r=0∨r=1∨r=2:=yv
 rcases this with rfl|rfl|rfl <;> exact⟨_,fun _=>rfl⟩
theorem ZT(x:Nat)(h:x≤2): ∃q,∀kk,iaV cdT (.i kk (x:Int)) 1=some (.vp (.s (sj x)::q)):=by
 have:x=0∨x=1∨x=2:=yv
 rcases this with rfl|rfl|rfl <;> exact⟨_,fun _=>rfl⟩
theorem amL:ae pE 63 [] []=some (cdT,[]):=by
 rw[au ajw (by simp[c63])]
 unfold cdT
 simp(maxDischargeDepth:=6) only[qA,seval,c63,repl]
theorem aEz(k:Nat)(h:k<256):abV (.sl [.i .u8 (k:Int)] 1 true)=some (.s [k]):=by
 show(if k<256 then some (T.s [k])else none)=_
 rw[if_pos h]
theorem ttG{HP:aD ah}{r zT aT:T}{D:List T}{F:List Fl}{y:Fl}{i g:Nat}(h:bg HP r 91 9 (i+1) (F.flatMap ti++D))(e:ti y=D): ∃v,bg HP v 91 9 (i+1) ((F++ [y]).flatMap ti)∧(⟨g,.cells [zT,aT,r] 0 true⟩:ah)=⟨g,.cells [zT,aT,v] 0 true⟩:=by
 refine⟨r, ?_,rfl⟩
 rw[List.flatMap_append,List.flatMap_cons,List.flatMap_nil,List.append_nil,e]
 exact h
theorem Kc(i:Nat)(n:Int)(x:Nat)(r:Int){A B:Nat}(ha:O1 n x=A)(hb:yQ n x=B):ti (pZ i n x r)= [.s [70,48+i],.s (sj A),.s (sj B),.i .i64 (sk n r),.i .i64 (Ep n r),.s (ZK (n/1024%3).toNat),.i .i64 1,.i .i64 1,.i .i64 2]:=by
 subst ha hb
 rfl
section
variable(xs:List Int)(la:T)(hl:IsSl la xs.length (ints xs))
include hl
theorem ttl(Y:Int)(Er:1440000≤Y)(zG:Y≤1441425)(zT aT:T)(g:Nat)(fr:Fr)(lh:aD ah)(sh:List ah)(h0:aa fr 0=la)(h3:aa fr 3= .ptr .L 3 g 0)(h4:aa fr 4= .i .i64 0)(h5:aa fr 5= .i .i64 Y)(h6:aa fr 6=gpT)(h7:aa fr 7=tyT)(h8:aa fr 8= .i .i64 0)(Z:ab lh 3=⟨g,.cells [zT,aT,.nilsl] 0 true⟩):
  Lp pE 102 jo fr lh sh (.ext 0) fun f l s=>s=sh∧ab l 2=ab lh 2∧ ∃v,bg l v 91 9 (pN (bJ xs)) ((jd (bJ xs) (pN (bJ xs)) 0 0 Y).flatMap ti)∧ab l 3=⟨g,.cells [zT,aT,v] 0 true⟩:=by
 refine cV Hj (fun i f l s=>aa f 8= .i .i64 (i:Int)∧aa f 4= .i .i64 ((pt (bJ xs) i 0 0 Y).1:Int)∧aa f 5= .i .i64 (pt (bJ xs) i 0 0 Y).2∧s=sh∧ab l 2=ab lh 2∧ ∃v,bg l v 91 9 i ((jd (bJ xs) i 0 0 Y).flatMap ti)∧ab l 3=⟨g,.cells [zT,aT,v] 0 true⟩) (pN (bJ xs)) ⟨h8,h4,h5,rfl,rfl,.nilsl,bg.nil,Z⟩ ?_ ?_
 ·rintro i f l _ hi pr ⟨g8,g4,g5,rfl,o2,v,hO,Z⟩
  have hn:=nj (bJ xs)
  have a1:=jm la xs hl 1 yv
  have dh:=jm la xs hl (2+i) yv
  have n1:=qO xs 1
  have n2:=qO xs (2+i)
  have D:(i:Int)<2+bJ xs 1%6:=by unfold pN at hi;omega
  have t1:(bJ xs 1).tmod 6=bJ xs 1%6:=ep n1
  have w1:wr .i64 (2+bJ xs 1%6)=2+bJ xs 1%6:=bj yv
  have w2:wr .i64 (2+(i:Int))=((2+i:Nat):Int):=by rw[bj yv];omega
  have hw:=aG (k:=i) yv
  have fG:=Ka (bJ xs) i 0 0 Y
  have yl:=J9 (bJ xs) i 0 0 Y
  have hrg:=Pg (bJ xs) i 0 0 Y yv yv yv
  rw[Nat.zero_add]at fG yl
  obtain⟨r1,r2,r3⟩:=hrg
  rw[fG,yl]
  generalize (pt (bJ xs) i 0 0 Y).1=x at*
  generalize (pt (bJ xs) i 0 0 Y).2=ck at*
  generalize jd (bJ xs) i 0 0 Y=fs at*
  have F:ae pE 23 [la,.i .i64 1] []=some (.i .i64 (bJ xs 1),[]):=a1
  generalize bJ xs 1=m1 at*
  generalize bJ xs (2+i)=n at*
  have t7:n.tmod 7=n%7:=ep n2
  have t11:n.tmod 11=n%11:=ep n2
  have t5:n.tmod 5=n%5:=ep n2
  have t2:(n/8).tmod 2=n/8%2:=ep yv
  have t8:(n/16).tmod 8=n/16%8:=ep yv
  have t6:(n/128).tmod 6=n/128%6:=ep yv
  have t3:(n/1024).tmod 3=n/1024%3:=ep yv
  obtain⟨q1,e1⟩:=axS (n/16%8) yv yv
  obtain⟨q2,e2⟩:=axT (n/1024%3) yv yv
  obtain⟨g1,g2⟩:=oa (n/16%8).toNat
  obtain⟨u1,u2,u3⟩:=Gr n x r1
  obtain⟨q3,e3⟩:=ZT (O1 n x) u3
  obtain⟨q4,e4⟩:=ZT (yQ n x) u2
  have xS:=amL
  have hdp:sk n ck=ck+BS (n/16%8).toNat:=rfl
  have eZ:Ep n ck=sk n ck+60+15*(n/128%6):=rfl
  have hz:=hl.froz
  have hi6:i≤6:=yv
  have O:wr .i64 (48+(i:Int))=((48+i:Nat):Int):=by rw[bj yv];omega
  have w8:wr .u8 ((48+i:Nat):Int)=((48+i:Nat):Int):=by
   have:i=0∨i=1∨i=2∨i=3∨i=4∨i=5∨i=6:=yv
   rcases this with rfl|rfl|rfl|rfl|rfl|rfl|rfl <;> rfl
  have rP:=aEz (48+i) yv
  have w9:wr .i64 (ck+BS (n/16%8).toNat)=sk n ck:=by rw[bj yv];rfl
  have U:wr .i64 (sk n ck+60)=sk n ck+60:=bj yv
  have V:wr .i64 (15*(n/128%6))=15*(n/128%6):=bj yv
  have W:wr .i64 (sk n ck+60+15*(n/128%6))=Ep n ck:=by rw[bj yv];rfl
  have w13:wr .i64 (sk n ck+20)=sk n ck+20:=bj yv
  have w14:wr .i64 (1+n/8%2)=1+n/8%2:=bj yv
  have K:=fun(ps:List T) (rZ:ps.length=9) (aU:aD ah) (aX:List ah) (e:ab aU 91=ab l 91)=>dO (bytes:=104) (sh:=aX) (hO.congr e) ps rZ (by unfold roomy;omega) true
  have X:=fun ps rZ aU aX e=>(K ps rZ aU aX e).2.1.cells
  have KC:=fun ps rZ aU aX e=>(K ps rZ aU aX e).2.1.noTup
  have mN:=hO.notS
  obtain⟨G,hG⟩: ∃G,(ab l 12).g+1=G:=⟨_,rfl⟩
  have e0:iaV cdT (.i .i64 0) 1=some (.vp [.s (sj 0),.s (sj 1),.s (sj 2)]):=rfl
  have e8: ∃q,iaV cdT (.i .i64 (1+n/8%2)) 1=some (.vp (.s (sj (1+(n/8%2).toNat))::q)):=by
   obtain⟨q,h⟩:=ZT (1+(n/8%2).toNat) yv
   refine⟨q, ?_⟩
   have:(1+n/8%2:Int)=((1+(n/8%2).toNat:Nat):Int):=yv
   rw[this]
   exact h .i64
  obtain⟨q8,e8⟩:=e8
  generalize cdT=cdT at*
  by_cases hA:n%7=6
  ·have ha:O1 n x=0:=if_pos hA
   have Kd:yQ n x=1+(n/8%2).toNat:=by unfold yQ;rw[if_pos ha]
   have r:(1+n/8%2:Int)=((yQ n x:Nat):Int):=by rw[Kd];omega
   by_cases I:n%5=4
   ·have hc:yR n ck=sk n ck+20:=if_pos I
    simp(maxDischargeDepth:=6) only[qA,seval,gd,repl,bp,aH,jo,pr,h0,h3,h6,h7,g8,g5,Z,F,dh,t1,w1,w2,D,hw,hz,t7,t5,t2,t8,t6,t3,e1,e2,e0,e8,xS,O,w8,rP,w9,U,V,W,w13,w14,K,X,KC,mN,hG,hA,I,Kb,yt,nq,HV,HX,yi,jW]
    exact⟨congrArg (T.i .i64) r,congrArg (T.i .i64) (hc.symm),o2,ttG ((eG xW).mpr (K _ rfl _ _ wW).2.1) (Kc i n x ck ha Kd)⟩
   ·have hc:yR n ck=Ep n ck:=if_neg I
    simp(maxDischargeDepth:=6) only[qA,seval,gd,repl,bp,aH,jo,pr,h0,h3,h6,h7,g8,g5,Z,F,dh,t1,w1,w2,D,hw,hz,t7,t5,t2,t8,t6,t3,e1,e2,e0,e8,xS,O,w8,rP,w9,U,V,W,w14,K,X,KC,mN,hG,hA,I,Kb,yt,nq,HV,HX,yi,jW]
    exact⟨congrArg (T.i .i64) r,congrArg (T.i .i64) (hc.symm),o2,ttG ((eG xW).mpr (K _ rfl _ _ wW).2.1) (Kc i n x ck ha Kd)⟩
  ·have hax:O1 n x=x:=if_neg hA
   by_cases hx:x=0
   ·subst hx
    have ha:O1 n 0=0:=hax
    have Kd:yQ n 0=1+(n/8%2).toNat:=by unfold yQ;rw[if_pos ha]
    have r:(1+n/8%2:Int)=((yQ n 0:Nat):Int):=by rw[Kd];omega
    have g4:aa f 4= .i .i64 0:=g4
    by_cases I:n%5=4
    ·have hc:yR n ck=sk n ck+20:=if_pos I
     simp(maxDischargeDepth:=6) only[qA,seval,gd,repl,bp,aH,jo,pr,h0,h3,h6,h7,g8,g4,g5,Z,F,dh,t1,w1,w2,D,hw,hz,t7,t5,t2,t8,t6,t3,e1,e2,e0,e8,xS,O,w8,rP,w9,U,V,W,w13,w14,K,X,KC,mN,hG,hA,I,Kb,yt,nq,HV,HX,yi,jW]
     exact⟨congrArg (T.i .i64) r,congrArg (T.i .i64) (hc.symm),o2,ttG ((eG xW).mpr (K _ rfl _ _ wW).2.1) (Kc i n 0 ck ha Kd)⟩
    ·have hc:yR n ck=Ep n ck:=if_neg I
     simp(maxDischargeDepth:=6) only[qA,seval,gd,repl,bp,aH,jo,pr,h0,h3,h6,h7,g8,g4,g5,Z,F,dh,t1,w1,w2,D,hw,hz,t7,t5,t2,t8,t6,t3,e1,e2,e0,e8,xS,O,w8,rP,w9,U,V,W,w14,K,X,KC,mN,hG,hA,I,Kb,yt,nq,HV,HX,yi,jW]
     exact⟨congrArg (T.i .i64) r,congrArg (T.i .i64) (hc.symm),o2,ttG ((eG xW).mpr (K _ rfl _ _ wW).2.1) (Kc i n 0 ck ha Kd)⟩
   ·have ha:O1 n x=x:=hax
    have hx': ¬((x:Nat):Int)=0:=yv
    rw[hax]at e3
    by_cases hE:n%11=10
    ·have Kd:yQ n x=3-x:=by unfold yQ;rw[hax,if_neg hx,if_pos hE]
     have w15:wr .i64 (3-(x:Int))=3-(x:Int):=bj yv
     have e6: ∃q,iaV cdT (.i .i64 (3-(x:Int))) 1=some (.vp (.s (sj (3-x))::q)):=⟨q4,by
      have:(3-(x:Int))=((yQ n x:Nat):Int):=by rw[Kd];omega
      rw[this,←Kd];exact e4 .i64⟩
     obtain⟨q6,e6⟩:=e6
     have r:(3-(x:Int))=((yQ n x:Nat):Int):=by rw[Kd];omega
     by_cases I:n%5=4
     ·have hc:yR n ck=sk n ck+20:=if_pos I
      simp(maxDischargeDepth:=6) only[qA,seval,gd,repl,bp,aH,jo,pr,h0,h3,h6,h7,g8,g4,g5,Z,F,dh,t1,w1,w2,D,hw,hz,t7,t11,t5,t8,t6,t3,e1,e2,xS,O,w8,rP,w9,U,V,W,w13,K,X,KC,mN,hG,hA,I,Kb,yt,nq,HV,HX,yi,jW,hx',hE,w15,e3,e6]
      exact⟨congrArg (T.i .i64) r,congrArg (T.i .i64) (hc.symm),o2,ttG ((eG xW).mpr (K _ rfl _ _ wW).2.1) (Kc i n x ck ha Kd)⟩
     ·have hc:yR n ck=Ep n ck:=if_neg I
      simp(maxDischargeDepth:=6) only[qA,seval,gd,repl,bp,aH,jo,pr,h0,h3,h6,h7,g8,g4,g5,Z,F,dh,t1,w1,w2,D,hw,hz,t7,t11,t5,t8,t6,t3,e1,e2,xS,O,w8,rP,w9,U,V,W,K,X,KC,mN,hG,hA,I,Kb,yt,nq,HV,HX,yi,jW,hx',hE,w15,e3,e6]
      exact⟨congrArg (T.i .i64) r,congrArg (T.i .i64) (hc.symm),o2,ttG ((eG xW).mpr (K _ rfl _ _ wW).2.1) (Kc i n x ck ha Kd)⟩
    ·have Kd:yQ n x=0:=by unfold yQ;rw[hax,if_neg hx,if_neg hE]
     have r:(0:Int)=((yQ n x:Nat):Int):=by rw[Kd];rfl
     by_cases I:n%5=4
     ·have hc:yR n ck=sk n ck+20:=if_pos I
      simp(maxDischargeDepth:=6) only[qA,seval,gd,repl,bp,aH,jo,pr,h0,h3,h6,h7,g8,g4,g5,Z,F,dh,t1,w1,w2,D,hw,hz,t7,t11,t5,t8,t6,t3,e1,e2,e0,xS,O,w8,rP,w9,U,V,W,w13,K,X,KC,mN,hG,hA,I,Kb,yt,nq,HV,HX,yi,jW,hx',hE,e3]
      exact⟨congrArg (T.i .i64) r,congrArg (T.i .i64) (hc.symm),o2,ttG ((eG xW).mpr (K _ rfl _ _ wW).2.1) (Kc i n x ck ha Kd)⟩
     ·have hc:yR n ck=Ep n ck:=if_neg I
      simp(maxDischargeDepth:=6) only[qA,seval,gd,repl,bp,aH,jo,pr,h0,h3,h6,h7,g8,g4,g5,Z,F,dh,t1,w1,w2,D,hw,hz,t7,t11,t5,t8,t6,t3,e1,e2,e0,xS,O,w8,rP,w9,U,V,W,K,X,KC,mN,hG,hA,I,Kb,yt,nq,HV,HX,yi,jW,hx',hE,e3]
      exact⟨congrArg (T.i .i64) r,congrArg (T.i .i64) (hc.symm),o2,ttG ((eG xW).mpr (K _ rfl _ _ wW).2.1) (Kc i n x ck ha Kd)⟩
 ·rintro f l _ pr ⟨g8,g4,g5,rfl,o2,v,hO,Z⟩
  have hn:=nj (bJ xs)
  have a1:=jm la xs hl 1 yv
  have n1:=qO xs 1
  have t1:(bJ xs 1).tmod 6=bJ xs 1%6:=ep n1
  have w1:wr .i64 (2+bJ xs 1%6)=2+bJ xs 1%6:=bj yv
  have D: ¬((pN (bJ xs):Nat):Int)<2+bJ xs 1%6:=by unfold pN;omega
  have F:ae pE 23 [la,.i .i64 1] []=some (.i .i64 (bJ xs 1),[]):=a1
  have hz:=hl.froz
  simp(maxDischargeDepth:=6) only[qA,seval,gd,jo,pr,h0,g8,F,t1,w1,D,hz,nq]
  exact⟨o2,v,hO,Z⟩
omit hl in
theorem amM:ae pE 32 [] []=some (C3,[])∧ae pE 33 [] []=some (C4,[]):=by
 refine⟨?_, ?_⟩
 ·rw[au asw (by simp[c32])]
  unfold C3
  simp(maxDischargeDepth:=6) only[qA,seval,c32,repl]
 ·rw[au asx (by simp[c33])]
  unfold C4
  simp(maxDischargeDepth:=6) only[qA,seval,c33,repl]
theorem amN: ∃v,ae pE 24 [la] []=some (.agg [C3,C4,v],[])∧v=bA (pN (bJ xs)) ((nZ (bJ xs)).fl.flatMap ti):=by
 refine⟨_, ?_,rfl⟩
 have h0:ae pE 23 [la,.i .i64 0] []=some (.i .i64 (bJ xs 0),[]):=jm la xs hl 0 yv
 have Y:=qO xs 0
 have V:=fun fr lh sh h0 h3 h4 h5 h6 Z h8 I=>ttl xs la hl (1440000+15*(bJ xs 0%96)) yv yv C3 C4 1 fr lh sh h0 h3 h4 h5 h6 Z h8 I
 have t0:(bJ xs 0).tmod 96=bJ xs 0%96:=ep Y
 have w0:wr .i64 (15*(bJ xs 0%96))=15*(bJ xs 0%96):=bj yv
 have w1:wr .i64 (1440000+15*(bJ xs 0%96))=1440000+15*(bJ xs 0%96):=bj yv
 obtain⟨z1,z2⟩:=amM
 have hz:=hl.froz
 have k1:froz1 C3=true:=rfl
 have k2:froz1 C4=true:=rfl
 have k3:froz C3=true:=rfl
 have k4:froz C4=true:=rfl
 have k5:cellsOf C3= [C3]:=rfl
 have k6:cellsOf C4= [C4]:=rfl
 have k7:noTup C3=true:=rfl
 have k8:noTup C4=true:=rfl
 rw[au ast (by simp[c24])]
 have r:gpT= .sl [.i .i64 30,.i .i64 45,.i .i64 45,.i .i64 60,.i .i64 90,.i .i64 150,.i .i64 600,.i .i64 780] 8 true:=rfl
 have F:tyT= .sl [.s [97,51,50,48],.s [98,55,51,55],.s [101,49,57,48]] 3 true:=rfl
 unfold nZ
 simp only
 generalize C3=zT at*
 generalize C4=aT at*
 simp(maxDischargeDepth:=6) only[qA,seval,c24,repl,z1,z2,h0,t0,w0,w1,hz,k5,k6,k7,k8,nq,aAJ,aAK,←r,←F]
 generalize hD:DC pE 102 (.loop jo) _=D
 obtain⟨W,X,s2,rfl,⟨rfl,o2,v,K,I⟩,O⟩:=yq Hj hD (V _ _ _ wW wW wW wW (by simp only[qA,seval,r]) (by simp only[qA,seval,F]) wW wW)
 have q2:aa W 2= .ptr .L 2 1 0:=by rw[O 2 xW];simp only[qA,seval]
 have q3:aa W 3= .ptr .L 3 1 0:=by rw[O 3 xW];simp only[qA,seval]
 have U:ab X 2=⟨1,.cells [.nilsl,.nilsl,.nilsl] 0 true⟩:=by rw[o2];simp only[qA,seval]
 have ez:=fun e m sh keep=>bg.fzW (m:=m) (sh:=sh) (keep:=keep) (K.congr (bD X e (show(91:Nat)≠2 by decide)))
 have hcl:=K.cells
 have KC:=K.noTup
 clear O V
 simp(maxDischargeDepth:=6) only[qA,xk,seval,q2,q3,U,I,ez,k1,k2]
end
def atR(f:Nat→Int)(n:Nat):List Int:=(List.range n).map f
theorem Ph(f:Nat→Int)(n:Nat):(atR f n).length=n:=by simp[atR]
theorem ZU(o:Nat→Int)(k:Nat):Gu o (k+1)=if 0<o k%8 then Gu o k++ [k]else Gu o k:=by
 unfold Gu
 rw[List.range_succ,List.filter_append]
 by_cases h:0<o k%8 <;> simp[h]
theorem ae6(o:Nat→Int)(n:Nat):(Gu o n).length≤n:=by unfold Gu;exact Nat.le_trans (List.length_filter_le _ _) xv
section
variable(xs:List Int)(l:T)(hl:IsSl l xs.length (ints xs))(zT aT fT:T)(N:Nat)(fc:List T)(hf:IsSl fT N fc)(hN:N≤1000)
include hl hf hN
theorem aEB(fr:Fr)(lh:aD ah)(sh:List ah)(h1:aa fr 1=l)(h2:aa fr 2= .ptr .L 2 1 0)(h5:aa fr 5= .nilsl)(h6:aa fr 6= .i .i64 0)(o2:ab lh 2=⟨1,.cells [zT,aT,fT] 0 true⟩):
  Lp pE 24 sI fr lh sh (.ext 0) fun f q s=>s=sh∧bg q (aa f 5) 22 1 (Gu (bJ xs) N).length (ints ((Gu (bJ xs) N).map Int.ofNat))∧ab q 2=⟨1,.cells [zT,aT,fT] 0 true⟩:=by
 have U:=hf.lenI
 refine cV Hk (fun k f q s=>aa f 6= .i .i64 (k:Int)∧s=sh∧bg q (aa f 5) 22 1 (Gu (bJ xs) k).length (ints ((Gu (bJ xs) k).map Int.ofNat))∧ab q 2=⟨1,.cells [zT,aT,fT] 0 true⟩) N ⟨h6,rfl,by rw[h5];exact bg.nil,o2⟩ ?_ ?_
 ·rintro k f q _ hk I ⟨K,rfl,D,G9⟩
  have F:(k:Int)<N:=yv
  have X:=aG (k:=k) yv
  have e1:=jm l xs hl k yv
  have O:=G9
  have Y:=hl.froz
  have Z:=ae6 (bJ xs) k
  have V:=qO xs k
  have W:=fun(aU:aD ah) (aX:List ah) (e:ab aU 22=ab q 22)=>dO (sh:=aX) (D.congr e) [.i .i64 (k:Int)] rfl (bytes:=8) (by unfold roomy;omega) true
  have mN:=D.notS
  have ht:(bJ xs k).tmod 8=bJ xs k%8:=ep V
  rw[ZU]
  generalize Gu (bJ xs) k=r at*
  generalize Sh:aa f 5=v5 at D W mN
  by_cases hb:0<bJ xs k%8
  ·simp(maxDischargeDepth:=6) only[qA,seval,gd,sI,I,h1,h2,K,O,U,F,X,e1,ht,hb,nq,Y,Sh,W,mN,repl]
   obtain⟨_,k1,k2⟩:=W q _ rfl
   rw[show ints ((r++ [k]).map Int.ofNat)=ints (r.map Int.ofNat)++ [.i .i64 (k:Int)]by simp[ints],show(r++ [k]).length=r.length+1 by simp]
   exact by first|exact k1|exact⟨k1,(k2 2 xW).trans G9⟩
  ·simp(maxDischargeDepth:=6) only[qA,seval,gd,sI,I,h1,h2,K,O,U,F,X,e1,ht,hb,nq,Y,Sh]
   exact D
 ·rintro f q _ I ⟨K,rfl,D,G9⟩
  have O:=G9
  simp only[qA,seval,gd,sI,I,h2,O,K,U,Int.lt_irrefl]
  exact D
theorem amO(r:froz1 zT=true∧froz1 aT=true∧froz1 fT=true):ae pE 27 [.agg [zT,aT,fT],l] []=some (bA (Gu (bJ xs) N).length (ints ((Gu (bJ xs) N).map Int.ofNat)),[]):=by
 have F:=fun fr lh sh=>aEB xs l hl zT aT fT N fc hf hN fr lh sh
 obtain⟨O,U,V⟩:=r
 rw[au ajn (by simp[c27])]
 simp(maxDischargeDepth:=6) only[qA,seval,c27]
 generalize I:DC pE 24 (.loop sI) _=D
 obtain⟨W,X,s2,rfl,⟨rfl,K,G9⟩,Y⟩:=yq Hk I (F _ _ _ wW wW wW wW wW)
 have e:=K.fzV (sh:=([]:List ah)) (keep:=false)
 simp(maxDischargeDepth:=6) only[qA,xk,seval,e]
end
end Go.Proofs.YtnkgnjecmfkcfaaGreat
