/- Walks of functions of the program and of the reference, and their plain laws, part 20. Conditions: the theorems' own. -/
import Derived.Test.YtcpceiclnbmgiaaGreatM19
import Derived.KernelRfl
set_option maxRecDepth 100000
set_option linter.unusedSimpArgs false
set_option linter.unusedVariables false
set_option maxHeartbeats 16000000
namespace Go.Proofs.YtcpceiclnbmgiaaGreat
open Go Go.Ev
theorem PF(N:Nat): ∀(p:Option Int) (l:List Int),Eh N p l=0→ ∀x∈l,0≤x∧x<(N:Int)
 |_,[],_=>by simp
 |p,x::l,h=>by
  rw[Ei]at h
  by_cases hx:0≤x∧x<(N:Int)
  ·rw[if_pos hx]at h
   have D:Eh N (some x) l=0:=by
    cases p with
    |none=>exact h
    |some q=>
     by_cases r:x≤q
     ·simp[r]at h
     ·simpa[r]using h
   intro y hy
   rcases List.mem_cons.1 hy with rfl|hy
   ·exact hx
   ·exact PF N _ l D y hy
  ·rw[if_neg hx]at h;cases h
def vBd:Nat→Nat
 |0=>0
 |n+1=>2*(1+12*vBd n)
theorem Ie{α β:Type}(f:α→List β)(B:Nat): ∀(l:List α),(∀x∈l,(f x).length≤B)→(l.flatMap f).length≤l.length*B
 | [],_=>by simp
 |x::l,h=>by
  have D:=h x List.mem_cons_self
  have F:=Ie f B l fun y r=>h y (List.mem_cons_of_mem _ r)
  rw[List.flatMap_cons,List.length_append,List.length_cons,Nat.succ_mul]
  omega
section
variable(N:Nat)(J:Nat→Nat→Bool)(iC:Nat→Bool)(ok:List (Int×Bool)→Bool)(lg:List (Int×Bool)→Lg)(hN:N≤12)
include hN
theorem one_le(r:List (Int×Bool)→Nat→Nat→List Lg)(B:Nat)(D: ∀x g h,(r x g h).length≤B)(x:List (Int×Bool))(f h:Nat):(tS N J ok lg r x f h).length≤1+12*B:=by
 unfold tS
 rw[List.length_append]
 have I:(if ok x=true then [lg x]else []).length≤1:=by split <;> simp
 have K:=Ie (fun g=>r x g h) B (qd N J f) fun g _=>D x g h
 have F:(qd N J f).length≤12:=Nat.le_trans (Nk _ _) hN
 have O:(qd N J f).length*B≤12*B:=Nat.mul_le_mul_right B F
 omega
theorem Yf: ∀(n:Nat) (d:List (Int×Bool)) (f h:Nat),(lG N J iC ok lg n d f h).length≤vBd n
 |0,_,_,_=>Nat.zero_le _
 |n+1,d,f,h=>by
  have ih:=fun x g h=>Yf n x g h
  have r:=fun x h=>one_le N J ok lg hN _ _ ih x f h
  rw[lG,List.length_append,vBd]
  have a1:(if iC f=true then tS N J ok lg (lG N J iC ok lg n) (d++ [((f:Int),false)]) f h else []).length≤1+12*vBd n:=by
   split
   ·exact r _ _
   ·simp
  have a2:(if h=0 then []else tS N J ok lg (lG N J iC ok lg n) (d++ [((f:Int),true)]) f (h-1)).length≤1+12*vBd n:=by
   split
   ·simp
   ·exact r _ _
  omega
theorem Yg(H:Nat):(qo N J iC ok lg H).length≤1000000000:=by
 have h:=Ie (fun f=>lG N J iC ok lg 6 [] f H) (vBd 6) (List.range N) fun f _=>Yf N J iC ok lg hN 6 [] f H
 rw[List.length_range]at h
 have r:N*vBd 6≤12*vBd 6:=Nat.mul_le_mul_right _ hN
 have D:12*vBd 6≤1000000000:=by decide
 exact Nat.le_trans h (Nat.le_trans r D)
end
theorem Ku{v:T}(h:froz1 v=true):kept1 v=true:=by cases v <;> simp_all[froz1,kept1]
section
variable(t:Tt)(c:Ct)(zT aT fT a7 a8 a9 iq iy iv:T)(hT:uf t zT aT fT)(hC:um c a7 a8 a9 iq iy iv)(hA:M4 c)(hL: ∀f∈t.fl,f.nu.length≤oY)(hN:t.fl.length≤12)
include hT hC hA hN
include hL
def ajy(t:Tt)(c:Ct)(ops:List Int)(H:Nat):Prop:=20000<acT c t.fl ops H∨2000<(qo t.fl.length (jn c t.fl) (oB ops) (Ng t c) (zu t c) H).length
omit hL in
theorem Yh(ops:List Int)(oT:T)(ho:IsSl oT ops.length (ints ops))(hl:ops.length≤1000)(H:Int): ∃v s,be pE 8 [.agg [zT,aT,fT],.agg (jz c a7 a8 a9 iq iy iv),oT,.i .i64 H] []=some (if X1 t c ops H=0 then(if 20000<acT c t.fl ops H.toNat∨2000<(qo t.fl.length (jn c t.fl) (oB ops) (Ng t c) (zu t c) H.toNat).length then .tup [.nilsl,.i .i64 10]else .tup [v,.i .i64 0])else .tup [.nilsl,.i .i64 (X1 t c ops H)],s)∧Nn (qo t.fl.length (jn c t.fl) (oB ops) (Ng t c) (zu t c) H.toNat) v:=by
 have Y:=fzA t c zT aT fT a7 a8 a9 iq iy iv hT hC
 have F:=ho.froz
 have K9:=ho.froz1
 unfold X1
 by_cases K:uq t c=0
 ·obtain⟨s,Z,r,hS⟩:=Xg t c zT aT fT a7 a8 a9 iq iy iv hT hC hA K
  obtain⟨ht,hc⟩:=M5 t c zT aT fT a7 a8 a9 iq iy iv hT hC hA K
  obtain⟨fc,f1,f2⟩:=id hT.f
  have O:=ajo zT aT fT (jz c a7 a8 a9 iq iy iv++Z) fc t.fl.length f1 (by omega) ops oT ho hl H
  by_cases D:(if Eh t.fl.length none ops=0 then(if H<0∨6<H then 5 else 0)else Eh t.fl.length none ops)=(0:Int)
  ·obtain⟨U,h3⟩:Eh t.fl.length none ops=0∧ ¬(H<0∨6<H):=by
    by_cases U:Eh t.fl.length none ops=0
    ·rw[if_pos U]at D
     refine⟨U,fun h3=> ?_⟩
     rw[if_pos h3]at D;cases D
    ·rw[if_neg U]at D;exact absurd D U
   obtain⟨m,rfl⟩: ∃m:Nat,H=(m:Int):=⟨H.toNat,by omega⟩
   obtain⟨v,s1,V,I⟩:=aju zT aT fT a7 a8 a9 iq iy iv c Z fc t.fl f1 f2 (by omega) (Ng t c) (zu t c) (H6 t c) (fun x x1 x6 hx=>acC t c zT aT fT a7 a8 a9 iq iy iv Z hT hS ht hc x _ (GG.of (.inr ⟨_,rfl⟩)) x1 (by omega) hx) ops oT ho hl (PF _ _ _ U) m (by omega) (Yg _ _ _ _ _ hN _)
   refine⟨v, ?_⟩
   rw[acQ]at V
   rw[D]at O
   rw[if_pos K,D,if_pos rfl,Int.toNat_natCast]
   have hvf:froz1 v=true:=I.choose_spec.1.froz1
   unfold Go.Proofs.YtcpceiclnbmgiaaGreat.stV at r
   unfold acT
   generalize qo t.fl.length (jn c t.fl) (oB ops) (Ng t c) (zu t c) m=out at*
   generalize wh (wi t.fl.length m (cB t.fl.length (jn c t.fl) (oB ops)) 6)=W at*
   unfold jz at*
   simp only[List.cons_append,List.nil_append]at r V O
   rw[il fn8 (by simp[c8])]
   by_cases X:20000<W∨2000<out.length
   ·rw[if_pos X]at V ⊢
    simp(maxDischargeDepth:=6) only[qA,seval,c8,Y,r,V,O,QU,agK,apb,F,K9]
    exact⟨_,rfl,I⟩
   ·rw[if_neg X]at V ⊢
    simp(maxDischargeDepth:=6) only[qA,seval,c8,Y,r,V,O,QU,agK,apb,F,K9,hvf]
    exact⟨_,rfl,I⟩
  ·obtain⟨v,I⟩:=Ia (qo t.fl.length (jn c t.fl) (oB ops) (Ng t c) (zu t c) H.toNat)
   refine⟨v, ?_⟩
   rw[if_pos K,if_neg D]
   generalize hEE:(if Eh t.fl.length none ops=0 then(if H<0∨6<H then 5 else 0)else Eh t.fl.length none ops)=EE at*
   unfold Go.Proofs.YtcpceiclnbmgiaaGreat.stV at r
   unfold jz at*
   simp only[List.cons_append,List.nil_append]at r O
   rw[il fn8 (by simp[c8])]
   simp(maxDischargeDepth:=6) only[qA,seval,c8,Y,r,O,QU,agK,F,K9,D]
   exact⟨_,rfl,I⟩
 ·obtain⟨s,r⟩:=as5 t c zT aT fT a7 a8 a9 iq iy iv hT hC hA K
  obtain⟨v,I⟩:=Ia (qo t.fl.length (jn c t.fl) (oB ops) (Ng t c) (zu t c) H.toNat)
  refine⟨v, ?_⟩
  unfold jz at*
  rw[il fn8 (by simp[c8])]
  simp(maxDischargeDepth:=6) only[qA,seval,c8,Y,r,QU,K]
  exact⟨_,rfl,I⟩
end
structure TtA (t:Tt):Prop where
 z:(∀u∈t.zo,u.sh.length≤oY)∧t.zo.length≤oY
 a:t.ap.length≤oY
 f:t.fl.length≤oY∧ ∀u∈t.fl,u.nu.length≤oY
section
variable(t:Tt)(c:Ct)(zT aT fT a7 a8 a9 iq iy iv:T)(hT:uf t zT aT fT)(hC:um c a7 a8 a9 iq iy iv)
end
theorem Yi: ∃s,be pE 10 [] []=some (.b true,s):=⟨[],mS (m:=100) (mP (by kernel_rfl))⟩
section
variable(t:Tt)(c:Ct)(zT aT fT a7 a8 a9 iq iy iv:T)(hT:uf t zT aT fT)(hC:um c a7 a8 a9 iq iy iv)(hA:M4 c)(hTA:TtA t)(hCA:CtA c)(ops:List Int)(oT:T)(ho:IsSl oT ops.length (ints ops))(H:Int)
include hT hC hA hTA hCA ho
end
def az2:List Zo:= [⟨[117,116,99],0,[]⟩,⟨[111,115,108,111],60,[(1441500,120),(1444000,60)]⟩,⟨[121,111,114,107],-300,[(1442900,-240)]⟩]
def ac0:List Ap:= [⟨[65,65,65],[117,116,99]⟩,⟨[66,66,66],[111,115,108,111]⟩,⟨[67,67,67],[121,111,114,107]⟩]
def wj(k:Nat):List Nat:= [65+k,65+k,65+k]
def Er(k:Nat):Int:=([30,45,45,60,90,150,600,780]:List Int).getD k 30
def Yj(k:Nat):List Nat:=([[97,51,50,48],[98,55,51,55],[101,49,57,48]]:List (List Nat)).getD k [97,51,50,48]
def PG(n:Int)(x:Nat):Nat:=if n%7=6 then 0 else x
def B2(n:Int)(x:Nat):Nat:=if PG n x=0 then 1+(n/8%2).toNat else if n%11=10 then 3-PG n x else 0
def wk(n r:Int):Int:=r+Er (n/16%8).toNat
def GX(n r:Int):Int:=wk n r+60+15*(n/128%6)
def uv(i:Nat)(n:Int)(x:Nat)(r:Int):Fl:=⟨[70,48+i],wj (PG n x),wj (B2 n x),wk n r,GX n r,Yj (n/1024%3).toNat,1,1,2⟩
def B3(n r:Int):Int:=if n%5=4 then wk n r+20 else GX n r
def pO(a:Nat→Int):Nat→Nat→Nat→Int→List Fl
 |0,_,_,_=> []
 |m+1,i,x,r=>uv i (a (2+i)) x r::pO a m (i+1) (B2 (a (2+i)) x) (B3 (a (2+i)) r)
def uw(a:Nat→Int):Nat:=2+(a 1%6).toNat
def wo(a:Nat→Int):Tt:=⟨az2,ac0,pO a (uw a) 0 0 (1440000+15*(a 0%96))⟩
theorem sZ(k:Nat):30≤Er k∧Er k≤780:=by
 unfold Er
 have:k=0∨k=1∨k=2∨k=3∨k=4∨k=5∨k=6∨k=7∨8≤k:=by omega
 rcases this with rfl|rfl|rfl|rfl|rfl|rfl|rfl|rfl|h
 all_goals first|decide|(rw[List.getD_eq_getElem?_getD,List.getElem?_eq_none (by simpa using h)];decide)
theorem If(n:Int)(x:Nat)(hx:x≤2):B2 n x≠PG n x∧B2 n x≤2∧PG n x≤2:=by
 have r:PG n x≤2:=by unfold PG;split <;> omega
 unfold B2
 have D:(n/8%2).toNat≤1:=by omega
 split
 ·omega
 ·split <;> omega
theorem ac1(k:Nat):oe (Yj k)=true:=by
 unfold Yj
 have:k=0∨k=1∨k=2∨3≤k:=by omega
 rcases this with rfl|rfl|rfl|h
 all_goals first|decide|(rw[List.getD_eq_getElem?_getD,List.getElem?_eq_none (by simpa using h)];decide)
theorem Yk{a b:Nat}(h:wj a=wj b):a=b:=by unfold wj at h;simp at h;omega
theorem Lj{a:Nat}(h:a≤2):wj a∈ac0.map Ap.cd:=by
 have:a=0∨a=1∨a=2:=by omega
 rcases this with rfl|rfl|rfl <;> decide
theorem ac2(i:Nat)(h:i≤8):PH [70,48+i]=true:=by
 have:i=0∨i=1∨i=2∨i=3∨i=4∨i=5∨i=6∨i=7∨i=8:=by omega
 rcases this with rfl|rfl|rfl|rfl|rfl|rfl|rfl|rfl|rfl <;> decide
theorem ac3(i:Nat)(n:Int)(x:Nat)(r:Int)(hi:i≤8)(hx:x≤2)(U:1440000≤r)(V:r≤1500000):KP (ac0.map Ap.cd) (uv i n x r)=0:=by
 obtain⟨D,F,I⟩:=If n x hx
 obtain⟨W,X⟩:=sZ (n/16%8).toNat
 have K:wj (PG n x)≠wj (B2 n x):=fun h=>D (Yk h).symm
 have O:RY (uv i n x r)=true:=by
  unfold RY uv GX wk
  simp only[Bool.and_eq_true,decide_eq_true_eq]
  omega
 unfold KP
 rw[if_neg (by simp[uv,ac2 i hi]),if_neg (by simp[uv,ac1]),if_neg (by simpa[uv]using Lj I),if_neg (by simpa[uv]using Lj F),if_neg (by simpa[uv]using K),if_neg (by simp[O]),if_neg (by simp[uv,BK])]
theorem Yl(D:List (List Nat))(p:Option Fl)(f:Fl)(r:List Fl):IN D p (f::r)=if KP D f≠0 then KP D f else if(match p with|some p=> !Nu p f|none=>false)=true then 8 else IN D (some f) r:=by cases p <;> rfl
theorem PI(a:Nat→Int): ∀(m i x:Nat) (r:Int) (p:Option Fl),i+m≤8→x≤2→1440000≤r→r≤1441425+915*i→(∀q,p=some q→q.dp+20≤r)→IN (ac0.map Ap.cd) p (pO a m i x r)=0
 |0,_,_,_,p,_,_,_,_,_=>by cases p <;> rfl
 |m+1,i,x,r,p,hi,hx,D,V,F=>by
  obtain⟨W,X⟩:=sZ (a (2+i)/16%8).toNat
  obtain⟨Y,I,Z⟩:=If (a (2+i)) x hx
  rw[pO,Yl,if_neg (by rw[ac3 i _ x r (by omega) hx D (by omega)];simp)]
  refine Eq.trans (if_neg ?_) ?_
  ·cases p with
   |none=>simp
   |some q=>
    have h3:=F q rfl
    have K:q.dp<(uv i (a (2+i)) x r).dp:=by unfold uv wk;simp only;omega
    have:Nu q (uv i (a (2+i)) x r)=true:=by
     unfold Nu
     rw[if_pos (by omega)]
     simpa using K
    simp[this]
  have Bn:B3 (a (2+i)) r=wk (a (2+i)) r+20∨B3 (a (2+i)) r=GX (a (2+i)) r:=by unfold B3;split <;> simp
  have O:wk (a (2+i)) r=r+Er (a (2+i)/16%8).toNat:=rfl
  have nh:GX (a (2+i)) r=wk (a (2+i)) r+60+15*(a (2+i)/128%6):=rfl
  refine PI a m (i+1) _ _ _ (by omega) I (by omega) (by push_cast;omega) fun q U=> ?_
  cases U
  show(uv i (a (2+i)) x r).dp+20≤_
  unfold uv
  simp only
  omega
theorem Es(a:Nat→Int): ∀(m i x:Nat) (r:Int),(pO a m i x r).length=m
 |0,_,_,_=>rfl
 |m+1,i,x,r=>by rw[pO,List.length_cons,Es a m]
theorem tT(a:Nat→Int):2≤uw a∧uw a≤7:=by unfold uw;omega
theorem Ym(a:Nat→Int):uo (wo a)=0:=by
 obtain⟨D,F⟩:=tT a
 have r:=PI a (uw a) 0 0 (1440000+15*(a 0%96)) none (by omega) (by omega) (by omega) (by omega) (by simp)
 have I:=Es a (uw a) 0 0 (1440000+15*(a 0%96))
 unfold uo wo
 simp only
 rw[if_neg (by decide),if_neg (by decide),if_neg (by omega),if_neg (by decide),if_neg (by decide),r]
theorem PJ(a:Nat→Int): ∀(m i x:Nat) (r:Int) (j k:Nat) (D:j<(pO a m i x r).length) (hk:k<(pO a m i x r).length),(r<(pO a m i x r)[j].dp)∧(j<k→(pO a m i x r)[j].dp<(pO a m i x r)[k].dp)
 |0,_,_,_,j,k,D,_=>by simp[pO]at D
 |m+1,i,x,r,j,k,D,hk=>by
  obtain⟨O,U⟩:=sZ (a (2+i)/16%8).toNat
  have I:wk (a (2+i)) r=r+Er (a (2+i)/16%8).toNat:=rfl
  have V:GX (a (2+i)) r=wk (a (2+i)) r+60+15*(a (2+i)/128%6):=rfl
  have Bn:B3 (a (2+i)) r=wk (a (2+i)) r+20∨B3 (a (2+i)) r=GX (a (2+i)) r:=by unfold B3;split <;> simp
  have ih:=PJ a m (i+1) (B2 (a (2+i)) x) (B3 (a (2+i)) r)
  have F:(uv i (a (2+i)) x r).dp=wk (a (2+i)) r:=rfl
  simp only[pO]at D hk ⊢
  cases j with
  |zero=>
   cases k with
   |zero=>simp only[List.getElem_cons_zero,F];omega
   |succ k=>
    have K:=(ih k k (by simpa using hk) (by simpa using hk)).1
    simp only[List.getElem_cons_zero,List.getElem_cons_succ,F]
    omega
  |succ j=>
   have K:=(ih j j (by simpa using D) (by simpa using D)).1
   cases k with
   |zero=>simp only[List.getElem_cons_succ];omega
   |succ k=>
    have W:=(ih j k (by simpa using D) (by simpa using hk)).2
    simp only[List.getElem_cons_succ]
    omega
theorem pw{f g:Nat→Nat}: ∀{n m:Nat},n≤m→(∀i,i<n→f i≤g i)→Sm n f≤Sm m g
 |0,_,_,_=>Nat.zero_le _
 |n+1,0,h,_=>by omega
 |n+1,m+1,h,r=>by
  by_cases e:n=m
  ·subst e
   rw[Sm,Sm]
   have:=pw (Nat.le_refl n) fun i hi=>r i (by omega)
   have:=r n (by omega)
   omega
  ·have:=pw (show n+1≤m by omega) r
   show Sm (n+1) f≤Sm m g+g m
   omega
theorem Ig(f:Nat→Nat): ∀n,Sm n f=Sm n fun i=>f (n-1-i)
 |0=>rfl
 |n+1=>by
  rw[Sm,zx,Ig f n,Nat.add_sub_cancel,Nat.sub_zero,Nat.add_comm]
  congr 1
  exact ju fun i _=>by rw[show n-(i+1)=n-1-i by omega]
theorem afS(N i:Nat)(hi:i<N)(f g:Nat→Nat)(D: ∀j,j≤i→f j=0)(F: ∀j,i<j→j<N→f j≤g (N-1-j)):Sm N f≤Sm (N-1-i) g:=by
 rw[Ig f N]
 have r: ∀m,m≤N→Sm m (fun k=>f (N-1-k))≤Sm (min m (N-1-i)) g:=by
  intro m I
  induction m with
  |zero=>simp[Sm]
  |succ m ih=>
   have ih:=ih (by omega)
   rw[Sm]
   by_cases h:m<N-1-i
   ·rw[Nat.min_eq_left (by omega)]at ih ⊢
    have:=F (N-1-m) (by omega) (by omega)
    rw[show N-1-(N-1-m)=m by omega]at this
    rw[Sm]
    omega
   ·rw[Nat.min_eq_right (by omega)]at ih ⊢
    rw[D _ (by omega)]
    omega
 have:=r N (Nat.le_refl _)
 rwa [Nat.min_eq_right (by omega)]at this
theorem ajz{a b:Bool}(h:a=true→b=true):ou a≤ou b:=by cases a <;> cases b <;> simp_all[ou]
def Gc:Nat→Nat→Nat→Nat
 |0,_,h=>stq true uU h
 |k+1,n,h=>stq true (fun h=>Sm n fun m=>Gc k m h) h
section
variable(N:Nat)(J:Nat→Nat→Bool)(iC:Nat→Bool)(hJ: ∀i j,J i j=true→i<j)
include hJ
theorem Yn{b:Bool}{p q:Nat→Nat}(h: ∀i,p i≤q i)(k:Nat):stq b p k≤stq true q k:=by
 have _:=hJ
 unfold stq
 have r:ou b*p k≤ou true*q k:=Nat.mul_le_mul (ajz fun _=>rfl) (h k)
 cases k with
 |zero=>exact Nat.add_le_add r (Nat.le_refl _)
 |succ k=>exact Nat.add_le_add r (h k)
theorem afT: ∀(k i h:Nat),i<N→cB N J iC (k+1) i h≤Gc k (N-1-i) h
 |0,i,h,_=>by rw[cB,Gc,X0];exact Yn J hJ (fun _=>Nat.le_refl _) h
 |k+1,i,h,hi=>by
  rw[cB,Gc,X0]
  refine Yn J hJ (fun h=> ?_) h
  refine afS N i hi _ _ (fun j r=> ?_) fun j D r=> ?_
  ·have:J i j=false:=by
    cases e:J i j with
    |false=>rfl
    |true=>have:=hJ i j e;omega
   rw[this];simp[ou]
  ·have I:=afT k j h r
   have F:ou (J i j)≤1:=by cases J i j <;> simp[ou]
   calc ou (J i j)*cB N J iC (k+1) j h≤1*cB N J iC (k+1) j h:=Nat.mul_le_mul_right _ F
    _≤_:=by omega
def GcT(N H:Nat):Nat→Nat
 |0=>0
 |k+1=>GcT N H k+Sm (H+1) fun h=>Sm N fun n=>Gc k n h
omit hJ in
theorem Lk{N N' H H':Nat}(hN:N≤N')(r:H≤H'): ∀k,GcT N H k≤GcT N' H' k
 |0=>Nat.le_refl _
 |k+1=>by
  have:=Lk hN r k
  have D:=pw (n:=H+1) (m:=H'+1) (f:=fun h=>Sm N fun n=>Gc k n h) (g:=fun h=>Sm N' fun n=>Gc k n h) (by omega) fun i _=>pw hN fun _ _=>Nat.le_refl _
  rw[GcT,GcT];omega
theorem PK(H:Nat): ∀k,wi N H (cB N J iC) k≤GcT N H k
 |0=>Nat.le_refl _
 |k+1=>by
  have ih:=PK H k
  have r:LZ N H (fun h g=>cB N J iC (k+1) g h)≤Sm (H+1) fun h=>Sm N fun n=>Gc k n h:=by
   unfold LZ
   refine pw (Nat.le_refl _) fun h _=> ?_
   rw[Ig (fun n=>Gc k n h)]
   exact pw (Nat.le_refl _) fun i hi=>afT N J iC hJ k i h hi
  rw[wi,GcT];omega
theorem Sz(H:Nat)(hN:N≤7)(r:H≤2): ¬20000<wh (wi N H (cB N J iC) 6):=by
 have D:=PK N J iC hJ H 6
 have F:=Lk hN r 6
 have I:GcT 7 2 6=1218:=by decide+kernel
 have K:wh (wi N H (cB N J iC) 6)=(wi N H (cB N J iC) 6:Int):=by unfold wh;rw[jw (by omega)]
 omega
end
def Tc:Nat→Nat→Nat→Nat
 |0,_,_=>0
 |m+1,n,h=>(1+Sm n fun k=>Tc m k h)+(if h=0 then 0 else 1+Sm n fun k=>Tc m k (h-1))
theorem Ih: ∀(m:Nat) {n D h r:Nat},n≤D→h≤r→Tc m n h≤Tc m D r
 |0,_,_,_,_,_,_=>Nat.le_refl _
 |m+1,n,D,h,r,F,I=>by
  have K:=pw (f:=fun k=>Tc m k h) (g:=fun k=>Tc m k r) F fun k _=>Ih m (Nat.le_refl k) I
  have O:=pw (f:=fun k=>Tc m k (h-1)) (g:=fun k=>Tc m k (r-1)) F fun k _=>Ih m (Nat.le_refl k) (by omega)
  rw[Tc,Tc]
  by_cases e:h=0
  ·rw[if_pos e]
   split <;> omega
  ·rw[if_neg e,if_neg (by omega)];omega
theorem Et{β:Type}(J:Nat→Bool)(g:Nat→List β): ∀n,(((List.range n).filter J).flatMap g).length=Sm n fun j=>ou (J j)*(g j).length
 |0=>rfl
 |n+1=>by
  rw[Pv,Sm,←Et J g n]
  cases h:J n
  ·simp[ou]
  ·simp[ou]
section
variable(N:Nat)(J:Nat→Nat→Bool)(iC:Nat→Bool)(ok:List (Int×Bool)→Bool)(lg:List (Int×Bool)→Lg)(hJ: ∀i j,J i j=true→i<j)
include hJ
theorem PL: ∀(m:Nat) (d:List (Int×Bool)) (f h:Nat),f<N→(lG N J iC ok lg m d f h).length≤Tc m (N-1-f) h
 |0,_,_,_,_=>Nat.le_refl _
 |m+1,d,f,h,D=>by
  have one: ∀(x:List (Int×Bool)) (h:Nat),(tS N J ok lg (lG N J iC ok lg m) x f h).length≤1+Sm (N-1-f) fun k=>Tc m k h:=by
   intro x h
   unfold tS
   rw[List.length_append]
   have K:(if ok x=true then [lg x]else []).length≤1:=by split <;> simp
   have O:((qd N J f).flatMap fun g=>lG N J iC ok lg m x g h).length≤Sm (N-1-f) fun k=>Tc m k h:=by
    rw[show((qd N J f).flatMap fun g=>lG N J iC ok lg m x g h).length=_ from Et (J f) _ N]
    refine afS N f D _ _ (fun j r=> ?_) fun j F r=> ?_
    ·have:J f j=false:=by
      cases e:J f j with
      |false=>rfl
      |true=>have:=hJ f j e;omega
     rw[this];simp[ou]
    ·have U:=PL m x j h r
     have I:ou (J f j)≤1:=by cases J f j <;> simp[ou]
     calc ou (J f j)*(lG N J iC ok lg m x j h).length≤1*(lG N J iC ok lg m x j h).length:=Nat.mul_le_mul_right _ I
      _≤_:=by omega
   omega
  rw[lG,List.length_append,Tc]
  have a1:(if iC f=true then tS N J ok lg (lG N J iC ok lg m) (d++ [((f:Int),false)]) f h else []).length≤1+Sm (N-1-f) fun k=>Tc m k h:=by
   split
   ·exact one _ _
   ·simp
  by_cases e:h=0
  ·rw[if_pos e,if_pos e];simp only[List.length_nil];omega
  ·rw[if_neg e,if_neg e]
   have:=one (d++ [((f:Int),true)]) (h-1)
   omega
theorem ac4(H:Nat)(hN:N≤7)(D:H≤2): ¬2000<(qo N J iC ok lg H).length:=by
 have I:(qo N J iC ok lg H).length≤Sm N fun n=>Tc 6 n H:=by
  unfold qo
  have r:=Et (fun _=>true) (fun f=>lG N J iC ok lg 6 [] f H) N
  rw[show(List.range N).filter (fun _=>true)=List.range N from List.filter_eq_self.2 (by simp)]at r
  rw[r,Ig (fun n=>Tc 6 n H)]
  exact pw (Nat.le_refl _) fun f F=>by simpa[ou]using PL N J iC ok lg hJ 6 [] f H F
 have K:(Sm N fun n=>Tc 6 n H)≤Sm 7 fun n=>Tc 6 n 2:=pw hN fun i _=>Ih 6 (Nat.le_refl _) D
 have O:(Sm 7 fun n=>Tc 6 n 2)=1218:=by decide+kernel
 omega
end
section
variable(N:Nat)(J:Nat→Nat→Bool)(iC:Nat→Bool)(ok ok':List (Int×Bool)→Bool)(lg:List (Int×Bool)→Lg)(sP: ∀x,ok x=true→ok' x=true)
include sP
end
end Go.Proofs.YtcpceiclnbmgiaaGreat
