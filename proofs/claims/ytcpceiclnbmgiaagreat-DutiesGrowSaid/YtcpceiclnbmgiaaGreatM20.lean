/- Walks of functions of the program and of the reference, and their plain laws, part 20. Conditions: the theorems' own. -/
import Derived.Test.YtcpceiclnbmgiaaGreatM19
import Derived.KernelRfl
set_option maxRecDepth 100000
set_option linter.unusedSimpArgs false
set_option linter.unusedVariables false
set_option maxHeartbeats 16000000
namespace Go.Proofs.YtcpceiclnbmgiaaGreat
open Go Go.Ev
theorem Pf(N:Nat): ∀(p:Option Int) (l:List Int),DU N p l=0→ ∀x∈l,0≤x∧x<(N:Int)
 |_,[],_=>by simp
 |p,x::l,h=>by
  rw[DV]at h
  by_cases hx:0≤x∧x<(N:Int)
  ·rw[if_pos hx]at h
   have D:DU N (some x) l=0:=by
    cases p with
    |none=>exact h
    |some q=>
     by_cases r:x≤q
     ·simp[r]at h
     ·simpa[r]using h
   intro y hy
   rcases List.mem_cons.1 hy with rfl|hy
   ·exact hx
   ·exact Pf N _ l D y hy
  ·rw[if_neg hx]at h;cases h
def vBd:Nat→Nat
 |0=>0
 |n+1=>2*(1+12*vBd n)
theorem HG{α β:Type}(f:α→List β)(B:Nat): ∀(l:List α),(∀x∈l,(f x).length≤B)→(l.flatMap f).length≤l.length*B
 | [],_=>by simp
 |x::l,h=>by
  have D:=h x List.mem_cons_self
  have F:=HG f B l fun y r=>h y (List.mem_cons_of_mem _ r)
  rw[List.flatMap_cons,List.length_append,List.length_cons,Nat.succ_mul]
  omega
section
variable(N:Nat)(J:Nat→Nat→Bool)(il:Nat→Bool)(ok:List (Int×Bool)→Bool)(lg:List (Int×Bool)→Lg)(hN:N≤12)
include hN
theorem one_le(r:List (Int×Bool)→Nat→Nat→List Lg)(B:Nat)(D: ∀x g h,(r x g h).length≤B)(x:List (Int×Bool))(f h:Nat):(tD N J ok lg r x f h).length≤1+12*B:=by
 unfold tD
 rw[List.length_append]
 have I:(if ok x=true then [lg x]else []).length≤1:=by split <;> simp
 have K:=HG (fun g=>r x g h) B (p5 N J f) fun g _=>D x g h
 have F:(p5 N J f).length≤12:=Nat.le_trans (ML _ _) hN
 have O:(p5 N J f).length*B≤12*B:=Nat.mul_le_mul_right B F
 omega
theorem XQ: ∀(n:Nat) (d:List (Int×Bool)) (f h:Nat),(lz N J il ok lg n d f h).length≤vBd n
 |0,_,_,_=>Nat.zero_le _
 |n+1,d,f,h=>by
  have ih:=fun x g h=>XQ n x g h
  have r:=fun x h=>one_le N J ok lg hN _ _ ih x f h
  rw[lz,List.length_append,vBd]
  have a1:(if il f=true then tD N J ok lg (lz N J il ok lg n) (d++ [((f:Int),false)]) f h else []).length≤1+12*vBd n:=by
   split
   ·exact r _ _
   ·simp
  have a2:(if h=0 then []else tD N J ok lg (lz N J il ok lg n) (d++ [((f:Int),true)]) f (h-1)).length≤1+12*vBd n:=by
   split
   ·simp
   ·exact r _ _
  omega
theorem XS(H:Nat):(qM N J il ok lg H).length≤1000000000:=by
 have h:=HG (fun f=>lz N J il ok lg 6 [] f H) (vBd 6) (List.range N) fun f _=>XQ N J il ok lg hN 6 [] f H
 rw[List.length_range]at h
 have r:N*vBd 6≤12*vBd 6:=Nat.mul_le_mul_right _ hN
 have D:12*vBd 6≤1000000000:=by decide
 exact Nat.le_trans h (Nat.le_trans r D)
end
theorem J1{v:T}(h:froz1 v=true):kept1 v=true:=by cases v <;> simp_all[froz1,kept1]
section
variable(t:Tt)(c:Ct)(zT aT fT a7 a8 a9 gX hU gZ:T)(hT:wM t zT aT fT)(hC:uc c a7 a8 a9 gX hU gZ)(hA:Rs c)(hL: ∀f∈t.fl,f.nu.length≤oK)(hN:t.fl.length≤12)
include hT hC hA hN
include hL
def ajc(t:Tt)(c:Ct)(ops:List Int)(H:Nat):Prop:=20000<ace c t.fl ops H∨2000<(qM t.fl.length (jn c t.fl) (pL ops) (OZ t c) (BB t c) H).length
omit hL in
theorem XT(ops:List Int)(oT:T)(ho:IsSl oT ops.length (ints ops))(hl:ops.length≤1000)(H:Int): ∃v s,be pE 8 [.agg [zT,aT,fT],.agg (jE c a7 a8 a9 gX hU gZ),oT,.i .i64 H] []=some (if XB t c ops H=0 then(if 20000<ace c t.fl ops H.toNat∨2000<(qM t.fl.length (jn c t.fl) (pL ops) (OZ t c) (BB t c) H.toNat).length then .tup [.nilsl,.i .i64 10]else .tup [v,.i .i64 0])else .tup [.nilsl,.i .i64 (XB t c ops H)],s)∧RS (qM t.fl.length (jn c t.fl) (pL ops) (OZ t c) (BB t c) H.toNat) v:=by
 have Y:=fzA t c zT aT fT a7 a8 a9 gX hU gZ hT hC
 have F:=ho.froz
 have KD:=ho.froz1
 unfold XB
 by_cases K:yA t c=0
 ·obtain⟨s,Z,r,hS⟩:=asu t c zT aT fT a7 a8 a9 gX hU gZ hT hC hA K
  obtain⟨ht,hc⟩:=air t c zT aT fT a7 a8 a9 gX hU gZ hT hC hA K
  obtain⟨fc,f1,f2⟩:=id hT.f
  have O:=ai1 zT aT fT (jE c a7 a8 a9 gX hU gZ++Z) fc t.fl.length f1 (by omega) ops oT ho hl H
  by_cases D:(if DU t.fl.length none ops=0 then(if H<0∨6<H then 5 else 0)else DU t.fl.length none ops)=(0:Int)
  ·obtain⟨U,h3⟩:DU t.fl.length none ops=0∧ ¬(H<0∨6<H):=by
    by_cases U:DU t.fl.length none ops=0
    ·rw[if_pos U]at D
     refine⟨U,fun h3=> ?_⟩
     rw[if_pos h3]at D;cases D
    ·rw[if_neg U]at D;exact absurd D U
   obtain⟨m,rfl⟩: ∃m:Nat,H=(m:Int):=⟨H.toNat,by omega⟩
   obtain⟨v,s1,V,I⟩:=ai8 zT aT fT a7 a8 a9 gX hU gZ c Z fc t.fl f1 f2 (by omega) (OZ t c) (BB t c) (O0 t c) (fun x x1 x6 hx=>abX t c zT aT fT a7 a8 a9 gX hU gZ Z hT hS ht hc x _ (OD.of (.inr ⟨_,rfl⟩)) x1 (by omega) hx) ops oT ho hl (Pf _ _ _ U) m (by omega) (XS _ _ _ _ _ hN _)
   refine⟨v, ?_⟩
   rw[acb]at V
   rw[D]at O
   rw[if_pos K,D,if_pos rfl,Int.toNat_natCast]
   have hvf:froz1 v=true:=I.choose_spec.1.froz1
   unfold Go.Proofs.YtcpceiclnbmgiaaGreat.stV at r
   unfold ace
   generalize qM t.fl.length (jn c t.fl) (pL ops) (OZ t c) (BB t c) m=out at*
   generalize vL (vM t.fl.length m (cB t.fl.length (jn c t.fl) (pL ops)) 6)=W at*
   unfold jE at*
   simp only[List.cons_append,List.nil_append]at r V O
   rw[gQ fn8 (by simp[c8])]
   by_cases X:20000<W∨2000<out.length
   ·rw[if_pos X]at V ⊢
    simp(maxDischargeDepth:=6) only[qA,seval,c8,Y,r,V,O,Zz,agd,aoK,F,KD]
    exact⟨_,rfl,I⟩
   ·rw[if_neg X]at V ⊢
    simp(maxDischargeDepth:=6) only[qA,seval,c8,Y,r,V,O,Zz,agd,aoK,F,KD,hvf]
    exact⟨_,rfl,I⟩
  ·obtain⟨v,I⟩:=HD (qM t.fl.length (jn c t.fl) (pL ops) (OZ t c) (BB t c) H.toNat)
   refine⟨v, ?_⟩
   rw[if_pos K,if_neg D]
   generalize hEE:(if DU t.fl.length none ops=0 then(if H<0∨6<H then 5 else 0)else DU t.fl.length none ops)=EE at*
   unfold Go.Proofs.YtcpceiclnbmgiaaGreat.stV at r
   unfold jE at*
   simp only[List.cons_append,List.nil_append]at r O
   rw[gQ fn8 (by simp[c8])]
   simp(maxDischargeDepth:=6) only[qA,seval,c8,Y,r,O,Zz,agd,F,KD,D]
   exact⟨_,rfl,I⟩
 ·obtain⟨s,r⟩:=asv t c zT aT fT a7 a8 a9 gX hU gZ hT hC hA K
  obtain⟨v,I⟩:=HD (qM t.fl.length (jn c t.fl) (pL ops) (OZ t c) (BB t c) H.toNat)
  refine⟨v, ?_⟩
  unfold jE at*
  rw[gQ fn8 (by simp[c8])]
  simp(maxDischargeDepth:=6) only[qA,seval,c8,Y,r,Zz,K]
  exact⟨_,rfl,I⟩
end
structure TtA (t:Tt):Prop where
 z:(∀u∈t.zo,u.sh.length≤oK)∧t.zo.length≤oK
 a:t.ap.length≤oK
 f:t.fl.length≤oK∧ ∀u∈t.fl,u.nu.length≤oK
section
variable(t:Tt)(c:Ct)(zT aT fT a7 a8 a9 gX hU gZ:T)(hT:wM t zT aT fT)(hC:uc c a7 a8 a9 gX hU gZ)
end
theorem Pg(N:Nat)(J:Nat→Nat→Bool)(il:Nat→Bool)(ok:List (Int×Bool)→Bool)(lg:List (Int×Bool)→Lg)(MO: ∀x,(lg x).du=x): ∀(n:Nat) (d:List (Int×Bool)) (f h:Nat),∀g∈lz N J il ok lg n d f h,g.du.length≤d.length+n
 |0,_,_,_,g,hg=>by simp[lz]at hg
 |n+1,d,f,h,g,hg=>by
  have one: ∀(b:Bool) (h:Nat),g∈tD N J ok lg (lz N J il ok lg n) (d++ [((f:Int),b)]) f h→g.du.length≤d.length+(n+1):=by
   intro b h hg
   unfold tD at hg
   rcases List.mem_append.1 hg with hg|hg
   ·split at hg
    ·rw[List.mem_singleton.1 hg,MO,List.length_append,List.length_singleton];omega
    ·simp at hg
   ·obtain⟨x,_,hx⟩:=List.mem_flatMap.1 hg
    have:=Pg N J il ok lg MO n _ x h g hx
    rw[List.length_append,List.length_singleton]at this
    omega
  rw[lz]at hg
  rcases List.mem_append.1 hg with hg|hg
  ·split at hg
   ·exact one _ _ hg
   ·simp at hg
  ·split at hg
   ·simp at hg
   ·exact one _ _ hg
theorem acm(N:Nat)(J:Nat→Nat→Bool)(il:Nat→Bool)(ok:List (Int×Bool)→Bool)(lg:List (Int×Bool)→Lg)(MO: ∀x,(lg x).du=x)(H:Nat): ∀g∈qM N J il ok lg H,g.du.length≤6:=fun g r=>by
 obtain⟨f,_,h⟩:=List.mem_flatMap.1 r
 exact Pg N J il ok lg MO 6 [] f H g h
theorem XU: ∃s,be pE 10 [] []=some (.b true,s):=⟨[],mB (m:=100) (mz (by kernel_rfl))⟩
section
variable(t:Tt)(c:Ct)(zT aT fT a7 a8 a9 gX hU gZ:T)(hT:wM t zT aT fT)(hC:uc c a7 a8 a9 gX hU gZ)(hA:Rs c)(hTA:TtA t)(hCA:CtA c)(ops:List Int)(oT:T)(ho:IsSl oT ops.length (ints ops))(H:Int)
include hT hC hA hTA hCA ho
end
def aza:List Zo:= [⟨[117,116,99],0,[]⟩,⟨[111,115,108,111],60,[(1441500,120),(1444000,60)]⟩,⟨[121,111,114,107],-300,[(1442900,-240)]⟩]
def acn:List Ap:= [⟨[65,65,65],[117,116,99]⟩,⟨[66,66,66],[111,115,108,111]⟩,⟨[67,67,67],[121,111,114,107]⟩]
def vN(k:Nat):List Nat:= [65+k,65+k,65+k]
def D2(k:Nat):Int:=([30,45,45,60,90,150,600,780]:List Int).getD k 30
def XV(k:Nat):List Nat:=([[97,51,50,48],[98,55,51,55],[101,49,57,48]]:List (List Nat)).getD k [97,51,50,48]
def Ph(n:Int)(x:Nat):Nat:=if n%7=6 then 0 else x
def BH(n:Int)(x:Nat):Nat:=if Ph n x=0 then 1+(n/8%2).toNat else if n%11=10 then 3-Ph n x else 0
def vO(n r:Int):Int:=r+D2 (n/16%8).toNat
def Gn(n r:Int):Int:=vO n r+60+15*(n/128%6)
def tY(i:Nat)(n:Int)(x:Nat)(r:Int):Fl:=⟨[70,48+i],vN (Ph n x),vN (BH n x),vO n r,Gn n r,XV (n/1024%3).toNat,1,1,2⟩
def BI(n r:Int):Int:=if n%5=4 then vO n r+20 else Gn n r
def pv(a:Nat→Int):Nat→Nat→Nat→Int→List Fl
 |0,_,_,_=> []
 |m+1,i,x,r=>tY i (a (2+i)) x r::pv a m (i+1) (BH (a (2+i)) x) (BI (a (2+i)) r)
def uK(a:Nat→Int):Nat:=2+(a 1%6).toNat
def wW(a:Nat→Int):Tt:=⟨aza,acn,pv a (uK a) 0 0 (1440000+15*(a 0%96))⟩
theorem sG(k:Nat):30≤D2 k∧D2 k≤780:=by
 unfold D2
 have:k=0∨k=1∨k=2∨k=3∨k=4∨k=5∨k=6∨k=7∨8≤k:=by omega
 rcases this with rfl|rfl|rfl|rfl|rfl|rfl|rfl|rfl|h
 all_goals first|decide|(rw[List.getD_eq_getElem?_getD,List.getElem?_eq_none (by simpa using h)];decide)
theorem HH(n:Int)(x:Nat)(hx:x≤2):BH n x≠Ph n x∧BH n x≤2∧Ph n x≤2:=by
 have r:Ph n x≤2:=by unfold Ph;split <;> omega
 unfold BH
 have D:(n/8%2).toNat≤1:=by omega
 split
 ·omega
 ·split <;> omega
theorem aco(k:Nat):nV (XV k)=true:=by
 unfold XV
 have:k=0∨k=1∨k=2∨3≤k:=by omega
 rcases this with rfl|rfl|rfl|h
 all_goals first|decide|(rw[List.getD_eq_getElem?_getD,List.getElem?_eq_none (by simpa using h)];decide)
theorem XW{a b:Nat}(h:vN a=vN b):a=b:=by unfold vN at h;simp at h;omega
theorem KL{a:Nat}(h:a≤2):vN a∈acn.map Ap.cd:=by
 have:a=0∨a=1∨a=2:=by omega
 rcases this with rfl|rfl|rfl <;> decide
theorem acp(i:Nat)(h:i≤8):Pj [70,48+i]=true:=by
 have:i=0∨i=1∨i=2∨i=3∨i=4∨i=5∨i=6∨i=7∨i=8:=by omega
 rcases this with rfl|rfl|rfl|rfl|rfl|rfl|rfl|rfl|rfl <;> decide
theorem acq(i:Nat)(n:Int)(x:Nat)(r:Int)(hi:i≤8)(hx:x≤2)(U:1440000≤r)(V:r≤1500000):Km (acn.map Ap.cd) (tY i n x r)=0:=by
 obtain⟨D,F,I⟩:=HH n x hx
 obtain⟨W,X⟩:=sG (n/16%8).toNat
 have K:vN (Ph n x)≠vN (BH n x):=fun h=>D (XW h).symm
 have O:Rr (tY i n x r)=true:=by
  unfold Rr tY Gn vO
  simp only[Bool.and_eq_true,decide_eq_true_eq]
  omega
 unfold Km
 rw[if_neg (by simp[tY,acp i hi]),if_neg (by simp[tY,aco]),if_neg (by simpa[tY]using KL I),if_neg (by simpa[tY]using KL F),if_neg (by simpa[tY]using K),if_neg (by simp[O]),if_neg (by simp[tY,Bn])]
theorem XX(D:List (List Nat))(p:Option Fl)(f:Fl)(r:List Fl):Ig D p (f::r)=if Km D f≠0 then Km D f else if(match p with|some p=> !MV p f|none=>false)=true then 8 else Ig D (some f) r:=by cases p <;> rfl
theorem Pk(a:Nat→Int): ∀(m i x:Nat) (r:Int) (p:Option Fl),i+m≤8→x≤2→1440000≤r→r≤1441425+915*i→(∀q,p=some q→q.dp+20≤r)→Ig (acn.map Ap.cd) p (pv a m i x r)=0
 |0,_,_,_,p,_,_,_,_,_=>by cases p <;> rfl
 |m+1,i,x,r,p,hi,hx,D,V,F=>by
  obtain⟨W,X⟩:=sG (a (2+i)/16%8).toNat
  obtain⟨Y,I,Z⟩:=HH (a (2+i)) x hx
  rw[pv,XX,if_neg (by rw[acq i _ x r (by omega) hx D (by omega)];simp)]
  refine Eq.trans (if_neg ?_) ?_
  ·cases p with
   |none=>simp
   |some q=>
    have h3:=F q rfl
    have K:q.dp<(tY i (a (2+i)) x r).dp:=by unfold tY vO;simp only;omega
    have:MV q (tY i (a (2+i)) x r)=true:=by
     unfold MV
     rw[if_pos (by omega)]
     simpa using K
    simp[this]
  have C4:BI (a (2+i)) r=vO (a (2+i)) r+20∨BI (a (2+i)) r=Gn (a (2+i)) r:=by unfold BI;split <;> simp
  have O:vO (a (2+i)) r=r+D2 (a (2+i)/16%8).toNat:=rfl
  have mS:Gn (a (2+i)) r=vO (a (2+i)) r+60+15*(a (2+i)/128%6):=rfl
  refine Pk a m (i+1) _ _ _ (by omega) I (by omega) (by push_cast;omega) fun q U=> ?_
  cases U
  show(tY i (a (2+i)) x r).dp+20≤_
  unfold tY
  simp only
  omega
theorem D3(a:Nat→Int): ∀(m i x:Nat) (r:Int),(pv a m i x r).length=m
 |0,_,_,_=>rfl
 |m+1,i,x,r=>by rw[pv,List.length_cons,D3 a m]
theorem tE(a:Nat→Int):2≤uK a∧uK a≤7:=by unfold uK;omega
theorem ajd(a:Nat→Int):tW (wW a)=0:=by
 obtain⟨D,F⟩:=tE a
 have r:=Pk a (uK a) 0 0 (1440000+15*(a 0%96)) none (by omega) (by omega) (by omega) (by omega) (by simp)
 have I:=D3 a (uK a) 0 0 (1440000+15*(a 0%96))
 unfold tW wW
 simp only
 rw[if_neg (by decide),if_neg (by decide),if_neg (by omega),if_neg (by decide),if_neg (by decide),r]
theorem Pl(a:Nat→Int): ∀(m i x:Nat) (r:Int) (j k:Nat) (D:j<(pv a m i x r).length) (hk:k<(pv a m i x r).length),(r<(pv a m i x r)[j].dp)∧(j<k→(pv a m i x r)[j].dp<(pv a m i x r)[k].dp)
 |0,_,_,_,j,k,D,_=>by simp[pv]at D
 |m+1,i,x,r,j,k,D,hk=>by
  obtain⟨O,U⟩:=sG (a (2+i)/16%8).toNat
  have I:vO (a (2+i)) r=r+D2 (a (2+i)/16%8).toNat:=rfl
  have V:Gn (a (2+i)) r=vO (a (2+i)) r+60+15*(a (2+i)/128%6):=rfl
  have C4:BI (a (2+i)) r=vO (a (2+i)) r+20∨BI (a (2+i)) r=Gn (a (2+i)) r:=by unfold BI;split <;> simp
  have ih:=Pl a m (i+1) (BH (a (2+i)) x) (BI (a (2+i)) r)
  have F:(tY i (a (2+i)) x r).dp=vO (a (2+i)) r:=rfl
  simp only[pv]at D hk ⊢
  cases j with
  |zero=>
   cases k with
   |zero=>simp only[List.getElem_cons_zero,F];omega
   |succ k=>
    have K:=(ih k k (by simpa using hk) (by simpa using hk)).1
    simp only[List.getElem_cons_zero,List.getElem_cons_succ,F]
    omega
  |succ j=>
   have K:=(ih j j (by simpa using D) (by simpa using D)).1
   cases k with
   |zero=>simp only[List.getElem_cons_succ];omega
   |succ k=>
    have W:=(ih j k (by simpa using D) (by simpa using hk)).2
    simp only[List.getElem_cons_succ]
    omega
theorem pa{f g:Nat→Nat}: ∀{n m:Nat},n≤m→(∀i,i<n→f i≤g i)→Sm n f≤Sm m g
 |0,_,_,_=>Nat.zero_le _
 |n+1,0,h,_=>by omega
 |n+1,m+1,h,r=>by
  by_cases e:n=m
  ·subst e
   rw[Sm,Sm]
   have:=pa (Nat.le_refl n) fun i hi=>r i (by omega)
   have:=r n (by omega)
   omega
  ·have:=pa (show n+1≤m by omega) r
   show Sm (n+1) f≤Sm m g+g m
   omega
theorem HI(f:Nat→Nat): ∀n,Sm n f=Sm n fun i=>f (n-1-i)
 |0=>rfl
 |n+1=>by
  rw[Sm,yK,HI f n,Nat.add_sub_cancel,Nat.sub_zero,Nat.add_comm]
  congr 1
  exact jg fun i _=>by rw[show n-(i+1)=n-1-i by omega]
theorem afn(N i:Nat)(hi:i<N)(f g:Nat→Nat)(D: ∀j,j≤i→f j=0)(F: ∀j,i<j→j<N→f j≤g (N-1-j)):Sm N f≤Sm (N-1-i) g:=by
 rw[HI f N]
 have r: ∀m,m≤N→Sm m (fun k=>f (N-1-k))≤Sm (min m (N-1-i)) g:=by
  intro m I
  induction m with
  |zero=>simp[Sm]
  |succ m ih=>
   have ih:=ih (by omega)
   rw[Sm]
   by_cases h:m<N-1-i
   ·rw[Nat.min_eq_left (by omega)]at ih ⊢
    have:=F (N-1-m) (by omega) (by omega)
    rw[show N-1-(N-1-m)=m by omega]at this
    rw[Sm]
    omega
   ·rw[Nat.min_eq_right (by omega)]at ih ⊢
    rw[D _ (by omega)]
    omega
 have:=r N (Nat.le_refl _)
 rwa [Nat.min_eq_right (by omega)]at this
theorem aje{a b:Bool}(h:a=true→b=true):oc a≤oc b:=by cases a <;> cases b <;> simp_all[oc]
def Gc:Nat→Nat→Nat→Nat
 |0,_,h=>stq true uF h
 |k+1,n,h=>stq true (fun h=>Sm n fun m=>Gc k m h) h
section
variable(N:Nat)(J:Nat→Nat→Bool)(il:Nat→Bool)(hJ: ∀i j,J i j=true→i<j)
include hJ
theorem XY{b:Bool}{p q:Nat→Nat}(h: ∀i,p i≤q i)(k:Nat):stq b p k≤stq true q k:=by
 have _:=hJ
 unfold stq
 have r:oc b*p k≤oc true*q k:=Nat.mul_le_mul (aje fun _=>rfl) (h k)
 cases k with
 |zero=>exact Nat.add_le_add r (Nat.le_refl _)
 |succ k=>exact Nat.add_le_add r (h k)
theorem afo: ∀(k i h:Nat),i<N→cB N J il (k+1) i h≤Gc k (N-1-i) h
 |0,i,h,_=>by rw[cB,Gc,XA];exact XY J hJ (fun _=>Nat.le_refl _) h
 |k+1,i,h,hi=>by
  rw[cB,Gc,XA]
  refine XY J hJ (fun h=> ?_) h
  refine afn N i hi _ _ (fun j r=> ?_) fun j D r=> ?_
  ·have:J i j=false:=by
    cases e:J i j with
    |false=>rfl
    |true=>have:=hJ i j e;omega
   rw[this];simp[oc]
  ·have I:=afo k j h r
   have F:oc (J i j)≤1:=by cases J i j <;> simp[oc]
   calc oc (J i j)*cB N J il (k+1) j h≤1*cB N J il (k+1) j h:=Nat.mul_le_mul_right _ F
    _≤_:=by omega
def GcT(N H:Nat):Nat→Nat
 |0=>0
 |k+1=>GcT N H k+Sm (H+1) fun h=>Sm N fun n=>Gc k n h
omit hJ in
theorem KM{N N' H H':Nat}(hN:N≤N')(r:H≤H'): ∀k,GcT N H k≤GcT N' H' k
 |0=>Nat.le_refl _
 |k+1=>by
  have:=KM hN r k
  have D:=pa (n:=H+1) (m:=H'+1) (f:=fun h=>Sm N fun n=>Gc k n h) (g:=fun h=>Sm N' fun n=>Gc k n h) (by omega) fun i _=>pa hN fun _ _=>Nat.le_refl _
  rw[GcT,GcT];omega
theorem Pm(H:Nat): ∀k,vM N H (cB N J il) k≤GcT N H k
 |0=>Nat.le_refl _
 |k+1=>by
  have ih:=Pm H k
  have r:Lt N H (fun h g=>cB N J il (k+1) g h)≤Sm (H+1) fun h=>Sm N fun n=>Gc k n h:=by
   unfold Lt
   refine pa (Nat.le_refl _) fun h _=> ?_
   rw[HI (fun n=>Gc k n h)]
   exact pa (Nat.le_refl _) fun i hi=>afo N J il hJ k i h hi
  rw[vM,GcT];omega
theorem RY(H:Nat)(hN:N≤7)(r:H≤2): ¬20000<vL (vM N H (cB N J il) 6):=by
 have D:=Pm N J il hJ H 6
 have F:=KM hN r 6
 have I:GcT 7 2 6=1218:=by decide+kernel
 have K:vL (vM N H (cB N J il) 6)=(vM N H (cB N J il) 6:Int):=by unfold vL;rw[jj (by omega)]
 omega
end
def Tc:Nat→Nat→Nat→Nat
 |0,_,_=>0
 |m+1,n,h=>(1+Sm n fun k=>Tc m k h)+(if h=0 then 0 else 1+Sm n fun k=>Tc m k (h-1))
theorem HJ: ∀(m:Nat) {n D h r:Nat},n≤D→h≤r→Tc m n h≤Tc m D r
 |0,_,_,_,_,_,_=>Nat.le_refl _
 |m+1,n,D,h,r,F,I=>by
  have K:=pa (f:=fun k=>Tc m k h) (g:=fun k=>Tc m k r) F fun k _=>HJ m (Nat.le_refl k) I
  have O:=pa (f:=fun k=>Tc m k (h-1)) (g:=fun k=>Tc m k (r-1)) F fun k _=>HJ m (Nat.le_refl k) (by omega)
  rw[Tc,Tc]
  by_cases e:h=0
  ·rw[if_pos e]
   split <;> omega
  ·rw[if_neg e,if_neg (by omega)];omega
theorem D4{β:Type}(J:Nat→Bool)(g:Nat→List β): ∀n,(((List.range n).filter J).flatMap g).length=Sm n fun j=>oc (J j)*(g j).length
 |0=>rfl
 |n+1=>by
  rw[O5,Sm,←D4 J g n]
  cases h:J n
  ·simp[oc]
  ·simp[oc]
section
variable(N:Nat)(J:Nat→Nat→Bool)(il:Nat→Bool)(ok:List (Int×Bool)→Bool)(lg:List (Int×Bool)→Lg)(hJ: ∀i j,J i j=true→i<j)
include hJ
theorem Pn: ∀(m:Nat) (d:List (Int×Bool)) (f h:Nat),f<N→(lz N J il ok lg m d f h).length≤Tc m (N-1-f) h
 |0,_,_,_,_=>Nat.le_refl _
 |m+1,d,f,h,D=>by
  have one: ∀(x:List (Int×Bool)) (h:Nat),(tD N J ok lg (lz N J il ok lg m) x f h).length≤1+Sm (N-1-f) fun k=>Tc m k h:=by
   intro x h
   unfold tD
   rw[List.length_append]
   have K:(if ok x=true then [lg x]else []).length≤1:=by split <;> simp
   have O:((p5 N J f).flatMap fun g=>lz N J il ok lg m x g h).length≤Sm (N-1-f) fun k=>Tc m k h:=by
    rw[show((p5 N J f).flatMap fun g=>lz N J il ok lg m x g h).length=_ from D4 (J f) _ N]
    refine afn N f D _ _ (fun j r=> ?_) fun j F r=> ?_
    ·have:J f j=false:=by
      cases e:J f j with
      |false=>rfl
      |true=>have:=hJ f j e;omega
     rw[this];simp[oc]
    ·have U:=Pn m x j h r
     have I:oc (J f j)≤1:=by cases J f j <;> simp[oc]
     calc oc (J f j)*(lz N J il ok lg m x j h).length≤1*(lz N J il ok lg m x j h).length:=Nat.mul_le_mul_right _ I
      _≤_:=by omega
   omega
  rw[lz,List.length_append,Tc]
  have a1:(if il f=true then tD N J ok lg (lz N J il ok lg m) (d++ [((f:Int),false)]) f h else []).length≤1+Sm (N-1-f) fun k=>Tc m k h:=by
   split
   ·exact one _ _
   ·simp
  by_cases e:h=0
  ·rw[if_pos e,if_pos e];simp only[List.length_nil];omega
  ·rw[if_neg e,if_neg e]
   have:=one (d++ [((f:Int),true)]) (h-1)
   omega
theorem acr(H:Nat)(hN:N≤7)(D:H≤2): ¬2000<(qM N J il ok lg H).length:=by
 have I:(qM N J il ok lg H).length≤Sm N fun n=>Tc 6 n H:=by
  unfold qM
  have r:=D4 (fun _=>true) (fun f=>lz N J il ok lg 6 [] f H) N
  rw[show(List.range N).filter (fun _=>true)=List.range N from List.filter_eq_self.2 (by simp)]at r
  rw[r,HI (fun n=>Tc 6 n H)]
  exact pa (Nat.le_refl _) fun f F=>by simpa[oc]using Pn N J il ok lg hJ 6 [] f H F
 have K:(Sm N fun n=>Tc 6 n H)≤Sm 7 fun n=>Tc 6 n 2:=pa hN fun i _=>HJ 6 (Nat.le_refl _) D
 have O:(Sm 7 fun n=>Tc 6 n 2)=1218:=by decide+kernel
 omega
end
section
variable(N:Nat)(J:Nat→Nat→Bool)(il:Nat→Bool)(ok ok':List (Int×Bool)→Bool)(lg:List (Int×Bool)→Lg)(tV: ∀x,ok x=true→ok' x=true)
include tV
theorem XZ: ∀(n:Nat) (d:List (Int×Bool)) (f h r:Nat),h≤r→ ∀g,g∈lz N J il ok lg n d f h→g∈lz N J il ok' lg n d f r
 |0,_,_,_,_,_,g,hg=>by simp[lz]at hg
 |n+1,d,f,h,r,F,g,hg=>by
  have one: ∀(x:List (Int×Bool)) (h r:Nat),h≤r→g∈tD N J ok lg (lz N J il ok lg n) x f h→g∈tD N J ok' lg (lz N J il ok' lg n) x f r:=by
   intro x h r F hg
   unfold tD at hg ⊢
   rcases List.mem_append.1 hg with hg|hg
   ·refine List.mem_append_left _ ?_
    split at hg
    ·rename_i D
     rwa [if_pos (tV x D)]
    ·simp at hg
   ·refine List.mem_append_right _ ?_
    obtain⟨y,D,I⟩:=List.mem_flatMap.1 hg
    exact List.mem_flatMap.2 ⟨y,D,XZ n x y h r F g I⟩
  rw[lz]at hg ⊢
  rcases List.mem_append.1 hg with hg|hg
  ·refine List.mem_append_left _ ?_
   split at hg
   ·rename_i D
    rw[if_pos D]
    exact one _ _ _ F hg
   ·simp at hg
  ·refine List.mem_append_right _ ?_
   split at hg
   ·simp at hg
   ·rename_i D
    rw[if_neg (by omega)]
    exact one _ _ _ (by omega) hg
theorem X0(H H':Nat)(r:H≤H'): ∀g,g∈qM N J il ok lg H→g∈qM N J il ok' lg H':=by
 intro g D
 obtain⟨f,F,I⟩:=List.mem_flatMap.1 D
 exact List.mem_flatMap.2 ⟨f,F,XZ N J il ok ok' lg tV 6 [] f H H' r g I⟩
end
end Go.Proofs.YtcpceiclnbmgiaaGreat
