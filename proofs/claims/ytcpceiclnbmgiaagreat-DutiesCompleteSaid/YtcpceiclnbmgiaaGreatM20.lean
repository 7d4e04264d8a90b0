/- Walks of functions of the program and of the reference, and their plain laws, part 20. Conditions: the theorems' own. -/
import Derived.Test.YtcpceiclnbmgiaaGreatM19
import Derived.KernelRfl
set_option maxRecDepth 100000
set_option linter.unusedSimpArgs false
set_option linter.unusedVariables false
set_option maxHeartbeats 16000000
namespace Go.Proofs.YtcpceiclnbmgiaaGreat
open Go Go.Ev
theorem P0(N:Nat): ∀(p:Option Int) (l:List Int),EB N p l=0→ ∀x∈l,0≤x∧x<(N:Int)
 |_,[],_=>by simp
 |p,x::l,h=>by
  rw[EC]at h
  by_cases hx:0≤x∧x<(N:Int)
  ·rw[if_pos hx]at h
   have D:EB N (some x) l=0:=by
    cases p with
    |none=>exact h
    |some q=>
     by_cases r:x≤q
     ·simp[r]at h
     ·simpa[r]using h
   intro y hy
   rcases List.mem_cons.1 hy with rfl|hy
   ·exact hx
   ·exact P0 N _ l D y hy
  ·rw[if_neg hx]at h;cases h
def vBd:Nat→Nat
 |0=>0
 |n+1=>2*(1+12*vBd n)
theorem Ip{α β:Type}(f:α→List β)(B:Nat): ∀(l:List α),(∀x∈l,(f x).length≤B)→(l.flatMap f).length≤l.length*B
 | [],_=>by simp
 |x::l,h=>by
  have D:=h x List.mem_cons_self
  have F:=Ip f B l fun y r=>h y (List.mem_cons_of_mem _ r)
  rw[List.flatMap_cons,List.length_append,List.length_cons,Nat.succ_mul]
  omega
section
variable(N:Nat)(J:Nat→Nat→Bool)(iC:Nat→Bool)(ok:List (Int×Bool)→Bool)(lg:List (Int×Bool)→Lg)(hN:N≤12)
include hN
theorem one_le(r:List (Int×Bool)→Nat→Nat→List Lg)(B:Nat)(D: ∀x g h,(r x g h).length≤B)(x:List (Int×Bool))(f h:Nat):(uG N J ok lg r x f h).length≤1+12*B:=by
 unfold uG
 rw[List.length_append]
 have I:(if ok x=true then [lg x]else []).length≤1:=by split <;> simp
 have K:=Ip (fun g=>r x g h) B (qy N J f) fun g _=>D x g h
 have F:(qy N J f).length≤12:=Nat.le_trans (NJ _ _) hN
 have O:(qy N J f).length*B≤12*B:=Nat.mul_le_mul_right B F
 omega
theorem YC: ∀(n:Nat) (d:List (Int×Bool)) (f h:Nat),(lZ N J iC ok lg n d f h).length≤vBd n
 |0,_,_,_=>Nat.zero_le _
 |n+1,d,f,h=>by
  have ih:=fun x g h=>YC n x g h
  have r:=fun x h=>one_le N J ok lg hN _ _ ih x f h
  rw[lZ,List.length_append,vBd]
  have a1:(if iC f=true then uG N J ok lg (lZ N J iC ok lg n) (d++ [((f:Int),false)]) f h else []).length≤1+12*vBd n:=by
   split
   ·exact r _ _
   ·simp
  have a2:(if h=0 then []else uG N J ok lg (lZ N J iC ok lg n) (d++ [((f:Int),true)]) f (h-1)).length≤1+12*vBd n:=by
   split
   ·simp
   ·exact r _ _
  omega
theorem YD(H:Nat):(pU N J iC ok lg H).length≤1000000000:=by
 have h:=Ip (fun f=>lZ N J iC ok lg 6 [] f H) (vBd 6) (List.range N) fun f _=>YC N J iC ok lg hN 6 [] f H
 rw[List.length_range]at h
 have r:N*vBd 6≤12*vBd 6:=Nat.mul_le_mul_right _ hN
 have D:12*vBd 6≤1000000000:=by decide
 exact Nat.le_trans h (Nat.le_trans r D)
end
theorem KJ{v:T}(h:froz1 v=true):kept1 v=true:=by cases v <;> simp_all[froz1,kept1]
section
variable(t:Tt)(c:Ct)(zT aT fT a7 a8 a9 iv iy iw:T)(hT:sZ t zT aT fT)(hC:tp c a7 a8 a9 iv iy iw)(hA:Nv c)(hL: ∀f∈t.fl,f.nu.length≤pe)(hN:t.fl.length≤12)
include hT hC hA hN
include hL
def aj2(t:Tt)(c:Ct)(ops:List Int)(H:Nat):Prop:=20000<ac9 c t.fl ops H∨2000<(pU t.fl.length (jn c t.fl) (nG ops) (FT t c) (ue t c) H).length
omit hL in
theorem YE(ops:List Int)(oT:T)(ho:IsSl oT ops.length (ints ops))(hl:ops.length≤1000)(H:Int): ∃v s,be pE 8 [.agg [zT,aT,fT],.agg (jB c a7 a8 a9 iv iy iw),oT,.i .i64 H] []=some (if Yp t c ops H=0 then(if 20000<ac9 c t.fl ops H.toNat∨2000<(pU t.fl.length (jn c t.fl) (nG ops) (FT t c) (ue t c) H.toNat).length then .tup [.nilsl,.i .i64 10]else .tup [v,.i .i64 0])else .tup [.nilsl,.i .i64 (Yp t c ops H)],s)∧Lw (pU t.fl.length (jn c t.fl) (nG ops) (FT t c) (ue t c) H.toNat) v:=by
 have Y:=fzA t c zT aT fT a7 a8 a9 iv iy iw hT hC
 have F:=ho.froz
 have Lr:=ho.froz1
 unfold Yp
 by_cases K:uF t c=0
 ·obtain⟨s,Z,r,hS⟩:=af4 t c zT aT fT a7 a8 a9 iv iy iw hT hC hA K
  obtain⟨ht,hc⟩:=XF t c zT aT fT a7 a8 a9 iv iy iw hT hC hA K
  obtain⟨fc,f1,f2⟩:=id hT.f
  have O:=ajS zT aT fT (jB c a7 a8 a9 iv iy iw++Z) fc t.fl.length f1 (by omega) ops oT ho hl H
  by_cases D:(if EB t.fl.length none ops=0 then(if H<0∨6<H then 5 else 0)else EB t.fl.length none ops)=(0:Int)
  ·obtain⟨U,h3⟩:EB t.fl.length none ops=0∧ ¬(H<0∨6<H):=by
    by_cases U:EB t.fl.length none ops=0
    ·rw[if_pos U]at D
     refine⟨U,fun h3=> ?_⟩
     rw[if_pos h3]at D;cases D
    ·rw[if_neg U]at D;exact absurd D U
   obtain⟨m,rfl⟩: ∃m:Nat,H=(m:Int):=⟨H.toNat,by omega⟩
   obtain⟨v,s1,V,I⟩:=ajY zT aT fT a7 a8 a9 iv iy iw c Z fc t.fl f1 f2 (by omega) (FT t c) (ue t c) (zJ t c) (fun x x1 x6 hx=>acS t c zT aT fT a7 a8 a9 iv iy iw Z hT hS ht hc x _ (H4.of (.inr ⟨_,rfl⟩)) x1 (by omega) hx) ops oT ho hl (P0 _ _ _ U) m (by omega) (YD _ _ _ _ _ hN _)
   refine⟨v, ?_⟩
   rw[ac7]at V
   rw[D]at O
   rw[if_pos K,D,if_pos rfl,Int.toNat_natCast]
   have hvf:froz1 v=true:=I.choose_spec.1.froz1
   unfold Go.Proofs.YtcpceiclnbmgiaaGreat.stV at r
   unfold ac9
   generalize pU t.fl.length (jn c t.fl) (nG ops) (FT t c) (ue t c) m=out at*
   generalize wE (wF t.fl.length m (cB t.fl.length (jn c t.fl) (nG ops)) 6)=W at*
   unfold jB at*
   simp only[List.cons_append,List.nil_append]at r V O
   rw[il fn8 (by simp[c8])]
   by_cases X:20000<W∨2000<out.length
   ·rw[if_pos X]at V ⊢
    simp(maxDischargeDepth:=6) only[qA,seval,c8,Y,r,V,O,UH,ahc,apB,F,Lr]
    exact⟨_,rfl,I⟩
   ·rw[if_neg X]at V ⊢
    simp(maxDischargeDepth:=6) only[qA,seval,c8,Y,r,V,O,UH,ahc,apB,F,Lr,hvf]
    exact⟨_,rfl,I⟩
  ·obtain⟨v,I⟩:=Il (pU t.fl.length (jn c t.fl) (nG ops) (FT t c) (ue t c) H.toNat)
   refine⟨v, ?_⟩
   rw[if_pos K,if_neg D]
   generalize hEE:(if EB t.fl.length none ops=0 then(if H<0∨6<H then 5 else 0)else EB t.fl.length none ops)=EE at*
   unfold Go.Proofs.YtcpceiclnbmgiaaGreat.stV at r
   unfold jB at*
   simp only[List.cons_append,List.nil_append]at r O
   rw[il fn8 (by simp[c8])]
   simp(maxDischargeDepth:=6) only[qA,seval,c8,Y,r,O,UH,ahc,F,Lr,D]
   exact⟨_,rfl,I⟩
 ·obtain⟨s,r⟩:=atq t c zT aT fT a7 a8 a9 iv iy iw hT hC hA K
  obtain⟨v,I⟩:=Il (pU t.fl.length (jn c t.fl) (nG ops) (FT t c) (ue t c) H.toNat)
  refine⟨v, ?_⟩
  unfold jB at*
  rw[il fn8 (by simp[c8])]
  simp(maxDischargeDepth:=6) only[qA,seval,c8,Y,r,UH,K]
  exact⟨_,rfl,I⟩
end
structure TtA (t:Tt):Prop where
 z:(∀u∈t.zo,u.sh.length≤pe)∧t.zo.length≤pe
 a:t.ap.length≤pe
 f:t.fl.length≤pe∧ ∀u∈t.fl,u.nu.length≤pe
section
variable(t:Tt)(c:Ct)(zT aT fT a7 a8 a9 iv iy iw:T)(hT:sZ t zT aT fT)(hC:tp c a7 a8 a9 iv iy iw)
end
theorem P1(N:Nat)(J:Nat→Nat→Bool)(iC:Nat→Bool)(ok:List (Int×Bool)→Bool)(lg:List (Int×Bool)→Lg)(Fo: ∀x,(lg x).du=x): ∀(n:Nat) (d:List (Int×Bool)) (f h:Nat),∀g∈lZ N J iC ok lg n d f h,g.du.length≤d.length+n
 |0,_,_,_,g,hg=>by simp[lZ]at hg
 |n+1,d,f,h,g,hg=>by
  have one: ∀(b:Bool) (h:Nat),g∈uG N J ok lg (lZ N J iC ok lg n) (d++ [((f:Int),b)]) f h→g.du.length≤d.length+(n+1):=by
   intro b h hg
   unfold uG at hg
   rcases List.mem_append.1 hg with hg|hg
   ·split at hg
    ·rw[List.mem_singleton.1 hg,Fo,List.length_append,List.length_singleton];omega
    ·simp at hg
   ·obtain⟨x,_,hx⟩:=List.mem_flatMap.1 hg
    have:=P1 N J iC ok lg Fo n _ x h g hx
    rw[List.length_append,List.length_singleton]at this
    omega
  rw[lZ]at hg
  rcases List.mem_append.1 hg with hg|hg
  ·split at hg
   ·exact one _ _ hg
   ·simp at hg
  ·split at hg
   ·simp at hg
   ·exact one _ _ hg
theorem adi(N:Nat)(J:Nat→Nat→Bool)(iC:Nat→Bool)(ok:List (Int×Bool)→Bool)(lg:List (Int×Bool)→Lg)(Fo: ∀x,(lg x).du=x)(H:Nat): ∀g∈pU N J iC ok lg H,g.du.length≤6:=fun g r=>by
 obtain⟨f,_,h⟩:=List.mem_flatMap.1 r
 exact P1 N J iC ok lg Fo 6 [] f H g h
theorem YF: ∃s,be pE 10 [] []=some (.b true,s):=⟨[],mX (m:=100) (mS (by kernel_rfl))⟩
section
variable(t:Tt)(c:Ct)(zT aT fT a7 a8 a9 iv iy iw:T)(hT:sZ t zT aT fT)(hC:tp c a7 a8 a9 iv iy iw)(hA:Nv c)(hTA:TtA t)(hCA:CtA c)(ops:List Int)(oT:T)(ho:IsSl oT ops.length (ints ops))(H:Int)
include hT hC hA hTA hCA ho
end
def aAu:List Zo:= [⟨[117,116,99],0,[]⟩,⟨[111,115,108,111],60,[(1441500,120),(1444000,60)]⟩,⟨[121,111,114,107],-300,[(1442900,-240)]⟩]
def adj:List Ap:= [⟨[65,65,65],[117,116,99]⟩,⟨[66,66,66],[111,115,108,111]⟩,⟨[67,67,67],[121,111,114,107]⟩]
def wG(k:Nat):List Nat:= [65+k,65+k,65+k]
def EM(k:Nat):Int:=([30,45,45,60,90,150,600,780]:List Int).getD k 30
def YG(k:Nat):List Nat:=([[97,51,50,48],[98,55,51,55],[101,49,57,48]]:List (List Nat)).getD k [97,51,50,48]
def P2(n:Int)(x:Nat):Nat:=if n%7=6 then 0 else x
def Ci(n:Int)(x:Nat):Nat:=if P2 n x=0 then 1+(n/8%2).toNat else if n%11=10 then 3-P2 n x else 0
def wH(n r:Int):Int:=r+EM (n/16%8).toNat
def G3(n r:Int):Int:=wH n r+60+15*(n/128%6)
def uI(i:Nat)(n:Int)(x:Nat)(r:Int):Fl:=⟨[70,48+i],wG (P2 n x),wG (Ci n x),wH n r,G3 n r,YG (n/1024%3).toNat,1,1,2⟩
def Cj(n r:Int):Int:=if n%5=4 then wH n r+20 else G3 n r
def pV(a:Nat→Int):Nat→Nat→Nat→Int→List Fl
 |0,_,_,_=> []
 |m+1,i,x,r=>uI i (a (2+i)) x r::pV a m (i+1) (Ci (a (2+i)) x) (Cj (a (2+i)) r)
def tq(a:Nat→Int):Nat:=2+(a 1%6).toNat
def rm(a:Nat→Int):Tt:=⟨aAu,adj,pV a (tq a) 0 0 (1440000+15*(a 0%96))⟩
theorem th(k:Nat):30≤EM k∧EM k≤780:=by
 unfold EM
 have:k=0∨k=1∨k=2∨k=3∨k=4∨k=5∨k=6∨k=7∨8≤k:=by omega
 rcases this with rfl|rfl|rfl|rfl|rfl|rfl|rfl|rfl|h
 all_goals first|decide|(rw[List.getD_eq_getElem?_getD,List.getElem?_eq_none (by simpa using h)];decide)
theorem Iq(n:Int)(x:Nat)(hx:x≤2):Ci n x≠P2 n x∧Ci n x≤2∧P2 n x≤2:=by
 have r:P2 n x≤2:=by unfold P2;split <;> omega
 unfold Ci
 have D:(n/8%2).toNat≤1:=by omega
 split
 ·omega
 ·split <;> omega
theorem adk(k:Nat):ot (YG k)=true:=by
 unfold YG
 have:k=0∨k=1∨k=2∨3≤k:=by omega
 rcases this with rfl|rfl|rfl|h
 all_goals first|decide|(rw[List.getD_eq_getElem?_getD,List.getElem?_eq_none (by simpa using h)];decide)
theorem YH{a b:Nat}(h:wG a=wG b):a=b:=by unfold wG at h;simp at h;omega
theorem LA{a:Nat}(h:a≤2):wG a∈adj.map Ap.cd:=by
 have:a=0∨a=1∨a=2:=by omega
 rcases this with rfl|rfl|rfl <;> decide
theorem adl(i:Nat)(h:i≤8):P3 [70,48+i]=true:=by
 have:i=0∨i=1∨i=2∨i=3∨i=4∨i=5∨i=6∨i=7∨i=8:=by omega
 rcases this with rfl|rfl|rfl|rfl|rfl|rfl|rfl|rfl|rfl <;> decide
theorem adm(i:Nat)(n:Int)(x:Nat)(r:Int)(hi:i≤8)(hx:x≤2)(U:1440000≤r)(V:r≤1500000):K3 (adj.map Ap.cd) (uI i n x r)=0:=by
 obtain⟨D,F,I⟩:=Iq n x hx
 obtain⟨W,X⟩:=th (n/16%8).toNat
 have K:wG (P2 n x)≠wG (Ci n x):=fun h=>D (YH h).symm
 have O:Sj (uI i n x r)=true:=by
  unfold Sj uI G3 wH
  simp only[Bool.and_eq_true,decide_eq_true_eq]
  omega
 unfold K3
 rw[if_neg (by simp[uI,adl i hi]),if_neg (by simp[uI,adk]),if_neg (by simpa[uI]using LA I),if_neg (by simpa[uI]using LA F),if_neg (by simpa[uI]using K),if_neg (by simp[O]),if_neg (by simp[uI,BY])]
theorem YI(D:List (List Nat))(p:Option Fl)(f:Fl)(r:List Fl):I3 D p (f::r)=if K3 D f≠0 then K3 D f else if(match p with|some p=> !NS p f|none=>false)=true then 8 else I3 D (some f) r:=by cases p <;> rfl
theorem P4(a:Nat→Int): ∀(m i x:Nat) (r:Int) (p:Option Fl),i+m≤8→x≤2→1440000≤r→r≤1441425+915*i→(∀q,p=some q→q.dp+20≤r)→I3 (adj.map Ap.cd) p (pV a m i x r)=0
 |0,_,_,_,p,_,_,_,_,_=>by cases p <;> rfl
 |m+1,i,x,r,p,hi,hx,D,V,F=>by
  obtain⟨W,X⟩:=th (a (2+i)/16%8).toNat
  obtain⟨Y,I,Z⟩:=Iq (a (2+i)) x hx
  rw[pV,YI,if_neg (by rw[adm i _ x r (by omega) hx D (by omega)];simp)]
  refine Eq.trans (if_neg ?_) ?_
  ·cases p with
   |none=>simp
   |some q=>
    have h3:=F q rfl
    have K:q.dp<(uI i (a (2+i)) x r).dp:=by unfold uI wH;simp only;omega
    have:NS q (uI i (a (2+i)) x r)=true:=by
     unfold NS
     rw[if_pos (by omega)]
     simpa using K
    simp[this]
  have Bz:Cj (a (2+i)) r=wH (a (2+i)) r+20∨Cj (a (2+i)) r=G3 (a (2+i)) r:=by unfold Cj;split <;> simp
  have O:wH (a (2+i)) r=r+EM (a (2+i)/16%8).toNat:=rfl
  have nq:G3 (a (2+i)) r=wH (a (2+i)) r+60+15*(a (2+i)/128%6):=rfl
  refine P4 a m (i+1) _ _ _ (by omega) I (by omega) (by push_cast;omega) fun q U=> ?_
  cases U
  show(uI i (a (2+i)) x r).dp+20≤_
  unfold uI
  simp only
  omega
theorem EN(a:Nat→Int): ∀(m i x:Nat) (r:Int),(pV a m i x r).length=m
 |0,_,_,_=>rfl
 |m+1,i,x,r=>by rw[pV,List.length_cons,EN a m]
theorem ug(a:Nat→Int):2≤tq a∧tq a≤7:=by unfold tq;omega
theorem YJ(a:Nat→Int):uD (rm a)=0:=by
 obtain⟨D,F⟩:=ug a
 have r:=P4 a (tq a) 0 0 (1440000+15*(a 0%96)) none (by omega) (by omega) (by omega) (by omega) (by simp)
 have I:=EN a (tq a) 0 0 (1440000+15*(a 0%96))
 unfold uD rm
 simp only
 rw[if_neg (by decide),if_neg (by decide),if_neg (by omega),if_neg (by decide),if_neg (by decide),r]
theorem P5(a:Nat→Int): ∀(m i x:Nat) (r:Int) (j k:Nat) (D:j<(pV a m i x r).length) (hk:k<(pV a m i x r).length),(r<(pV a m i x r)[j].dp)∧(j<k→(pV a m i x r)[j].dp<(pV a m i x r)[k].dp)
 |0,_,_,_,j,k,D,_=>by simp[pV]at D
 |m+1,i,x,r,j,k,D,hk=>by
  obtain⟨O,U⟩:=th (a (2+i)/16%8).toNat
  have I:wH (a (2+i)) r=r+EM (a (2+i)/16%8).toNat:=rfl
  have V:G3 (a (2+i)) r=wH (a (2+i)) r+60+15*(a (2+i)/128%6):=rfl
  have Bz:Cj (a (2+i)) r=wH (a (2+i)) r+20∨Cj (a (2+i)) r=G3 (a (2+i)) r:=by unfold Cj;split <;> simp
  have ih:=P5 a m (i+1) (Ci (a (2+i)) x) (Cj (a (2+i)) r)
  have F:(uI i (a (2+i)) x r).dp=wH (a (2+i)) r:=rfl
  simp only[pV]at D hk ⊢
  cases j with
  |zero=>
   cases k with
   |zero=>simp only[List.getElem_cons_zero,F];omega
   |succ k=>
    have K:=(ih k k (by simpa using hk) (by simpa using hk)).1
    simp only[List.getElem_cons_zero,List.getElem_cons_succ,F]
    omega
  |succ j=>
   have K:=(ih j j (by simpa using D) (by simpa using D)).1
   cases k with
   |zero=>simp only[List.getElem_cons_succ];omega
   |succ k=>
    have W:=(ih j k (by simpa using D) (by simpa using hk)).2
    simp only[List.getElem_cons_succ]
    omega
theorem pD{f g:Nat→Nat}: ∀{n m:Nat},n≤m→(∀i,i<n→f i≤g i)→Sm n f≤Sm m g
 |0,_,_,_=>Nat.zero_le _
 |n+1,0,h,_=>by omega
 |n+1,m+1,h,r=>by
  by_cases e:n=m
  ·subst e
   rw[Sm,Sm]
   have:=pD (Nat.le_refl n) fun i hi=>r i (by omega)
   have:=r n (by omega)
   omega
  ·have:=pD (show n+1≤m by omega) r
   show Sm (n+1) f≤Sm m g+g m
   omega
theorem Ir(f:Nat→Nat): ∀n,Sm n f=Sm n fun i=>f (n-1-i)
 |0=>rfl
 |n+1=>by
  rw[Sm,zK,Ir f n,Nat.add_sub_cancel,Nat.sub_zero,Nat.add_comm]
  congr 1
  exact jv fun i _=>by rw[show n-(i+1)=n-1-i by omega]
theorem agj(N i:Nat)(hi:i<N)(f g:Nat→Nat)(D: ∀j,j≤i→f j=0)(F: ∀j,i<j→j<N→f j≤g (N-1-j)):Sm N f≤Sm (N-1-i) g:=by
 rw[Ir f N]
 have r: ∀m,m≤N→Sm m (fun k=>f (N-1-k))≤Sm (min m (N-1-i)) g:=by
  intro m I
  induction m with
  |zero=>simp[Sm]
  |succ m ih=>
   have ih:=ih (by omega)
   rw[Sm]
   by_cases h:m<N-1-i
   ·rw[Nat.min_eq_left (by omega)]at ih ⊢
    have:=F (N-1-m) (by omega) (by omega)
    rw[show N-1-(N-1-m)=m by omega]at this
    rw[Sm]
    omega
   ·rw[Nat.min_eq_right (by omega)]at ih ⊢
    rw[D _ (by omega)]
    omega
 have:=r N (Nat.le_refl _)
 rwa [Nat.min_eq_right (by omega)]at this
theorem aj3{a b:Bool}(h:a=true→b=true):oG a≤oG b:=by cases a <;> cases b <;> simp_all[oG]
def Gc:Nat→Nat→Nat→Nat
 |0,_,h=>stq true vi h
 |k+1,n,h=>stq true (fun h=>Sm n fun m=>Gc k m h) h
section
variable(N:Nat)(J:Nat→Nat→Bool)(iC:Nat→Bool)(hJ: ∀i j,J i j=true→i<j)
include hJ
theorem YK{b:Bool}{p q:Nat→Nat}(h: ∀i,p i≤q i)(k:Nat):stq b p k≤stq true q k:=by
 have _:=hJ
 unfold stq
 have r:oG b*p k≤oG true*q k:=Nat.mul_le_mul (aj3 fun _=>rfl) (h k)
 cases k with
 |zero=>exact Nat.add_le_add r (Nat.le_refl _)
 |succ k=>exact Nat.add_le_add r (h k)
theorem agk: ∀(k i h:Nat),i<N→cB N J iC (k+1) i h≤Gc k (N-1-i) h
 |0,i,h,_=>by rw[cB,Gc,Yo];exact YK J hJ (fun _=>Nat.le_refl _) h
 |k+1,i,h,hi=>by
  rw[cB,Gc,Yo]
  refine YK J hJ (fun h=> ?_) h
  refine agj N i hi _ _ (fun j r=> ?_) fun j D r=> ?_
  ·have:J i j=false:=by
    cases e:J i j with
    |false=>rfl
    |true=>have:=hJ i j e;omega
   rw[this];simp[oG]
  ·have I:=agk k j h r
   have F:oG (J i j)≤1:=by cases J i j <;> simp[oG]
   calc oG (J i j)*cB N J iC (k+1) j h≤1*cB N J iC (k+1) j h:=Nat.mul_le_mul_right _ F
    _≤_:=by omega
def GcT(N H:Nat):Nat→Nat
 |0=>0
 |k+1=>GcT N H k+Sm (H+1) fun h=>Sm N fun n=>Gc k n h
omit hJ in
theorem LB{N N' H H':Nat}(hN:N≤N')(r:H≤H'): ∀k,GcT N H k≤GcT N' H' k
 |0=>Nat.le_refl _
 |k+1=>by
  have:=LB hN r k
  have D:=pD (n:=H+1) (m:=H'+1) (f:=fun h=>Sm N fun n=>Gc k n h) (g:=fun h=>Sm N' fun n=>Gc k n h) (by omega) fun i _=>pD hN fun _ _=>Nat.le_refl _
  rw[GcT,GcT];omega
theorem P6(H:Nat): ∀k,wF N H (cB N J iC) k≤GcT N H k
 |0=>Nat.le_refl _
 |k+1=>by
  have ih:=P6 H k
  have r:Mn N H (fun h g=>cB N J iC (k+1) g h)≤Sm (H+1) fun h=>Sm N fun n=>Gc k n h:=by
   unfold Mn
   refine pD (Nat.le_refl _) fun h _=> ?_
   rw[Ir (fun n=>Gc k n h)]
   exact pD (Nat.le_refl _) fun i hi=>agk N J iC hJ k i h hi
  rw[wF,GcT];omega
theorem SR(H:Nat)(hN:N≤7)(r:H≤2): ¬20000<wE (wF N H (cB N J iC) 6):=by
 have D:=P6 N J iC hJ H 6
 have F:=LB hN r 6
 have I:GcT 7 2 6=1218:=by decide+kernel
 have K:wE (wF N H (cB N J iC) 6)=(wF N H (cB N J iC) 6:Int):=by unfold wE;rw[js (by omega)]
 omega
end
def Tc:Nat→Nat→Nat→Nat
 |0,_,_=>0
 |m+1,n,h=>(1+Sm n fun k=>Tc m k h)+(if h=0 then 0 else 1+Sm n fun k=>Tc m k (h-1))
theorem Is: ∀(m:Nat) {n D h r:Nat},n≤D→h≤r→Tc m n h≤Tc m D r
 |0,_,_,_,_,_,_=>Nat.le_refl _
 |m+1,n,D,h,r,F,I=>by
  have K:=pD (f:=fun k=>Tc m k h) (g:=fun k=>Tc m k r) F fun k _=>Is m (Nat.le_refl k) I
  have O:=pD (f:=fun k=>Tc m k (h-1)) (g:=fun k=>Tc m k (r-1)) F fun k _=>Is m (Nat.le_refl k) (by omega)
  rw[Tc,Tc]
  by_cases e:h=0
  ·rw[if_pos e]
   split <;> omega
  ·rw[if_neg e,if_neg (by omega)];omega
theorem EO{β:Type}(J:Nat→Bool)(g:Nat→List β): ∀n,(((List.range n).filter J).flatMap g).length=Sm n fun j=>oG (J j)*(g j).length
 |0=>rfl
 |n+1=>by
  rw[PQ,Sm,←EO J g n]
  cases h:J n
  ·simp[oG]
  ·simp[oG]
section
variable(N:Nat)(J:Nat→Nat→Bool)(iC:Nat→Bool)(ok:List (Int×Bool)→Bool)(lg:List (Int×Bool)→Lg)(hJ: ∀i j,J i j=true→i<j)
include hJ
theorem P7: ∀(m:Nat) (d:List (Int×Bool)) (f h:Nat),f<N→(lZ N J iC ok lg m d f h).length≤Tc m (N-1-f) h
 |0,_,_,_,_=>Nat.le_refl _
 |m+1,d,f,h,D=>by
  have one: ∀(x:List (Int×Bool)) (h:Nat),(uG N J ok lg (lZ N J iC ok lg m) x f h).length≤1+Sm (N-1-f) fun k=>Tc m k h:=by
   intro x h
   unfold uG
   rw[List.length_append]
   have K:(if ok x=true then [lg x]else []).length≤1:=by split <;> simp
   have O:((qy N J f).flatMap fun g=>lZ N J iC ok lg m x g h).length≤Sm (N-1-f) fun k=>Tc m k h:=by
    rw[show((qy N J f).flatMap fun g=>lZ N J iC ok lg m x g h).length=_ from EO (J f) _ N]
    refine agj N f D _ _ (fun j r=> ?_) fun j F r=> ?_
    ·have:J f j=false:=by
      cases e:J f j with
      |false=>rfl
      |true=>have:=hJ f j e;omega
     rw[this];simp[oG]
    ·have U:=P7 m x j h r
     have I:oG (J f j)≤1:=by cases J f j <;> simp[oG]
     calc oG (J f j)*(lZ N J iC ok lg m x j h).length≤1*(lZ N J iC ok lg m x j h).length:=Nat.mul_le_mul_right _ I
      _≤_:=by omega
   omega
  rw[lZ,List.length_append,Tc]
  have a1:(if iC f=true then uG N J ok lg (lZ N J iC ok lg m) (d++ [((f:Int),false)]) f h else []).length≤1+Sm (N-1-f) fun k=>Tc m k h:=by
   split
   ·exact one _ _
   ·simp
  by_cases e:h=0
  ·rw[if_pos e,if_pos e];simp only[List.length_nil];omega
  ·rw[if_neg e,if_neg e]
   have:=one (d++ [((f:Int),true)]) (h-1)
   omega
theorem adn(H:Nat)(hN:N≤7)(D:H≤2): ¬2000<(pU N J iC ok lg H).length:=by
 have I:(pU N J iC ok lg H).length≤Sm N fun n=>Tc 6 n H:=by
  unfold pU
  have r:=EO (fun _=>true) (fun f=>lZ N J iC ok lg 6 [] f H) N
  rw[show(List.range N).filter (fun _=>true)=List.range N from List.filter_eq_self.2 (by simp)]at r
  rw[r,Ir (fun n=>Tc 6 n H)]
  exact pD (Nat.le_refl _) fun f F=>by simpa[oG]using P7 N J iC ok lg hJ 6 [] f H F
 have K:(Sm N fun n=>Tc 6 n H)≤Sm 7 fun n=>Tc 6 n 2:=pD hN fun i _=>Is 6 (Nat.le_refl _) D
 have O:(Sm 7 fun n=>Tc 6 n 2)=1218:=by decide+kernel
 omega
end
section
variable(N:Nat)(J:Nat→Nat→Bool)(iC:Nat→Bool)(ok ok':List (Int×Bool)→Bool)(lg:List (Int×Bool)→Lg)(tW: ∀x,ok x=true→ok' x=true)
include tW
end
end Go.Proofs.YtcpceiclnbmgiaaGreat
