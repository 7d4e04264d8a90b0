/- Walks of functions of the program and of the reference, and their plain laws, part 15. Conditions: the theorems' own. -/
import Derived.Test.YtblcbheipjeoeaaGreatM14
import Derived.KernelRfl
set_option maxRecDepth 100000
set_option linter.unusedSimpArgs false
set_option linter.unusedVariables false
set_option maxHeartbeats 16000000
namespace Go.Proofs.YtblcbheipjeoeaaGreat
open Go Go.Ev
def qf(f:Int→Bool)(a:Int):Nat→Int
 |0=>0
 |n+1=>qf f a n+if f (a+n)=true then 1 else 0
theorem K2(f:Int→Bool)(a:Int)(m:Nat): ∀n,qf f a (m+n)=qf f a m+qf f (a+m) n
 |0=>by simp[qf]
 |n+1=>by
  rw[←Nat.add_assoc,qf,qf,K2 f a m n,show a+((m+n:Nat):Int)=a+m+n by omega]
  omega
theorem EJ{f g:Int→Bool}{a:Int}: ∀{n:Nat},(∀t,a≤t→t<a+n→f t=g t)→qf f a n=qf g a n
 |0,_=>rfl
 |n+1,h=>by rw[qf,qf,EJ fun t i r=>h t i (by omega),h (a+n) (by omega) (by omega)]
theorem C8(f:Int→Bool)(a:Int): ∀n,0≤qf f a n∧qf f a n≤n
 |0=>by simp[qf]
 |n+1=>by have:=C8 f a n;rw[qf];split <;> omega
def wR(f:Int→Bool)(a b:Int):Int:=qf f a (b-a).toNat
theorem Yr(f:Int→Bool){a m b:Int}(i:a≤m)(r:m≤b):wR f a b=wR f a m+wR f m b:=by
 unfold wR
 have:=K2 f a (m-a).toNat (b-m).toNat
 rw[show(m-a).toNat+(b-m).toNat=(b-a).toNat by omega,show a+((m-a).toNat:Int)=m by omega]at this
 exact this
theorem xI(f:Int→Bool){a b:Int}(h:b≤a):wR f a b=0:=by
 unfold wR;rw[show(b-a).toNat=0 by omega];rfl
theorem vC{f g:Int→Bool}{a b:Int}(h: ∀t,a≤t→t<b→f t=g t):wR f a b=wR g a b:=by
 unfold wR;exact EJ fun t i r=>h t i (by omega)
def NC(c len p q d:Int):Int:=if max (1440*d+c) p<min (1440*d+c+len) q then min (1440*d+c+len) q-max (1440*d+c) p else 0
def wS(c len p q lo:Int):Nat→Int
 |0=>0
 |n+1=>wS c len p q lo n+NC c len p q (lo+n)
theorem SD{c len p q d:Int}(i:1≤len)(hp:p≤q):NC c len p (q+1) d=NC c len p q d+if 1440*d+c≤q∧q<1440*d+c+len then 1 else 0:=by
 unfold NC
 by_cases h:1440*d+c≤q∧q<1440*d+c+len
 ·rw[if_pos h];split <;> split <;> omega
 ·rw[if_neg h];split <;> split <;> omega
theorem G6{c len p q lo:Int}(i:1≤len)(D:len<1440)(hp:p≤q): ∀n:Nat,wS c len p (q+1) lo n=wS c len p q lo n+if lo≤(q-c)/1440∧(q-c)/1440<lo+n∧(q-c)%1440<len then 1 else 0
 |0=>by simp only[wS];rw[if_neg (by omega)];rfl
 |n+1=>by
  rw[wS,wS,G6 i D hp n,SD i hp]
  by_cases r:lo≤(q-c)/1440∧(q-c)/1440<lo+n∧(q-c)%1440<len
  ·rw[if_pos r,if_neg (by omega),if_pos (by omega)];omega
  ·rw[if_neg r]
   by_cases C:1440*(lo+n)+c≤q∧q<1440*(lo+n)+c+len
   ·rw[if_pos C,if_pos (by omega)];omega
   ·rw[if_neg C,if_neg (by omega)];omega
theorem G8{c len p:Int}(lo:Int): ∀n:Nat,wS c len p p lo n=0
 |0=>rfl
 |n+1=>by
  rw[wS,G8 lo n]
  unfold NC
  rw[if_neg (by omega)];rfl
def jO(f t:Int):Int:=(t-f+1440)%1440
theorem K3{m f t:Int}(hf:0≤f∧f<1440)(i:0≤t∧t<1440):ky (m%1440) f t=decide ((m-f)%1440<jO f t):=by
 unfold ky jO
 by_cases h:f≤t
 ·rw[if_pos h,decide_eq_decide];omega
 ·rw[if_neg h,decide_eq_decide];omega
theorem K4{f t o p:Int}(hf:0≤f∧f<1440)(C:0≤t∧t<1440)(hl:jO f t≠0)(lo:Int)(n:Nat)(r:lo≤(p+o)/1440-1):
  ∀k:Nat,(p+k-1+o)/1440<lo+n→wS (f-o) (jO f t) p (p+k) lo n=qf (fun x=>ky ((x+o)%1440) f t) p k
 |0,_=>by rw[show p+((0:Nat):Int)=p by omega,G8];rfl
 |k+1,h=>by
  have D:1≤jO f t∧jO f t<1440:=by unfold jO at hl ⊢; omega
  have ih:=K4 hf C hl lo n r k (by omega)
  rw[show p+((k+1:Nat):Int)=p+k+1 by omega,G6 D.1 D.2 (by omega),ih,qf]
  have e:=K3 (m:=p+k+o) hf C
  rw[e]
  simp only[decide_eq_true_eq]
  have E:p+k-(f-o)=p+k+o-f:=by omega
  rw[E]
  by_cases i:(p+k+o-f)%1440<jO f t
  ·rw[if_pos i,if_pos ⟨by omega,by omega,i⟩]
  ·rw[if_neg i,if_neg fun q=>i q.2.2]
def AN(a b o:Int):List (Int×Int×Int):=if a<b then [(a,b,o)]else []
def oL(S T fr o:Int):List (Int×Int)→List (Int×Int×Int)
 | []=>AN (max fr S) (min 52596000 T) o
 |s::r=>AN (max fr S) (min s.1 T) o++oL S T s.1 s.2 r
def y7(g:Int×Int→Bool)(l:List (Int×Int×Int)):Int:=(l.map fun x=>wR (fun t=>g (t,x.2.2)) x.1 x.2.1).sum
theorem Ys(g:Int×Int→Bool)(a b o:Int):y7 g (AN a b o)=wR (fun t=>g (t,o)) a b:=by
 unfold AN y7
 split
 ·simp
 ·rw[xI _ (by omega)];rfl
theorem K5(g:Int×Int→Bool)(l r:List (Int×Int×Int)):y7 g (l++r)=y7 g l+y7 g r:=by
 unfold y7;rw[List.map_append,List.sum_append]
theorem K6(g:Int×Int→Bool){S T:Int}(D:T≤52596000): ∀(l:List (Int×Int)) (p:Option Int) (fr o:Int),EH p l=0→(∀s∈l.head?,fr≤s.1)→y7 g (oL S T fr o l)=wR (fun t=>g (t,vA o l t)) (max fr S) T
 | [],p,fr,o,h,B8=>by
   rw[oL,Ys,Int.min_eq_right D];rfl
 |s::r,p,fr,o,h,B8=>by
  obtain⟨_,_,_,E⟩:=EG h
  have hs:=B8 s rfl
  have K: ∀x∈r.head?,s.1≤x.1:=by
   intro x F
   cases r with
   |nil=>cases F
   |cons y r=>
    cases F
    have:=(EG E).2.2.1 s.1 rfl
    omega
  rw[oL,K5,Ys,K6 g D r _ s.1 s.2 E K]
  have i: ∀t,s.1≤t→vA o (s::r) t=vA s.2 r t:=fun t H=>by rw[vA,if_pos H]
  have early: ∀t,t<s.1→vA o (s::r) t=o:=fun t H=>by rw[vA,if_neg (by omega)]
  by_cases I:max fr S≤s.1∧s.1≤T
  ·rw[Yr (m:=s.1) _ I.1 I.2,show min s.1 T=s.1 by omega,show max s.1 S=s.1 by omega]
   congr 1
   ·exact vC fun t _ J=>by rw[early t J]
   ·exact vC fun t C _=>by rw[i t C]
  ·by_cases J:s.1≤T
   ·rw[xI (a:=max fr S) (b:=min s.1 T) _ (by omega),show max s.1 S=max fr S by omega,Int.zero_add]
    exact vC fun t C _=>by rw[i t (by omega)]
   ·rw[xI (a:=max s.1 S) (b:=T) _ (by omega),show min s.1 T=T by omega,Int.add_zero]
    exact vC fun t _ C=>by rw[early t (by omega)]
def Zo.bandM(z:Zo)(S T f t:Int):Int:=wR (fun x=>ky (z.clk x) f t) S T
theorem ND{z:Zo}(hv:mf z=0){S T f t:Int}(C:0≤S)(r:T≤52596000):y7 (fun x=>ky ((x.1+x.2)%1440) f t) (oL S T 0 z.o z.sh)=z.bandM S T f t:=by
 have i:=(nU hv).2.2
 rw[K6 _ r z.sh none 0 z.o i,show max 0 S=S by omega]
 ·rfl
 ·intro s hs
  have:=(C7 i s (List.mem_of_mem_head? hs)).1
  unfold rR at this
  simp only[Bool.and_eq_true,decide_eq_true_eq]at this
  omega
theorem qP{a b:Int}:(if b>a then b else a)=max a b:=by rw[Int.max_def];split <;> split <;> omega
theorem sX{a b:Int}:(if b<a then b else a)=min a b:=by rw[Int.min_def];split <;> split <;> omega
theorem wT{lh:hJ gR}{sh:List gR}{v:T}{k n sz bytes:Nat}{cs:List T}(h:iT lh v k sz n cs)(ps:List T)(r:ps.length=sz)(i:(n+1)*bytes≤roomy)(ex:Bool):
  appW lh sh k sz bytes v (.sl ps 1 ex)=some (Ij lh sh k sz bytes v (.sl ps 1 ex),Ar lh sh k sz bytes v (.sl ps 1 ex))∧iT (Ar lh sh k sz bytes v (.sl ps 1 ex)) (Ij lh sh k sz bytes v (.sl ps 1 ex)) k sz (n+1) (cs++ps)∧ ∀j,j≠k→a6 (Ar lh sh k sz bytes v (.sl ps 1 ex)) j=a6 lh j:=
 iT.appW h (m:=0) (by rw[yI,if_pos (by omega)]) (by omega) i
def Cq(l:List (Int×Int×Int)):List T:=l.flatMap fun x=> [.i .i64 x.1,.i .i64 x.2.1,.i .i64 x.2.2]
theorem PM(a b:List (Int×Int×Int)):Cq (a++b)=Cq a++Cq b:=by unfold Cq;rw[List.flatMap_append]
theorem PN(p q o:Int)(l:List (Int×Int×Int)):Cq l++ [.i .i64 p,.i .i64 q,.i .i64 o]=Cq (l++ [(p,q,o)]):=by rw[PM];rfl
section
variable(z:Zo)(a:T)(hz:ZoT z a)(hlen:z.sh.length≤16)(A B:Int)
def vD(z:Zo)(A B i r:Int)(k:Nat):List (Int×Int×Int):=if k≤z.sh.length then oL A B i r (z.sh.drop k)else []
theorem SE{i r:Int}{k:Nat}(C:k<z.sh.length):vD z A B i r k=AN (max i A) (min z.sh[k].1 B) r++vD z A B z.sh[k].1 z.sh[k].2 (k+1):=by
 unfold vD
 rw[if_pos (by omega),if_pos (by omega),List.drop_eq_getElem_cons C,oL]
theorem NF{i r:Int}:vD z A B i r z.sh.length=AN (max i A) (min 52596000 B) r:=by
 unfold vD
 rw[if_pos (by omega),List.drop_length,oL]
theorem wU{i r:Int}:vD z A B i r (z.sh.length+1)= []:=by
 unfold vD
 rw[if_neg (by omega)]
include hz hlen
theorem axK(fr:Fr)(lh:hJ gR)(sh:List gR)(E:an fr 2= .ptr .L 2 1 0)(F:an fr 3= .ptr .L 3 1 0)(U:an fr 5= .nilsl)(N:an fr 6= .i .i64 0)(O:an fr 7= .i .i64 z.o)(V:an fr 8= .i .i64 0)(D:a6 lh 2=⟨1,.cells (sf z a) 0 true⟩)(H:a6 lh 3=⟨1,.cells [.i .i64 A,.i .i64 B] 0 true⟩):
  kV 63 sr fr lh sh (.ext 0)∧
  (iT (kH pE 63 sr fr lh sh) (an (kh pE 63 sr fr lh sh) 5) 49 3 (oL A B 0 z.o z.sh).length (Cq (oL A B 0 z.o z.sh))∧(oL A B 0 z.o z.sh).length≤17∧kb pE 63 sr fr lh sh=sh):=by
 obtain⟨cc,X,hc⟩:=hz
 unfold sf at D
 refine jo (fun k st=> ∃(fr:Fr) (lh:hJ gR) (I J:Int) (L:List (Int×Int×Int)),st=⟨fr,lh,sh⟩∧an fr 2= .ptr .L 2 1 0∧an fr 3= .ptr .L 3 1 0∧an fr 6= .i .i64 I∧an fr 7= .i .i64 J∧an fr 8= .i .i64 (k:Int)∧a6 lh 2=⟨1,.cells [.s z.nm,.i .i64 z.o,a] 0 true⟩∧a6 lh 3=⟨1,.cells [.i .i64 A,.i .i64 B] 0 true⟩∧iT lh (an fr 5) 49 3 L.length (Cq L)∧L.length≤k∧L++vD z A B I J k=oL A B 0 z.o z.sh)
  (fun iq il iw=>iT il (an iq 5) 49 3 (oL A B 0 z.o z.sh).length (Cq (oL A B 0 z.o z.sh))∧(oL A B 0 z.o z.sh).length≤17∧iw=sh) _ (z.sh.length+1) ?_ ?_ fr lh sh ⟨fr,lh,0,z.o,[],rfl,E,F,N,O,V,D,H,by rw[U];exact iT.nil,by simp,by simp[vD]⟩
 ·rintro k _ hk ⟨fr,lh,I,J,L,rfl,E,F,N,O,V,D,H,K,hL,r⟩
  have Y:(k:Int)≤z.sh.length:=by omega
  have hw:=iG (k:=k) (by omega)
  have C:=fun e:Int=>wT (sh:=sh) K [.i .i64 (max I A),.i .i64 (min e B),.i .i64 J] rfl (bytes:=24) (by unfold roomy;omega) true
  generalize U:an fr 5=v5 at K C
  by_cases sQ:k<z.sh.length
  ·have Z:(k:Int)<z.sh.length:=by omega
   obtain⟨rr,iv⟩:=EI X hc sQ
   rw[SE z A B sQ]at r
   generalize z.sh[k]=s at*
   have C:=C s.1
   have W:=(C.2.2 2 (by decide)).trans D
   have p3:=(C.2.2 3 (by decide)).trans H
   simp only[qB,seval,repl,sr,E,F,U,N,O,V,D,H,X.lenI,Y,Z,iv,hw,qP,sX,K.notS,C.1,W]
   refine vh (fun h=> ?_) (fun h=> ?_)
   ·rw[AN,if_pos h]at r
    exact iN ⟨_,_,s.1,s.2,L++ [(max I A,min s.1 B,J)],rfl,by simp only[qA,seval,E],by simp only[qA,seval,F],by simp only[qA,seval],by simp only[qA,seval],by simp only[qA,seval],W,p3,by simp only[qA,seval];rw[←PN,List.length_append];exact C.2.1,by simp;omega,by rw[List.append_assoc];exact r⟩
   ·rw[AN,if_neg h,List.nil_append]at r
    exact iN ⟨_,_,s.1,s.2,L,rfl,by simp only[qA,seval,E],by simp only[qA,seval,F],by simp only[qA,seval],by simp only[qA,seval],by simp only[qA,seval],D,H,by simp only[qA,seval,U];exact K,by omega,r⟩
  ·obtain rfl:k=z.sh.length:=by omega
   rw[NF]at r
   have C:=C 52596000
   have W:=(C.2.2 2 (by decide)).trans D
   have p3:=(C.2.2 3 (by decide)).trans H
   simp only[qB,seval,repl,sr,E,F,U,N,O,V,D,H,X.lenI,Int.lt_irrefl,Int.le_refl,hw,qP,sX,K.notS,C.1,W]
   refine vh (fun h=> ?_) (fun h=> ?_)
   ·rw[AN,if_pos h]at r
    exact iN ⟨_,_,I,J,L++ [(max I A,min 52596000 B,J)],rfl,by simp only[qA,seval,E],by simp only[qA,seval,F],by simp only[qA,seval,N],by simp only[qA,seval,O],by simp only[qA,seval],W,p3,by simp only[qA,seval];rw[←PN,List.length_append];exact C.2.1,by simp;omega,by rw[wU,List.append_nil];exact r⟩
   ·rw[AN,if_neg h,List.append_nil]at r
    exact iN ⟨_,_,I,J,L,rfl,by simp only[qA,seval,E],by simp only[qA,seval,F],by simp only[qA,seval,N],by simp only[qA,seval,O],by simp only[qA,seval],D,H,by simp only[qA,seval,U];exact K,by omega,by rw[wU,List.append_nil];exact r⟩
 ·rintro _ ⟨fr,lh,I,J,L,rfl,E,F,N,O,V,D,H,K,hL,r⟩
  rw[wU,List.append_nil]at r
  subst r
  have Y: ¬((z.sh.length+1:Nat):Int)≤z.sh.length:=by omega
  simp only[qA,seval,sr,E,V,D,X.lenI,Y]
  exact jD ⟨rfl,(by simp only[qA,seval];exact K),by omega,rfl⟩
theorem Yt(sp:T)(CV:sp= .agg [.i .i64 A,.i .i64 B]):gS pE 283 [.agg (sf z a),sp] []=some (lJ (oL A B 0 z.o z.sh).length (Cq (oL A B 0 z.o z.sh)),[]):=by
 subst CV
 have hL:=fun fr lh sh r C D E F H I J=>axK z a hz hlen A B fr lh sh r C D E F H I J
 have K:=fun m keep fr lh sh r C D E F H I J=>iT.fzW (m:=m) (keep:=keep) (sh:=sh) (hL fr lh sh r C D E F H I J).2.1
 have Ty:=fun keep fr lh sh r C D E F H I J=>iT.fzV (keep:=keep) (sh:=sh) (hL fr lh sh r C D E F H I J).2.1
 obtain⟨N,O,U⟩:=hz
 unfold sf at hL K Ty ⊢
 rw[gX afA (by simp[UL])]
 simp only[qA,seval,UL,hL,Ty,Nd]
end
theorem acU(c f t:Int):gS pE 188 [.i .i64 c,.i .i64 f,.i .i64 t] []=some (.b (ky c f t),[]):=by
 rw[gX Vm (by simp[HC])]
 unfold ky
 by_cases D:f≤t
 ·by_cases r:f≤c <;> by_cases C:c<t <;> simp only[qA,seval,HC,D,r,C]
 ·by_cases r:f≤c <;> by_cases C:c<t <;> simp only[qA,seval,HC,D,r,C,or_true,or_false,or_self]
def SpB(A B f t:Int):Prop:=0≤A∧A≤B∧B≤52596000∧0≤f∧f<1440∧0≤t∧t<1440
section
variable(z:Zo)(a:T)(hz:ZoT z a)(hv:mf z=0)(A B f t:Int)(hs:SpB A B f t)
include hz hv hs
theorem acV:gS pE 250 [.agg (sf z a),.agg [.i .i64 A,.i .i64 B],.i .i64 f,.i .i64 t] []=some (.i .i64 0,[]):=by
 obtain⟨E,F,H,I,J,K,N⟩:=hs
 obtain⟨O,r,U⟩:=hz
 have C:=En z a O r U
 rw[hv]at C
 have V:gS pE 281 [.agg [.i .i64 A,.i .i64 B]] []=some (.b true,[]):=by
  rw[gX afy (by simp[UJ])]
  simp only[qA,seval,UJ,E,F,H]
 have D: ∀x:Int,0≤x→x<1440→gS pE 282 [.i .i64 x] []=some (.b true,[]):=by
  intro x W X
  rw[gX afz (by simp[UK])]
  simp only[qA,seval,UK,W,X]
 have Y:=D f I J
 have Z:=D t K N
 unfold sf
 rw[gX ae8 (by simp[Uy])]
 simp only[qA,seval,Uy,C,V,Y,Z,r.froz1,JF,apO,apP]
theorem Yu:gS pE 186 [.agg (sf z a),.agg [.i .i64 A,.i .i64 B],.i .i64 f,.i .i64 t] []=some (.i .i64 0,[]):=by
 obtain⟨D,E,F,V,W,X,Y⟩:=hs
 obtain⟨H,r,I⟩:=hz
 have C:=Eo z a H r I
 rw[hv]at C
 have J:gS pE 255 [.agg [.i .i64 A,.i .i64 B]] []=some (.b true,[]):=by
  rw[gX afe (by simp[UB])]
  simp only[qA,seval,UB,D,E,F]
 have K: ¬f<0:=by omega
 have N: ¬(1439:Int)<f:=by omega
 have O: ¬t<0:=by omega
 have U: ¬(1439:Int)<t:=by omega
 unfold sf
 rw[gX aeF (by simp[Uf])]
 simp only[qA,seval,Uf,C,J,K,N,O,U,r.froz1,JH,apI]
theorem axL(fr:Fr)(lh:hJ gR)(sh:List gR)(H:an fr 2= .i .i64 f)(I:an fr 3= .i .i64 t)(J:an fr 4= .ptr .L 4 1 0)(D:an fr 5= .ptr .L 5 1 0)(r:an fr 11= .i .i64 0)(C:an fr 12= .i .i64 A)(E:a6 lh 4=⟨1,.cells (sf z a) 0 true⟩)(F:a6 lh 5=⟨1,.cells [.i .i64 A,.i .i64 B] 0 true⟩):
  kV 47 uE fr lh sh (.ext 0)∧
  (an (kh pE 47 uE fr lh sh) 11= .i .i64 (z.bandM A B f t)∧kb pE 47 uE fr lh sh=sh):=by
 obtain⟨s1,s2,s3,f1,f2,t1,t2⟩:=hs
 have K:=fun x=>vB z a hz (nU hv).2.1 hv x
 have N:froz1 a=true:=by obtain⟨cc,Y,_⟩:=hz;exact Y.froz1
 unfold sf at E K
 refine jo (fun k st=> ∃(fr:Fr) (lh:hJ gR),st=⟨fr,lh,sh⟩∧an fr 2= .i .i64 f∧an fr 3= .i .i64 t∧an fr 4= .ptr .L 4 1 0∧an fr 5= .ptr .L 5 1 0∧an fr 11= .i .i64 (qf (fun x=>ky (z.clk x) f t) A k)∧an fr 12= .i .i64 (A+k)∧a6 lh 4=⟨1,.cells [.s z.nm,.i .i64 z.o,a] 0 true⟩∧a6 lh 5=⟨1,.cells [.i .i64 A,.i .i64 B] 0 true⟩)
  (fun Z il iw=>an Z 11= .i .i64 (z.bandM A B f t)∧iw=sh) _ (B-A).toNat ?_ ?_ fr lh sh ⟨fr,lh,rfl,H,I,J,D,r,by rw[C];simp,E,F⟩
 ·rintro k _ hk ⟨fr,lh,rfl,H,I,J,D,r,C,E,F⟩
  have U:A+k<B:=by omega
  have hi:rR (A+k)=true:=by unfold rR;simp only[Bool.and_eq_true,decide_eq_true_eq];omega
  obtain⟨w,nr⟩:=NB z a hz hv (A+k) hi
  have CV:=BJ _ nr
  have V:=acU (z.clk (A+k)) f t
  have tl:=C8 (fun x=>ky (z.clk x) f t) A k
  have W:wr .i64 (A+k+1)=A+((k+1:Nat):Int):=by rw[jL (by omega)];omega
  have CX:wr .i64 (qf (fun x=>ky (z.clk x) f t) A k+1)=qf (fun x=>ky (z.clk x) f t) A k+1:=jL (by omega)
  have sd:qf (fun x=>ky (z.clk x) f t) A (k+1)=qf (fun x=>ky (z.clk x) f t) A k+if ky (z.clk (A+k)) f t=true then 1 else 0:=rfl
  have O:=K (A+k)
  rw[show(A+k+z.off (A+k))%1440=z.clk (A+k)from rfl]at CV
  generalize qf (fun x=>ky (z.clk x) f t) A k=q at*
  generalize z.clk (A+k)=cl at*
  generalize (A+k+z.off (A+k))/1440=dy at*
  generalize X:A+k+z.off (A+k)=m at*
  generalize A+(k:Int)=x at*
  have aCb:=CV
  rw[sd]
  cases hb:ky cl f t <;> rw[hb]at V
  ·simp only[qA,seval,uE,H,I,J,D,r,C,E,F,U,O,X,w,CV,V,W,N,JE,OB,Vn]
   exact iN ⟨_,_,rfl,by simp only[qA,seval,H],by simp only[qA,seval,I],by simp only[qA,seval,J],by simp only[qA,seval,D],by simp only[qA,seval,r,Int.add_zero],by simp only[qA,seval],by simp only[E],by simp only[F]⟩
  ·simp only[qA,seval,uE,H,I,J,D,r,C,E,F,U,O,X,w,CV,V,W,CX,N,JE,OB,Vn]
   exact iN ⟨_,_,rfl,by simp only[qA,seval,H],by simp only[qA,seval,I],by simp only[qA,seval,J],by simp only[qA,seval,D],by simp only[qA,seval],by simp only[qA,seval],by simp only[E],by simp only[F]⟩
 ·rintro _ ⟨fr,lh,rfl,H,I,J,D,r,C,E,F⟩
  have U: ¬A+(((B-A).toNat:Nat):Int)<B:=by omega
  simp only[qA,seval,uE,D,C,F,U]
  exact jD ⟨rfl,by simp only[qA,seval,r];rfl,rfl⟩
theorem ajx:gS pE 116 [.agg (sf z a),.agg [.i .i64 A,.i .i64 B],.i .i64 f,.i .i64 t] []=some (.tup [.i .i64 (z.bandM A B f t),.i .i64 0],[]):=by
 have hL:=fun fr lh sh E F H I r C J K=>axL z a hz hv A B f t hs fr lh sh E F H I r C J K
 have D:=Yu z a hz hv A B f t hs
 obtain⟨O,N,U⟩:=hz
 unfold sf at D hL ⊢
 rw[gX adY (by simp[TV])]
 simp only[qA,seval,TV,D,hL,N.froz1,ape]
end
def Md(l:List (Int×Int)):List T:=l.flatMap fun x=> [.i .i64 x.1,.i .i64 x.2]
theorem PO(a b:List (Int×Int)):Md (a++b)=Md a++Md b:=by unfold Md;rw[List.flatMap_append]
theorem AO(l:List (Int×Int)):(Md l).length=l.length*2:=tQ (sz:=2) (fun _=>rfl) l
def mP(l:List (Int×Int)):Int:=(l.map fun x=>x.2-x.1).sum
theorem rS(a b:List (Int×Int)):mP (a++b)=mP a+mP b:=by unfold mP;rw[List.map_append,List.sum_append]
theorem rT(x:Int×Int):mP [x]=x.2-x.1:=by simp[mP]
def CG(lh:hJ gR)(v:T)(R:List (Int×Int)):Prop:=
 (R= []∧v= .nilsl)∨ ∃R' x g,R=R'++ [x]∧v= .isl .L 109 g 0 (R'.length+1) 2∧a6 lh 109=⟨g,.cells (Md R'++ [.i .i64 x.1,.i .i64 x.2]) 0 false⟩
def AP(R:List (Int×Int)):Prop:= ∀x∈R,0≤x.1∧x.1≤x.2∧x.2≤52596000
theorem ajy(R:List (Int×Int))(a b:T):(Md R++ [a,b])[R.length*2+1]? =some b:=by
 rw[List.getElem?_append_right (by rw[AO];omega),AO]
 simp
theorem NG(R:List (Int×Int))(a b c:T):splice (Md R++ [a,b]) (R.length*2+1) [c]=Md R++ [a,c]:=by
 have i: ∀(cs:List T),splice (cs++ [a,b]) (cs.length+1) [c]=cs++ [a,c]:=by
  intro cs
  induction cs with
  |nil=>rfl
  |cons x cs ih=>rw[List.cons_append,List.length_cons,splice,ih];rfl
 rw[←AO];exact i _
theorem PQ(R:List (Int×Int))(a b:T):(Md R++ [a,b]).length=R.length*2+2:=by rw[List.length_append,AO];rfl
theorem acW{n:Nat}:((n+1)*2=n*2+2)=True:=by simp;omega
section
variable(f t o p q:Int)(hf:0≤f∧f<1440)(hl:1≤jO f t∧jO f t<1440)(ho: -840≤o∧o≤840)(hp:0≤p)(hq:p<q∧q≤52596000)
include hf hl ho hp hq
theorem axM(R0:List (Int×Int))(hB0:AP R0)(Jl:R0.length≤1000000)(lo:Int)(N:Nat)(hlo: -10≤lo)(hN:lo+N≤40000)(g:Nat)(fr:Fr)(lh:hJ gR)(sh:List gR)(E:an fr 2= .i .i64 f)(r:an fr 10= .i .i64 (jO f t))(C:CG lh (an fr 11) R0)(F:an fr 13= .ptr .L 13 g 0)(D:an fr 16= .i .i64 (lo+N-1))(J:an fr 18= .i .i64 lo)(SF:a6 lh 13=⟨g,.cells [.i .i64 p,.i .i64 q,.i .i64 o] 0 true⟩):
  kV 113 nl fr lh sh (.ext 2)∧
  (∃R,CG (kH pE 113 nl fr lh sh) (an (kh pE 113 nl fr lh sh) 11) R∧AP R∧mP R=mP R0+wS (f-o) (jO f t) p q lo N∧R.length≤R0.length+N∧kb pE 113 nl fr lh sh=sh):=by
 refine jo (fun k st=> ∃(fr:Fr) (lh:hJ gR) (R:List (Int×Int)),st=⟨fr,lh,sh⟩∧CG lh (an fr 11) R∧AP R∧mP R=mP R0+wS (f-o) (jO f t) p q lo k∧R.length≤R0.length+k∧an fr 2= .i .i64 f∧an fr 10= .i .i64 (jO f t)∧an fr 13= .ptr .L 13 g 0∧an fr 16= .i .i64 (lo+N-1)∧an fr 18= .i .i64 (lo+k)∧a6 lh 13=⟨g,.cells [.i .i64 p,.i .i64 q,.i .i64 o] 0 true⟩)
  (fun iq il iw=> ∃R,CG il (an iq 11) R∧AP R∧mP R=mP R0+wS (f-o) (jO f t) p q lo N∧R.length≤R0.length+N∧iw=sh) _ N ?_ ?_ fr lh sh ⟨fr,lh,R0,rfl,C,hB0,by simp[wS],by omega,E,r,F,D,by rw[J];simp,SF⟩
 ·rintro k _ hk ⟨fr,lh,R,rfl,X,O,hs,hlen,E,r,F,D,J,SF⟩
  have U:lo+k≤lo+N-1:=by omega
  have qW:wS (f-o) (jO f t) p q lo (k+1)=wS (f-o) (jO f t) p q lo k+NC (f-o) (jO f t) p q (lo+k):=rfl
  have Y:wr .i64 (lo+k+1)=lo+((k+1:Nat):Int):=by rw[jL (by omega)];omega
  have Z:wr .i64 ((lo+k)*1440)=1440*(lo+k):=by rw[jL (by omega)];omega
  have w3:wr .i64 (1440*(lo+k)+f)=1440*(lo+k)+f:=jL (by omega)
  have w4:wr .i64 (1440*(lo+k)+f-o)=1440*(lo+k)+(f-o):=by rw[jL (by omega)];omega
  have w5:wr .i64 (1440*(lo+k)+(f-o)+jO f t)=1440*(lo+k)+(f-o)+jO f t:=jL (by omega)
  rw[qW]
  unfold NC
  generalize jO f t=len at*
  generalize lo+(k:Int)=d at*
  generalize hS:1440*d+(f-o)=S at*
  have hA:0≤max S p:=by omega
  have hE:min (S+len) q≤52596000:=by omega
  generalize H:max S p=a at*
  generalize O0:min (S+len) q=e at*
  by_cases I:e≤a
  ·rw[if_neg (by omega),Int.add_zero]
   simp only[qA,seval,nl,E,r,F,D,J,SF,U,Y,Z,w3,w4,w5,H,O0,qP,sX,I]
   exact iN ⟨_,_,R,rfl,by simp only[qA,seval];exact X,O,hs,by omega,by simp only[qA,seval,E],by simp only[qA,seval,r],by simp only[qA,seval,F],by simp only[qA,seval,D],by simp only[qA,seval],SF⟩
  ·have axO:a<e:=by omega
   rw[if_pos axO]
   have C3:(R.length+1)*16≤roomy:=by unfold roomy;omega
   rcases X with⟨rfl,C⟩|⟨R',x,g',rfl,C,asj⟩
   ·have C3:16≤roomy:=by unfold roomy;omega
    simp only[qA,seval,appW,repl,nl,E,r,C,F,D,J,SF,U,Y,Z,w3,w4,w5,H,O0,qP,sX,I,Int.lt_irrefl,C3]
    refine iN ⟨_,_,[(a,e)],rfl,.inr ⟨[],(a,e),(a6 lh 109).g+1,rfl,by simp only[qA,seval],by simp only[qA,seval];rfl⟩, ?_, ?_,by simp;omega,by simp only[qA,seval,E],by simp only[qA,seval,r],by simp only[qA,seval,F],by simp only[qA,seval,D],by simp only[qA,seval],by simp only[qA,seval,SF]⟩
    ·intro y hy
     rw[List.mem_singleton.1 hy];exact⟨hA,by show a≤e;omega,hE⟩
    ·rw[rT]
     simp only[mP,List.map_nil,List.sum_nil]at hs ⊢
     omega
   ·rw[List.length_append]at C3 hlen
    simp only[List.length_cons,List.length_nil,Nat.zero_add]at C3 hlen
    have Cz:(0:Int)<((R'.length+1:Nat):Int):=by omega
    have V:wr .i64 (((R'.length+1:Nat):Int)-1)=(R'.length:Int):=by rw[jL (by omega)];omega
    have jZ:=ajy R' (.i .i64 x.1) (.i .i64 x.2)
    have L3:=PQ R' (.i .i64 x.1) (.i .i64 x.2)
    have W:=NG R' (.i .i64 x.1) (.i .i64 x.2) (.i .i64 e)
    have hx:=O x (by simp)
    rw[rS,rT]at hs
    by_cases K:x.2=a
    ·rw[K]at jZ L3 W
     simp only[qA,seval,appW,repl,nl,E,r,C,F,D,J,SF,asj,U,Y,Z,w3,w4,w5,H,O0,qP,sX,I,Cz,V,jZ,K,L3,W,Nat.lt_succ_self,Int.natCast_nonneg]
     refine iN ⟨_,_,R'++ [(x.1,e)],rfl,.inr ⟨R',(x.1,e),g',rfl,by simp only[qA,seval,C],by simp only[qA,seval]⟩, ?_, ?_,by simp;omega,by simp only[qA,seval,E],by simp only[qA,seval,r],by simp only[qA,seval,F],by simp only[qA,seval,D],by simp only[qA,seval],by simp only[qA,seval,SF]⟩
     ·intro y hy
      rcases List.mem_append.1 hy with hy|hy
      ·exact O y (by simp[hy])
      ·rw[List.mem_singleton.1 hy];exact⟨hx.1,by show x.1≤e;omega,hE⟩
     ·rw[rS,rT];simp only;omega
    ·simp only[qA,seval,appW,repl,nl,E,r,C,F,D,J,SF,asj,U,Y,Z,w3,w4,w5,H,O0,qP,sX,I,Cz,V,jZ,K,L3,Nat.lt_succ_self,Int.natCast_nonneg,acW,C3]
     refine iN ?_
     refine⟨_,_,R'++ [x]++ [(a,e)],rfl,.inr ⟨R'++ [x],(a,e),g'+1,rfl,by simp only[qA,seval];simp,by simp only[qA,seval];rw[PO];rfl⟩, ?_, ?_,by simp;omega,by simp only[qA,seval,E],by simp only[qA,seval,r],by simp only[qA,seval,F],by simp only[qA,seval,D],by simp only[qA,seval],by simp only[qA,seval,SF]⟩
     ·intro y hy
      rcases List.mem_append.1 hy with hy|hy
      ·exact O y hy
      ·rw[List.mem_singleton.1 hy];exact⟨hA,by show a≤e;omega,hE⟩
     ·rw[rS,rS,rT,rT];simp only;omega
 ·rintro _ ⟨fr,lh,R,rfl,X,O,hs,hlen,E,r,F,D,J,SF⟩
  have U: ¬lo+(N:Int)≤lo+N-1:=by omega
  simp only[qA,seval,nl,D,J,U]
  exact jD ⟨rfl,R,by simp only[qA,seval];exact X,O,hs,hlen,rfl⟩
end
theorem asm{f t o p q:Int}{fr:Fr}{lh:hJ gR}{sh:List gR}{D:Option (Out×St)}(hf:0≤f∧f<1440)(hl:1≤jO f t∧jO f t<1440)(ho: -840≤o∧o≤840)(hp:0≤p)(hq:p<q∧q≤52596000)(R0:List (Int×Int))(r:AP R0)(Jl:R0.length≤1000000)(lo:Int)(N:Nat)(C: -10≤lo)(J:lo+N≤40000)(g:Nat)(K:DC pE 113 (.loop nl) ⟨fr,lh,sh⟩=D)(O:an fr 2= .i .i64 f)(E:an fr 10= .i .i64 (jO f t))(F:CG lh (an fr 11) R0)(U:an fr 13= .ptr .L 13 g 0)(V:an fr 16= .i .i64 (lo+N-1))(W:an fr 18= .i .i64 lo)(SF:a6 lh 13=⟨g,.cells [.i .i64 p,.i .i64 q,.i .i64 o] 0 true⟩):
  ∃H I R,D=some (.ext 2,⟨H,I,sh⟩)∧CG I (an H 11) R∧AP R∧mP R=mP R0+wS (f-o) (jO f t) p q lo N∧R.length≤R0.length+N∧ ∀s,(kJ (.loop nl)).contains s=false→an H s=an fr s:=by
 obtain⟨e,R,X,Y,Z,r4,r5⟩:=axM f t o p q hf hl ho hp hq R0 r Jl lo N C J g fr lh sh O E F U V W SF
 unfold kV at e;rw[r5]at e
 exact⟨_,_,R,K.symm.trans e,X,Y,Z,r4,fun s hs=>lW e s hs⟩
def Yv(x:Int×Int×Int):Prop:=0≤x.1∧x.1<x.2.1∧x.2.1≤52596000∧ -840≤x.2.2∧x.2.2≤840
theorem PR{a b o:Int}(r:0≤a)(C:b≤52596000)(ho: -840≤o∧o≤840): ∀x∈AN a b o,Yv x:=by
 intro x i
 unfold AN at i
 split at i
 ·rw[List.mem_singleton.1 i]
  exact⟨r,by assumption,C,ho⟩
 ·cases i
theorem PS{o:Int}(h:se o=true): -840≤o∧o≤840:=by
 unfold se at h
 simpa using h
theorem PT{A B:Int}(i:0≤A)(C:B≤52596000): ∀(l:List (Int×Int)) (fr o:Int),(-840≤o∧o≤840)→(∀s∈l,se s.2=true)→ ∀x∈oL A B fr o l,Yv x
 | [],fr,o,ho,hl,x,hx=>by
   rw[oL]at hx
   exact PR (by omega) (by omega) ho x hx
 |s::r,fr,o,ho,hl,x,hx=>by
  rw[oL,List.mem_append]at hx
  rcases hx with hx|hx
  ·exact PR (by omega) (by omega) ho x hx
  ·exact PT i C r s.1 s.2 (PS (hl s (by simp))) (fun y D=>hl y (by simp[D])) x hx
theorem acX{f t:Int}(hf:0≤f∧f<1440)(r:0≤t∧t<1440)(hl:jO f t≠0){p q o:Int}(h:p<q):wS (f-o) (jO f t) p q ((p+o)/1440-1) ((q-1+o)/1440-((p+o)/1440-1)+1).toNat=wR (fun x=>ky ((x+o)%1440) f t) p q:=by
 have i:=K4 (o:=o) (p:=p) hf r hl ((p+o)/1440-1) ((q-1+o)/1440-((p+o)/1440-1)+1).toNat (Int.le_refl _) (q-p).toNat (by
  rw[show p+((q-p).toNat:Int)=q by omega]
  omega)
 rw[show p+((q-p).toNat:Int)=q by omega]at i
 rw[i];rfl
theorem rl1{r k n:Nat}(h:r≤40000*k)(i:k<n)(C:n≤17):r≤1000000:=by omega
theorem rl2{r s N k:Nat}(h:s≤r+N)(i:r≤40000*k)(C:N≤40000):s≤40000*(k+1):=by omega
theorem rl3{r n:Nat}(h:r≤40000*n)(i:n≤17):r≤1000000:=by omega
theorem ajz{p q o:Int}(h:Yv (p,q,o)): -2≤(p+o)/1440∧(q-1+o)/1440≤36527∧(p+o)/1440≤(q-1+o)/1440:=by
 obtain⟨i,r,C,D,E⟩:=h
 simp only at*
 omega
theorem asn(L:List (Int×Int×Int))(j:Nat)(C:j<L.length): ∃r,∀kk,sH (lJ L.length (Cq L)) (.i kk (j:Int)) 3=some (.vp (.i .i64 L[j].1:: .i .i64 L[j].2.1:: .i .i64 L[j].2.2::r)):=by
 have hs:g8 (lJ L.length (Cq L)) L.length (Cq L):=oA fun h=>by rw[List.length_eq_zero_iff.1 h];rfl
 have hlen:(Cq L).length=L.length*3:=tQ (sz:=3) (fun _=>rfl) L
 refine⟨Cq (L.drop (j+1)),fun kk=> ?_⟩
 rw[hs.ia hlen C]
 have:Cq L=Cq (L.take j)++Cq (L.drop j):=by rw[←PM,List.take_append_drop]
 have Tn:(Cq (L.take j)).length=j*3:=by rw[show(Cq (L.take j)).length=(L.take j).length*3 from tQ (sz:=3) (fun _=>rfl) _,List.length_take,Nat.min_eq_left (by omega)]
 rw[this,List.drop_append,Tn,Nat.sub_self,List.drop_zero,List.drop_eq_nil_of_le (by omega),List.nil_append,List.drop_eq_getElem_cons C]
 rfl
section
variable(f t A B:Int)(hs:SpB A B f t)(hl:jO f t≠0)(L:List (Int×Int×Int))(hL: ∀x∈L,Yv x)(hLl:L.length≤17)
include hs hl hL hLl
theorem axQ(fr:Fr)(lh:hJ gR)(sh:List gR)(F:an fr 2= .i .i64 f)(r:an fr 10= .i .i64 (jO f t))(U:an fr 11= .nilsl)(H:an fr 32=lJ L.length (Cq L))(E:an fr 33= .i .i64 (L.length:Int))(Me:an fr 34= .i .i64 0):
  kV 113 pI fr lh sh (.ext 0)∧
  (∃R,CG (kH pE 113 pI fr lh sh) (an (kh pE 113 pI fr lh sh) 11) R∧AP R∧mP R=y7 (fun x=>ky ((x.1+x.2)%1440) f t) L∧R.length≤1000000∧kb pE 113 pI fr lh sh=sh):=by
 obtain⟨s1,s2,s3,f1,f2,t1,t2⟩:=hs
 have hb:1≤jO f t∧jO f t<1440:=by unfold jO at hl ⊢; omega
 refine jo (fun k st=> ∃(fr:Fr) (lh:hJ gR) (R:List (Int×Int)),st=⟨fr,lh,sh⟩∧CG lh (an fr 11) R∧AP R∧mP R=y7 (fun x=>ky ((x.1+x.2)%1440) f t) (L.take k)∧R.length≤40000*k∧an fr 2= .i .i64 f∧an fr 10= .i .i64 (jO f t)∧an fr 32=lJ L.length (Cq L)∧an fr 33= .i .i64 (L.length:Int)∧an fr 34= .i .i64 (k:Int))
  (fun C il iw=> ∃R,CG il (an C 11) R∧AP R∧mP R=y7 (fun x=>ky ((x.1+x.2)%1440) f t) L∧R.length≤1000000∧iw=sh) _ L.length ?_ ?_ fr lh sh ⟨fr,lh,[],rfl,.inl ⟨rfl,U⟩,(fun x J=>by cases J),rfl,by simp,F,r,H,E,Me⟩
 ·rintro k _ K ⟨fr,lh,R,rfl,V,W,O,hlen,F,r,H,E,Me⟩
  have iu:(k:Int)<L.length:=by omega
  have hw:=iG (k:=k) (by omega)
  obtain⟨rr,iv⟩:=asn L k K
  have J:=hL _ (List.getElem_mem K)
  have sd:y7 (fun x=>ky ((x.1+x.2)%1440) f t) (L.take (k+1))=y7 (fun x=>ky ((x.1+x.2)%1440) f t) (L.take k)+wR (fun x=>ky ((x+L[k].2.2)%1440) f t) L[k].1 L[k].2.1:=by
   rw[List.take_succ_eq_append_getElem K,K5];simp[y7]
  rw[sd]
  generalize L[k]=x at*
  obtain⟨p,q,o⟩:=x
  obtain⟨b1,b2,b3⟩:=ajz J
  obtain⟨x1,X,x3,Y⟩:=J
  simp only at x1 X x3 Y iv ⊢
  have We:=acX (o:=o) ⟨f1,f2⟩ ⟨t1,t2⟩ hl X
  have w1:wr .i64 (p+o)=p+o:=jL (by omega)
  have w2:wr .i64 (q-1)=q-1:=jL (by omega)
  have w3:wr .i64 (q-1+o)=q-1+o:=jL (by omega)
  have q1:=BI (p+o) (by unfold Cp;omega)
  have q2:=BI (q-1+o) (by unfold Cp;omega)
  generalize (p+o)/1440=d1 at*
  generalize (q-1+o)/1440=d2 at*
  have w4:wr .i64 (d1-1)=d1-1:=jL (by omega)
  have Z:d2=d1-1+((d2-(d1-1)+1).toNat:Int)-1:=by omega
  have hN2:d1-1+((d2-(d1-1)+1).toNat:Int)≤40000:=by omega
  generalize (d2-(d1-1)+1).toNat=N at*
  have hN3:N≤40000:=by omega
  generalize (p+o)%1440=e1 at*
  generalize (q-1+o)%1440=e2 at*
  simp only[qA,seval,pI,H,E,Me,iu,iv,w1,w2,w3,w4,q1,q2,afd]
  generalize hD:DC pE 113 (.loop nl) _=D
  obtain⟨C,il,R',rfl,r1,r2,r3,r4,I⟩:=asm ⟨f1,f2⟩ hb ⟨Y.1,Y.2⟩ x1 ⟨X,x3⟩ R W (rl1 hlen K hLl) (d1-1) N (by omega) hN2 ((a6 lh 13).g+1) hD (by simp only[qA,seval,F]) (by simp only[qA,seval,r]) (by
   rcases V with⟨e1,e2⟩|⟨R1,y,g',e1,e2,e3⟩
   ·exact .inl ⟨e1,by simp only[qA,seval,e2]⟩
   ·exact .inr ⟨R1,y,g',e1,by simp only[qA,seval,e2],by simp only[qA,seval,e3]⟩) (by simp only[qA,seval]) (by simp only[qA,seval,←Z]) (by simp only[qA,seval]) (by simp only[qA,seval])
  have g2:an C 2= .i .i64 f:=by rw[I 2 (by decide)];simp only[qA,seval,F]
  have g10:an C 10= .i .i64 (jO f t):=by rw[I 10 (by decide)];simp only[qA,seval,r]
  have g32:an C 32=lJ L.length (Cq L):=by rw[I 32 (by decide)];simp only[qA,seval,H]
  have g33:an C 33= .i .i64 (L.length:Int):=by rw[I 33 (by decide)];simp only[qA,seval,E]
  have g34:an C 34= .i .i64 (k:Int):=by rw[I 34 (by decide)];simp only[qA,seval,Me]
  rw[We]at r3
  simp only[qA,seval,g34,hw]
  refine iN ⟨_,_,R',rfl,by simp only[qA,seval];exact r1,r2,by rw[r3,O],rl2 r4 hlen hN3,by simp only[qA,seval,g2],by simp only[qA,seval,g10],by simp only[qA,seval,g32],by simp only[qA,seval,g33],by simp only[qA,seval]⟩
 ·rintro _ ⟨fr,lh,R,rfl,V,W,O,hlen,F,r,H,E,Me⟩
  rw[List.take_length]at O
  simp only[qA,seval,pI,E,Me,Int.lt_irrefl]
  exact jD ⟨rfl,R,by simp only[qA,seval];exact V,W,O,rl3 hlen hLl,rfl⟩
end
theorem NH{z:Zo}{A B f t:Int}(hf:0≤f∧f<1440)(r:0≤t∧t<1440)(h:jO f t=0):z.bandM A B f t=0:=by
 have i: ∀n,qf (fun x=>ky (z.clk x) f t) A n=0:=by
  intro n
  induction n with
  |zero=>rfl
  |succ n ih=>
   rw[qf,ih]
   have e:ky (z.clk (A+n)) f t=false:=by
    have:=K3 (m:=A+n+z.off (A+n)) hf r
    rw[show(A+n+z.off (A+n))%1440=z.clk (A+n)from rfl,h]at this
    rw[this,decide_eq_false_iff_not]
    omega
   simp[e]
 exact i _
theorem asp{v:T}{R:List (Int×Int)}(h:g8 v R.length (Md R))(j:Nat)(C:j<R.length): ∃r,∀kk,sH v (.i kk (j:Int)) 2=some (.vp (.i .i64 R[j].1:: .i .i64 R[j].2::r)):=by
 refine⟨Md (R.drop (j+1)),fun kk=> ?_⟩
 rw[h.ia (AO R) C]
 unfold Md
 rw[Bu (sz:=2) (fun _=>rfl) R j C];rfl
theorem Iz: ∀{R:List (Int×Int)},AP R→0≤mP R
 | [],_=>by simp[mP]
 |x::R,h=>by
  have r:=h x (by simp)
  have C:=Iz (R:=R) fun y i=>h y (by simp[i])
  have:mP (x::R)=(x.2-x.1)+mP R:=by simp[mP]
  omega
theorem SG{R:List (Int×Int)}(h:AP R)(k:Nat):0≤mP (R.take k)∧mP (R.take k)≤mP R:=by
 have e:mP R=mP (R.take k)+mP (R.drop k):=by rw[←rS,List.take_append_drop]
 have r:=Iz (R:=R.take k) fun y i=>h y (List.mem_of_mem_take i)
 have C:=Iz (R:=R.drop k) fun y i=>h y (List.mem_of_mem_drop i)
 omega
theorem CG.fz{lh:hJ gR}{sh:List gR}{v:T}{R:List (Int×Int)}{m:Nat}(h:CG lh v R): ∃w u,Ev.fzW m lh sh false v=some (w,u)∧g8 w R.length (Md R)∧KB sh u=sh:=by
 rcases h with⟨rfl,rfl⟩|⟨R',x,g,rfl,rfl,h⟩
 ·exact⟨.nilsl,[],Bv rfl,.inl ⟨rfl,rfl,rfl⟩,rfl⟩
 ·have hl:=PQ R' (.i .i64 x.1) (.i .i64 x.2)
  refine⟨_,_,by rw[Ic,h,vd,if_pos ⟨rfl,by rw[hl];omega⟩],.inr ⟨false, ?_⟩,rfl⟩
  rw[List.drop_zero,List.take_of_length_le (by rw[hl];omega),PO,List.length_append];rfl
theorem asq{f t A B:Int}{fr:Fr}{lh:hJ gR}{sh:List gR}{D:Option (Out×St)}(hs:SpB A B f t)(hl:jO f t≠0)(L:List (Int×Int×Int))(hL: ∀x∈L,Yv x)(hLl:L.length≤17)(H:DC pE 113 (.loop pI) ⟨fr,lh,sh⟩=D)(I:an fr 2= .i .i64 f)(r:an fr 10= .i .i64 (jO f t))(C:an fr 11= .nilsl)(J:an fr 32=lJ L.length (Cq L))(K:an fr 33= .i .i64 (L.length:Int))(Me:an fr 34= .i .i64 0):
  ∃E F R,D=some (.ext 0,⟨E,F,sh⟩)∧CG F (an E 11) R∧AP R∧mP R=y7 (fun x=>ky ((x.1+x.2)%1440) f t) L∧R.length≤1000000∧ ∀s,(kJ (.loop pI)).contains s=false→an E s=an fr s:=by
 obtain⟨e,R,N,O,U,V,W⟩:=axQ f t A B hs hl L hL hLl fr lh sh I r C J K Me
 unfold kV at e;rw[W]at e
 exact⟨_,_,R,H.symm.trans e,N,O,U,V,fun s hs=>lW e s hs⟩
section
variable(z:Zo)(a:T)(hz:ZoT z a)(hv:mf z=0)(A B f t:Int)(hs:SpB A B f t)
include hz hv hs
theorem Yw: ∃v R s,gS pE 251 [.agg (sf z a),.agg [.i .i64 A,.i .i64 B],.i .i64 f,.i .i64 t] []=some (.tup [v,.i .i64 (jO f t)],s)∧g8 v R.length (Md R)∧AP R∧mP R=z.bandM A B f t∧R.length≤1000000:=by
 have E:=Yt z a hz (nU hv).2.1 A B _ rfl
 have F:=hs
 obtain⟨I,s2,J,N,O,U,V⟩:=F
 have We:=ND (f:=f) (t:=t) hv I J
 have W:=PT I J z.sh 0 z.o (PS (nU hv).1) (fun s q=>(C7 (nU hv).2.2 s q).2)
 have hlen:(oL A B 0 z.o z.sh).length≤17:=by
  have H: ∀(l:List (Int×Int)) (fr o:Int),(oL A B fr o l).length≤l.length+1:=by
   have one: ∀p q o:Int,(AN p q o).length≤1:=fun p q o=>by unfold AN;split <;> simp
   intro l
   induction l with
   |nil=>intro fr o;rw[oL];exact one _ _ _
   |cons s r ih=>intro fr o;rw[oL,List.length_append,List.length_cons];have:=one (max fr A) (min s.1 B) o;have:=ih s.1 s.2;omega
  have:=H z.sh 0 z.o
  have:=(nU hv).2.1
  omega
 have X:lenI (lJ (oL A B 0 z.o z.sh).length (Cq (oL A B 0 z.o z.sh)))=some (.i .i64 ((oL A B 0 z.o z.sh).length:Int)):=(oA (cs:=Cq (oL A B 0 z.o z.sh)) fun h=>by rw[List.length_eq_zero_iff.1 h];rfl).lenI
 have K:wr .i64 (t-f)=t-f:=jL (by omega)
 have CX:wr .i64 (t-f+1440)=t-f+1440:=jL (by omega)
 have C:(t-f+1440).tmod 1440=jO f t:=by unfold jO;exact Int.tmod_eq_emod_of_nonneg (by omega)
 generalize oL A B 0 z.o z.sh=L at*
 obtain⟨cc,Y,hc⟩:=hz
 unfold sf at E ⊢
 rw[gX ae9 (by simp[QX])]
 by_cases hl:jO f t=0
 ·refine⟨.nilsl,[],[], ?_,.inl ⟨rfl,rfl,rfl⟩,(fun x Z=>by cases Z), ?_,by simp⟩
  ·rw[hl]at C
   simp only[qA,seval,QX,K,CX,C,hl]
  ·rw[NH ⟨N,O⟩ ⟨U,V⟩ hl];rfl
 ·simp only[qA,seval,QX,K,CX,C,hl,E,apQ,X,Y.froz1]
  generalize hD:DC pE 113 (.loop pI) _=D
  obtain⟨iq,il,R,rfl,r1,r2,r3,r4,pr⟩:=asq hs hl L W hlen hD (by simp only[qA,seval]) (by simp only[qA,seval]) (by simp only[qA,seval]) (by simp only[qA,seval]) (by simp only[qA,seval]) (by simp only[qA,seval])
  have Z5:an iq 10= .i .i64 (jO f t):=by rw[pr 10 (by decide)];simp only[qA,seval]
  obtain⟨w,u,q1,q2,q3⟩:=r1.fz (sh:= []) (m:=6)
  simp only[qA,seval,Z5,q1]
  exact⟨w,R,_,rfl,q2,r2,by rw[r3,We],r4⟩
omit hz hv hs in
theorem axR(v:T)(R:List (Int×Int))(H:g8 v R.length (Md R))(F:AP R)(hs:mP R≤52596000)(hlen:R.length≤1000000)(fr:Fr)(lh:hJ gR)(sh:List gR)(r:an fr 13= .i .i64 0)(D:an fr 32=v)(C:an fr 33= .i .i64 (R.length:Int))(Me:an fr 34= .i .i64 0):
  kV 47 xi fr lh sh (.ext 0)∧
  (an (kh pE 47 xi fr lh sh) 13= .i .i64 (mP R)∧kb pE 47 xi fr lh sh=sh):=by
 refine jo (fun k st=> ∃(fr:Fr) (lh:hJ gR),st=⟨fr,lh,sh⟩∧an fr 13= .i .i64 (mP (R.take k))∧an fr 32=v∧an fr 33= .i .i64 (R.length:Int)∧an fr 34= .i .i64 (k:Int))
  (fun I X J=>an I 13= .i .i64 (mP R)∧J=sh) _ R.length ?_ ?_ fr lh sh ⟨fr,lh,rfl,r,D,C,Me⟩
 ·rintro k _ E ⟨fr,lh,rfl,r,D,C,Me⟩
  have K:(k:Int)<R.length:=by omega
  have N:=qe (k:=k) (by omega)
  obtain⟨Y,O⟩:=asp H k E
  have U:=SG F (k+1)
  have Z:=F _ (List.getElem_mem E)
  rw[List.take_succ_eq_append_getElem E,rS,rT]at U
  rw[List.take_succ_eq_append_getElem E,rS,rT]
  generalize R[k]=x at*
  generalize mP (R.take k)=q at*
  have V:wr .i64 (x.2-x.1)=x.2-x.1:=jL (by omega)
  have W:wr .i64 (q+(x.2-x.1))=q+(x.2-x.1):=jL (by omega)
  simp only[qA,seval,xi,r,D,C,Me,K,O,N,V,W]
  exact iN ⟨_,_,rfl,by simp only[qA,seval],by simp only[qA,seval,D],by simp only[qA,seval,C],by simp only[qA,seval]⟩
 ·rintro _ ⟨fr,lh,rfl,r,D,C,Me⟩
  rw[List.take_length]at r
  simp only[qA,seval,xi,C,Me,Int.lt_irrefl]
  exact jD ⟨rfl,by simp only[qA,seval,r],rfl⟩
theorem ajA:gS pE 182 [.agg (sf z a),.agg [.i .i64 A,.i .i64 B],.i .i64 f,.i .i64 t] []=some (.tup [.i .i64 (z.bandM A B f t),.i .i64 0],[]):=by
 have r:=acV z a hz hv A B f t hs
 obtain⟨v,R,s,C,D,F,E,H⟩:=Yw z a hz hv A B f t hs
 have I:z.bandM A B f t≤52596000:=by
  obtain⟨V,W,X,_⟩:=hs
  have:=C8 (fun x=>ky (z.clk x) f t) A (B-A).toNat
  unfold Zo.bandM wR
  omega
 have hL:=fun fr lh sh J K N Me=>axR v R D F (by rw[E];exact I) H fr lh sh J K N Me
 rw[E]at hL
 have O:=D.lenI
 obtain⟨Y,U,Z⟩:=hz
 unfold sf at r C ⊢
 rw[gX Vk (by simp[Ub])]
 simp only[qA,seval,Ub,r,C,O,hL,U.froz1,apE,apF]
end
theorem Yx{α:Type}{f:α→List Nat}: ∀{l:List α},(l.map f).Nodup→ ∀a∈l,∀b∈l,f a=f b→a=b
 | [],_,a,i,_,_,_=>by cases i
 |x::l,h,a,i,b,r,e=>by
  rw[List.map_cons,List.nodup_cons]at h
  rcases List.mem_cons.1 i with p|p <;> rcases List.mem_cons.1 r with q|q
  ·rw[p,q]
  ·exact absurd (List.mem_map.2 ⟨b,q,by rw[←e,p]⟩) h.1
  ·exact absurd (List.mem_map.2 ⟨a,p,by rw[e,q]⟩) h.1
  ·exact Yx h.2 a p b q e
theorem PU{α:Type}{f:α→List Nat}: ∀{l:List α},(l.map f).Nodup→ ∀a∈l,l.find? (fun x=>f x==f a)=some a:=by
 intro l h a i
 cases hq:l.find? (fun x=>f x==f a)with
 |none=>
  have:=List.find?_eq_none.1 hq a i
  simp at this
 |some b=>
  have r:=List.mem_of_find?_eq_some hq
  have C:=List.find?_some hq
  rw[Yx h b r a i (by simpa using C)]
def zo0:Zo:=⟨[],0,[]⟩
def CH(t:Tt)(s:List Nat):Zo:=match t.ap.find? fun u=>u.cd==s with
 |some u=>(t.zo.find? fun z=>z.nm==u.zn).getD zo0
 |none=>zo0
theorem NI{t:Tt}(i:tq t=0){u:Ap}{z:Zo}{s:List Nat}(r:u∈t.ap)(hz:z∈t.zo)(C:u.cd=s)(D:z.nm=u.zn):CH t s=z:=by
 obtain⟨E,_,F,_⟩:=Ns t i
 subst C
 unfold CH
 rw[PU F u r]
 simp only
 rw[←D,PU E z hz];rfl
theorem ajB{t:Tt}(r:tq t=0){s:List Nat}(hs:s∈t.ap.map Ap.cd): ∃u∈t.ap,u.cd=s∧ ∃z∈t.zo,z.nm=u.zn∧CH t s=z:=by
 obtain⟨_,E,_,_⟩:=AL t r
 obtain⟨u,i,C⟩:=List.mem_map.1 hs
 obtain⟨z,hz,D⟩:=List.mem_map.1 (E u i)
 exact⟨u,i,C,z,hz,D,NI r i hz C D⟩
theorem BK{t:Tt}(i:tq t=0){s:List Nat}(hs:s∈t.ap.map Ap.cd):mf (CH t s)=0:=by
 obtain⟨u,_,_,z,hz,_,h⟩:=ajB i hs
 rw[h];exact(AL t i).1 z hz
theorem axS{t:Tt}(i:tq t=0){q:List (List Nat×List T)}(hq:Sv t.zo t.ap q)(r:q.map Prod.fst=t.ap.map Ap.cd){s:List Nat}(hs:s∈t.ap.map Ap.cd): ∃a,iF q s=some (sf (CH t s) a)∧ZoT (CH t s) a:=by
 obtain⟨v,hv⟩:=BE (by rw[r];exact hs)
 obtain⟨u,C,D,z,hz,E,F⟩:=hq _ (AF hv)
 rw[NI i C hz D E]
 obtain⟨a,H,e,I,J⟩:=F
 simp only at e
 subst e
 exact⟨a,hv,H,I,J⟩
theorem nS{t:Tt}(i:tq t=0){f:Fl}(hf:f∈t.fl):f.fr∈t.ap.map Ap.cd∧f.to∈t.ap.map Ap.cd:=by
 have h:=(AL t i).2.2.1 f hf
 unfold Ip at h
 split at h
 ·cases h
 split at h
 ·cases h
 split at h
 ·cases h
 rename_i q
 split at h
 ·cases h
 rename_i r
 exact⟨by simpa using q,by simpa using r⟩
theorem PV{c:Ct}(h:my c=0):0≤c.nf∧c.nf≤1439∧0≤c.nt∧c.nt≤1439:=by
 unfold my at h
 split at h
 ·rename_i q;exact absurd h q
 rename_i g
 have g:mz c=0:=by omega
 unfold mz at g
 split at g
 ·cases g
 rename_i r
 have r:pw c=true:=by simpa using r
 unfold pw at r
 simp only[Bool.and_eq_true,PG]at r
 omega
def tm(c:Ct)(f:Fl):Int:=f.dp-c.rp
def tn(c:Ct)(g:Fl):Int:=g.ar+c.rl
def IA(t:Tt)(c:Ct)(f g:Fl):Int:=if tm c f<tn c g then(CH t f.fr).bandM (tm c f) (tn c g) c.nf c.nt else 0
def K7(t:Tt)(c:Ct)(f g:Fl):Int:=max ((CH t f.fr).off (tm c f)-(CH t g.to).off (tn c g)) ((CH t g.to).off (tn c g)-(CH t f.fr).off (tm c f))
def NJ(t:Tt)(c:Ct)(f:Fl):Int:=(CH t f.fr).clk (tm c f)
def NK(t:Tt)(c:Ct)(g:Fl):Int:=(CH t g.to).clk (tn c g)
theorem K8{c:Ct}(i:my c=0){f g:Fl}(hf:BH f)(C:BH g):(1440≤tm c f∧tm c f≤52593120)∧(2880≤tn c g∧tn c g≤52594560)∧wr .i64 (f.dp-c.rp)=tm c f∧wr .i64 (g.ar+c.rl)=tn c g∧wr .i64 (tn c g-tm c f)=tn c g-tm c f:=by
 obtain⟨_,D,E,F,H⟩:=hf
 obtain⟨_,I,J,K,N⟩:=C
 have r:=Yg c i
 unfold tm tn
 refine⟨by omega,by omega,jL (by omega),jL (by omega),jL (by omega)⟩
theorem C9{x:Int}(h:0≤x∧x<52596000):rR x=true:=by unfold rR;simp[h]
end Go.Proofs.YtblcbheipjeoeaaGreat
