/- Walks of functions of the program and of the reference, and their plain laws, part 12. Conditions: the theorems' own. -/
import Derived.Test.YtjniffjppoklpaaGreatM11
import Derived.KernelRfl
set_option maxRecDepth 100000
set_option linter.unusedSimpArgs false
set_option linter.unusedVariables false
set_option maxHeartbeats 16000000
namespace Go.Proofs.YtjniffjppoklpaaGreat
open Go Go.Ev
theorem uj{a b:Int}:(if b>a then b else a)=max a b:=by rw[Int.max_def];split <;> split <;> omega
theorem wV{a b:Int}:(if b<a then b else a)=min a b:=by rw[Int.min_def];split <;> split <;> omega
theorem qM{lh:iL iy}{sh:List iy}{v:T}{k n sz bytes:Nat}{cs:List T}(h:jr lh v k sz n cs)(r:List T)(A5:r.length=sz)(D:(n+1)*bytes≤roomy)(ex:Bool):
  appW lh sh k sz bytes v (.sl r 1 ex)=some (Zd lh sh k sz bytes v (.sl r 1 ex),HL lh sh k sz bytes v (.sl r 1 ex))∧jr (HL lh sh k sz bytes v (.sl r 1 ex)) (Zd lh sh k sz bytes v (.sl r 1 ex)) k sz (n+1) (cs++r)∧ ∀j,j≠k→a6 (HL lh sh k sz bytes v (.sl r 1 ex)) j=a6 lh j:=
 jr.appW h (m:=0) (by rw[I9,if_pos (by omega)]) (by omega) D
def CY(l:List (Int×Int×Int)):List T:=l.flatMap fun x=> [.i .i64 x.1,.i .i64 x.2.1,.i .i64 x.2.2]
theorem Rc(a b:List (Int×Int×Int)):CY (a++b)=CY a++CY b:=by unfold CY;rw[List.flatMap_append]
theorem Rd(p q o:Int)(l:List (Int×Int×Int)):CY l++ [.i .i64 p,.i .i64 q,.i .i64 o]=CY (l++ [(p,q,o)]):=by rw[Rc];rfl
section
variable(z:Zo)(a:T)(hz:ZoT z a)(hlen:z.sh.length≤16)(A B:Int)
def vG(z:Zo)(A B r D:Int)(k:Nat):List (Int×Int×Int):=if k≤z.sh.length then pB A B r D (z.sh.drop k)else []
theorem Uc{r D:Int}{k:Nat}(E:k<z.sh.length):vG z A B r D k=AN (max r A) (min z.sh[k].1 B) D++vG z A B z.sh[k].1 z.sh[k].2 (k+1):=by
 unfold vG
 rw[if_pos (by omega),if_pos (by omega),List.drop_eq_getElem_cons E,pB]
theorem Pt{r D:Int}:vG z A B r D z.sh.length=AN (max r A) (min 52596000 B) D:=by
 unfold vG
 rw[if_pos (by omega),List.drop_length,pB]
theorem wW{r D:Int}:vG z A B r D (z.sh.length+1)= []:=by
 unfold vG
 rw[if_neg (by omega)]
include hz hlen
theorem aCh(fr:Fr)(lh:iL iy)(sh:List iy)(F:an fr 2= .ptr .L 2 1 0)(H:an fr 3= .ptr .L 3 1 0)(V:an fr 5= .nilsl)(O:an fr 6= .i .i64 0)(U:an fr 7= .i .i64 z.o)(W:an fr 8= .i .i64 0)(E:a6 lh 2=⟨1,.cells (sF z a) 0 true⟩)(I:a6 lh 3=⟨1,.cells [.i .i64 A,.i .i64 B] 0 true⟩):
  qG 63 sP fr lh sh (.ext 0)∧
  (jr (nh pE 63 sP fr lh sh) (an (pb pE 63 sP fr lh sh) 5) 49 3 (pB A B 0 z.o z.sh).length (CY (pB A B 0 z.o z.sh))∧(pB A B 0 z.o z.sh).length≤17∧nB pE 63 sP fr lh sh=sh):=by
 obtain⟨cc,Y,hc⟩:=hz
 unfold sF at E
 refine ll (fun k st=> ∃(fr:Fr) (lh:iL iy) (J K:Int) (L:List (Int×Int×Int)),st=⟨fr,lh,sh⟩∧an fr 2= .ptr .L 2 1 0∧an fr 3= .ptr .L 3 1 0∧an fr 6= .i .i64 J∧an fr 7= .i .i64 K∧an fr 8= .i .i64 (k:Int)∧a6 lh 2=⟨1,.cells [.s z.nm,.i .i64 z.o,a] 0 true⟩∧a6 lh 3=⟨1,.cells [.i .i64 A,.i .i64 B] 0 true⟩∧jr lh (an fr 5) 49 3 L.length (CY L)∧L.length≤k∧L++vG z A B J K k=pB A B 0 z.o z.sh)
  (fun jB je jk=>jr je (an jB 5) 49 3 (pB A B 0 z.o z.sh).length (CY (pB A B 0 z.o z.sh))∧(pB A B 0 z.o z.sh).length≤17∧jk=sh) _ (z.sh.length+1) ?_ ?_ fr lh sh ⟨fr,lh,0,z.o,[],rfl,F,H,O,U,W,E,I,by rw[V];exact jr.nil,by simp,by simp[vG]⟩
 ·rintro k _ hk ⟨fr,lh,J,K,L,rfl,F,H,O,U,W,E,I,N,hL,r⟩
  have Z:(k:Int)≤z.sh.length:=by omega
  have hw:=iX (k:=k) (by omega)
  have D:=fun e:Int=>qM (sh:=sh) N [.i .i64 (max J A),.i .i64 (min e B),.i .i64 K] rfl (bytes:=24) (by unfold roomy;omega) true
  generalize V:an fr 5=v5 at N D
  by_cases wz:k<z.sh.length
  ·have hk2:(k:Int)<z.sh.length:=by omega
   obtain⟨rr,iW⟩:=FQ Y hc wz
   rw[Uc z A B wz]at r
   generalize z.sh[k]=s at*
   have D:=D s.1
   have X:=(D.2.2 2 (by decide)).trans E
   have p3:=(D.2.2 3 (by decide)).trans I
   simp only[qB,seval,repl,sP,F,H,V,O,U,W,E,I,Y.lenI,Z,hk2,iW,hw,uj,wV,N.notS,D.1,X]
   refine vv (fun h=> ?_) (fun h=> ?_)
   ·rw[AN,if_pos h]at r
    exact kA ⟨_,_,s.1,s.2,L++ [(max J A,min s.1 B,K)],rfl,by simp only[qA,seval,F],by simp only[qA,seval,H],by simp only[qA,seval],by simp only[qA,seval],by simp only[qA,seval],X,p3,by simp only[qA,seval];rw[←Rd,List.length_append];exact D.2.1,by simp;omega,by rw[List.append_assoc];exact r⟩
   ·rw[AN,if_neg h,List.nil_append]at r
    exact kA ⟨_,_,s.1,s.2,L,rfl,by simp only[qA,seval,F],by simp only[qA,seval,H],by simp only[qA,seval],by simp only[qA,seval],by simp only[qA,seval],E,I,by simp only[qA,seval,V];exact N,by omega,r⟩
  ·obtain rfl:k=z.sh.length:=by omega
   rw[Pt]at r
   have D:=D 52596000
   have X:=(D.2.2 2 (by decide)).trans E
   have p3:=(D.2.2 3 (by decide)).trans I
   simp only[qB,seval,repl,sP,F,H,V,O,U,W,E,I,Y.lenI,Int.lt_irrefl,Int.le_refl,hw,uj,wV,N.notS,D.1,X]
   refine vv (fun h=> ?_) (fun h=> ?_)
   ·rw[AN,if_pos h]at r
    exact kA ⟨_,_,J,K,L++ [(max J A,min 52596000 B,K)],rfl,by simp only[qA,seval,F],by simp only[qA,seval,H],by simp only[qA,seval,O],by simp only[qA,seval,U],by simp only[qA,seval],X,p3,by simp only[qA,seval];rw[←Rd,List.length_append];exact D.2.1,by simp;omega,by rw[wW,List.append_nil];exact r⟩
   ·rw[AN,if_neg h,List.append_nil]at r
    exact kA ⟨_,_,J,K,L,rfl,by simp only[qA,seval,F],by simp only[qA,seval,H],by simp only[qA,seval,O],by simp only[qA,seval,U],by simp only[qA,seval],E,I,by simp only[qA,seval,V];exact N,by omega,by rw[wW,List.append_nil];exact r⟩
 ·rintro _ ⟨fr,lh,J,K,L,rfl,F,H,O,U,W,E,I,N,hL,r⟩
  rw[wW,List.append_nil]at r
  subst r
  have Z: ¬((z.sh.length+1:Nat):Int)≤z.sh.length:=by omega
  simp only[qA,seval,sP,F,W,E,Y.lenI,Z]
  exact mf ⟨rfl,(by simp only[qA,seval];exact N),by omega,rfl⟩
theorem ZZ(sp:T)(A6:sp= .agg [.i .i64 A,.i .i64 B]):be pE 185 [.agg (sF z a),sp] []=some (ku (pB A B 0 z.o z.sh).length (CY (pB A B 0 z.o z.sh)),[]):=by
 subst A6
 have hL:=fun fr lh sh r D E F H I J K=>aCh z a hz hlen A B fr lh sh r D E F H I J K
 have N:=fun m keep fr lh sh r D E F H I J K=>jr.fzW (m:=m) (keep:=keep) (sh:=sh) (hL fr lh sh r D E F H I J K).2.1
 have MP:=fun keep fr lh sh r D E F H I J K=>jr.fzV (keep:=keep) (sh:=sh) (hL fr lh sh r D E F H I J K).2.1
 obtain⟨O,U,hc⟩:=hz
 unfold sF at hL N MP ⊢
 rw[iD ahT (by simp[Wr])]
 simp only[qA,seval,Wr,hL,MP,yU]
end
theorem afd(c f t:Int):be pE 199 [.i .i64 c,.i .i64 f,.i .i64 t] []=some (.b (lA c f t),[]):=by
 rw[iD Xr (by simp[IE])]
 unfold lA
 by_cases E:f≤t
 ·by_cases r:f≤c <;> by_cases D:c<t <;> simp only[qA,seval,IE,E,r,D]
 ·by_cases r:f≤c <;> by_cases D:c<t <;> simp only[qA,seval,IE,E,r,D,or_true,or_false,or_self]
def SpB(A B f t:Int):Prop:=0≤A∧A≤B∧B≤52596000∧0≤f∧f<1440∧0≤t∧t<1440
section
variable(z:Zo)(a:T)(hz:ZoT z a)(hv:oB z=0)(A B f t:Int)(hs:SpB A B f t)
include hz hv hs
theorem afe:be pE 164 [.agg (sF z a),.agg [.i .i64 A,.i .i64 B],.i .i64 f,.i .i64 t] []=some (.i .i64 0,[]):=by
 obtain⟨F,H,I,J,K,N,O⟩:=hs
 obtain⟨U,r,hc⟩:=hz
 have D:=FR z a U r hc
 rw[hv]at D
 have V:be pE 183 [.agg [.i .i64 A,.i .i64 B]] []=some (.b true,[]):=by
  rw[iD ahR (by simp[Wp])]
  simp only[qA,seval,Wp,F,H,I]
 have E: ∀x:Int,0≤x→x<1440→be pE 184 [.i .i64 x] []=some (.b true,[]):=by
  intro x W X
  rw[iD ahS (by simp[Wq])]
  simp only[qA,seval,Wq,W,X]
 have Y:=E f J K
 have Z:=E t N O
 unfold sF
 rw[iD ahw (by simp[Wj])]
 simp only[qA,seval,Wj,D,V,Y,Z,r.froz1,acC,as5,as6]
theorem Z0:be pE 198 [.agg (sF z a),.agg [.i .i64 A,.i .i64 B],.i .i64 f,.i .i64 t] []=some (.i .i64 0,[]):=by
 obtain⟨E,F,H,U,V,W,X⟩:=hs
 obtain⟨I,r,hc⟩:=hz
 have D:=FT z a I r hc
 rw[hv]at D
 have J:be pE 204 [.agg [.i .i64 A,.i .i64 B]] []=some (.b true,[]):=by
  rw[iD aia (by simp[WB])]
  simp only[qA,seval,WB,E,F,H]
 have K: ¬f<0:=by omega
 have N: ¬(1439:Int)<f:=by omega
 have g3: ¬t<0:=by omega
 have O: ¬(1439:Int)<t:=by omega
 unfold sF
 rw[iD ah5 (by simp[Wz])]
 simp only[qA,seval,Wz,D,J,K,N,g3,O,r.froz1,ajR,atj]
theorem aCi(fr:Fr)(lh:iL iy)(sh:List iy)(I:an fr 2= .i .i64 f)(J:an fr 3= .i .i64 t)(K:an fr 4= .ptr .L 4 1 0)(E:an fr 5= .ptr .L 5 1 0)(r:an fr 11= .i .i64 0)(D:an fr 12= .i .i64 A)(F:a6 lh 4=⟨1,.cells (sF z a) 0 true⟩)(H:a6 lh 5=⟨1,.cells [.i .i64 A,.i .i64 B] 0 true⟩):
  qG 47 uQ fr lh sh (.ext 0)∧
  (an (pb pE 47 uQ fr lh sh) 11= .i .i64 (z.bandM A B f t)∧nB pE 47 uQ fr lh sh=sh):=by
 obtain⟨s1,s2,s3,f1,f2,t1,t2⟩:=hs
 have N:=fun x=>vF z a hz (oS hv).2.1 hv x
 have O:froz1 a=true:=by obtain⟨cc,Y,_⟩:=hz;exact Y.froz1
 unfold sF at F N
 refine ll (fun k st=> ∃(fr:Fr) (lh:iL iy),st=⟨fr,lh,sh⟩∧an fr 2= .i .i64 f∧an fr 3= .i .i64 t∧an fr 4= .ptr .L 4 1 0∧an fr 5= .ptr .L 5 1 0∧an fr 11= .i .i64 (qL (fun x=>lA (z.clk x) f t) A k)∧an fr 12= .i .i64 (A+k)∧a6 lh 4=⟨1,.cells [.s z.nm,.i .i64 z.o,a] 0 true⟩∧a6 lh 5=⟨1,.cells [.i .i64 A,.i .i64 B] 0 true⟩)
  (fun Z je jk=>an Z 11= .i .i64 (z.bandM A B f t)∧jk=sh) _ (B-A).toNat ?_ ?_ fr lh sh ⟨fr,lh,rfl,I,J,K,E,r,by rw[D];simp,F,H⟩
 ·rintro k _ hk ⟨fr,lh,rfl,I,J,K,E,r,D,F,H⟩
  have U:A+k<B:=by omega
  have hi:ui (A+k)=true:=by unfold ui;simp only[Bool.and_eq_true,decide_eq_true_eq];omega
  obtain⟨w,nr⟩:=Pq z a hz hv (A+k) hi
  have A6:=B5 _ nr
  have V:=afd (z.clk (A+k)) f t
  have wi:=DF (fun x=>lA (z.clk x) f t) A k
  have Jt:wr .i64 (A+k+1)=A+((k+1:Nat):Int):=by rw[jE (by omega)];omega
  have FH:wr .i64 (qL (fun x=>lA (z.clk x) f t) A k+1)=qL (fun x=>lA (z.clk x) f t) A k+1:=jE (by omega)
  have mI:qL (fun x=>lA (z.clk x) f t) A (k+1)=qL (fun x=>lA (z.clk x) f t) A k+if lA (z.clk (A+k)) f t=true then 1 else 0:=rfl
  have W:=N (A+k)
  rw[show(A+k+z.off (A+k))%1440=z.clk (A+k)from rfl]at A6
  generalize qL (fun x=>lA (z.clk x) f t) A k=q at*
  generalize z.clk (A+k)=cl at*
  generalize (A+k+z.off (A+k))/1440=dy at*
  generalize X:A+k+z.off (A+k)=m at*
  generalize A+(k:Int)=x at*
  have aHf:=A6
  rw[mI]
  cases hb:lA cl f t <;> rw[hb]at V
  ·simp only[qA,seval,uQ,I,J,K,E,r,D,F,H,U,W,X,w,A6,V,Jt,O,LD,Qp,Xs]
   exact kA ⟨_,_,rfl,by simp only[qA,seval,I],by simp only[qA,seval,J],by simp only[qA,seval,K],by simp only[qA,seval,E],by simp only[qA,seval,r,Int.add_zero],by simp only[qA,seval],by simp only[F],by simp only[H]⟩
  ·simp only[qA,seval,uQ,I,J,K,E,r,D,F,H,U,W,X,w,A6,V,Jt,FH,O,LD,Qp,Xs]
   exact kA ⟨_,_,rfl,by simp only[qA,seval,I],by simp only[qA,seval,J],by simp only[qA,seval,K],by simp only[qA,seval,E],by simp only[qA,seval],by simp only[qA,seval],by simp only[F],by simp only[H]⟩
 ·rintro _ ⟨fr,lh,rfl,I,J,K,E,r,D,F,H⟩
  have U: ¬A+(((B-A).toNat:Nat):Int)<B:=by omega
  simp only[qA,seval,uQ,E,D,H,U]
  exact mf ⟨rfl,by simp only[qA,seval,r];rfl,rfl⟩
theorem al3:be pE 187 [.agg (sF z a),.agg [.i .i64 A,.i .i64 B],.i .i64 f,.i .i64 t] []=some (.tup [.i .i64 (z.bandM A B f t),.i .i64 0],[]):=by
 have hL:=fun fr lh sh F H I J r D K N=>aCi z a hz hv A B f t hs fr lh sh F H I J r D K N
 have E:=Z0 z a hz hv A B f t hs
 obtain⟨U,O,hc⟩:=hz
 unfold sF at E hL ⊢
 rw[iD ahW (by simp[Wt])]
 simp only[qA,seval,Wt,E,hL,O.froz1,atg]
end
def N9(l:List (Int×Int)):List T:=l.flatMap fun x=> [.i .i64 x.1,.i .i64 x.2]
theorem Re(a b:List (Int×Int)):N9 (a++b)=N9 a++N9 b:=by grind [N9]
theorem DG(l:List (Int×Int)):(N9 l).length=l.length*2:=tU (sz:=2) (fun _=>rfl) l
def oq(l:List (Int×Int)):Int:=(l.map fun x=>x.2-x.1).sum
theorem sg(a b:List (Int×Int)):oq (a++b)=oq a+oq b:=by grind [oq]
theorem si(x:Int×Int):oq [x]=x.2-x.1:=by simp[oq]
def Dg(lh:iL iy)(v:T)(R:List (Int×Int)):Prop:=
 (R= []∧v= .nilsl)∨ ∃R' x g,R=R'++ [x]∧v= .isl .L 109 g 0 (R'.length+1) 2∧a6 lh 109=⟨g,.cells (N9 R'++ [.i .i64 x.1,.i .i64 x.2]) 0 false⟩
def AO(R:List (Int×Int)):Prop:= ∀x∈R,0≤x.1∧x.1≤x.2∧x.2≤52596000
theorem al4(R:List (Int×Int))(a b:T):(N9 R++ [a,b])[R.length*2+1]? =some b:=by
 grind [DG]
theorem Pu(R:List (Int×Int))(a b c:T):splice (N9 R++ [a,b]) (R.length*2+1) [c]=N9 R++ [a,c]:=by
 have r: ∀(cs:List T),splice (cs++ [a,b]) (cs.length+1) [c]=cs++ [a,c]:=by
  intro cs
  induction cs with
  |nil=>rfl
  |cons x cs ih=>rw[List.cons_append,List.length_cons,splice,ih];rfl
 grind [DG]
theorem Rf(R:List (Int×Int))(a b:T):(N9 R++ [a,b]).length=R.length*2+2:=by rw[List.length_append,DG];rfl
theorem aff{n:Nat}:((n+1)*2=n*2+2)=True:=by simp;omega
section
variable(f t o p q:Int)(hf:0≤f∧f<1440)(hl:1≤kF f t∧kF f t<1440)(ho: -840≤o∧o≤840)(hp:0≤p)(hq:p<q∧q≤52596000)
include hf hl ho hp hq
theorem aCj(R0:List (Int×Int))(hB0:AO R0)(Ku:R0.length≤1000000)(lo:Int)(N:Nat)(hlo: -10≤lo)(hN:lo+N≤40000)(g:Nat)(fr:Fr)(lh:iL iy)(sh:List iy)(F:an fr 2= .i .i64 f)(r:an fr 10= .i .i64 (kF f t))(D:Dg lh (an fr 11) R0)(H:an fr 13= .ptr .L 13 g 0)(E:an fr 16= .i .i64 (lo+N-1))(K:an fr 18= .i .i64 lo)(Ud:a6 lh 13=⟨g,.cells [.i .i64 p,.i .i64 q,.i .i64 o] 0 true⟩):
  qG 113 od fr lh sh (.ext 2)∧
  (∃R,Dg (nh pE 113 od fr lh sh) (an (pb pE 113 od fr lh sh) 11) R∧AO R∧oq R=oq R0+wU (f-o) (kF f t) p q lo N∧R.length≤R0.length+N∧nB pE 113 od fr lh sh=sh):=by
 refine ll (fun k st=> ∃(fr:Fr) (lh:iL iy) (R:List (Int×Int)),st=⟨fr,lh,sh⟩∧Dg lh (an fr 11) R∧AO R∧oq R=oq R0+wU (f-o) (kF f t) p q lo k∧R.length≤R0.length+k∧an fr 2= .i .i64 f∧an fr 10= .i .i64 (kF f t)∧an fr 13= .ptr .L 13 g 0∧an fr 16= .i .i64 (lo+N-1)∧an fr 18= .i .i64 (lo+k)∧a6 lh 13=⟨g,.cells [.i .i64 p,.i .i64 q,.i .i64 o] 0 true⟩)
  (fun jB je jk=> ∃R,Dg je (an jB 11) R∧AO R∧oq R=oq R0+wU (f-o) (kF f t) p q lo N∧R.length≤R0.length+N∧jk=sh) _ N ?_ ?_ fr lh sh ⟨fr,lh,R0,rfl,D,hB0,by simp[wU],by omega,F,r,H,E,by rw[K];simp,Ud⟩
 ·rintro k _ hk ⟨fr,lh,R,rfl,Y,U,hs,hlen,F,r,H,E,K,Ud⟩
  have V:lo+k≤lo+N-1:=by omega
  have pY:wU (f-o) (kF f t) p q lo (k+1)=wU (f-o) (kF f t) p q lo k+Pr (f-o) (kF f t) p q (lo+k):=rfl
  have Z:wr .i64 (lo+k+1)=lo+((k+1:Nat):Int):=by rw[jE (by omega)];omega
  have w2:wr .i64 ((lo+k)*1440)=1440*(lo+k):=by rw[jE (by omega)];omega
  have w3:wr .i64 (1440*(lo+k)+f)=1440*(lo+k)+f:=jE (by omega)
  have w4:wr .i64 (1440*(lo+k)+f-o)=1440*(lo+k)+(f-o):=by rw[jE (by omega)];omega
  have w5:wr .i64 (1440*(lo+k)+(f-o)+kF f t)=1440*(lo+k)+(f-o)+kF f t:=jE (by omega)
  rw[pY]
  unfold Pr
  generalize kF f t=len at*
  generalize lo+(k:Int)=d at*
  generalize hS:1440*d+(f-o)=S at*
  have hA:0≤max S p:=by omega
  have hE:min (S+len) q≤52596000:=by omega
  generalize I:max S p=a at*
  generalize QE:min (S+len) q=e at*
  by_cases J:e≤a
  ·rw[if_neg (by omega),Int.add_zero]
   simp only[qA,seval,od,F,r,H,E,K,Ud,V,Z,w2,w3,w4,w5,I,QE,uj,wV,J]
   exact kA ⟨_,_,R,rfl,by simp only[qA,seval];exact Y,U,hs,by omega,by simp only[qA,seval,F],by simp only[qA,seval,r],by simp only[qA,seval,H],by simp only[qA,seval,E],by simp only[qA,seval],Ud⟩
  ·have aCl:a<e:=by omega
   rw[if_pos aCl]
   have Dz:(R.length+1)*16≤roomy:=by unfold roomy;omega
   rcases Y with⟨rfl,D⟩|⟨R',x,g',rfl,D,avE⟩
   ·have Dz:16≤roomy:=by unfold roomy;omega
    simp only[qA,seval,appW,repl,od,F,r,D,H,E,K,Ud,V,Z,w2,w3,w4,w5,I,QE,uj,wV,J,Int.lt_irrefl,Dz]
    refine kA ⟨_,_,[(a,e)],rfl,.inr ⟨[],(a,e),(a6 lh 109).g+1,rfl,by simp only[qA,seval],by simp only[qA,seval];rfl⟩, ?_, ?_,by simp;omega,by simp only[qA,seval,F],by simp only[qA,seval,r],by simp only[qA,seval,H],by simp only[qA,seval,E],by simp only[qA,seval],by simp only[qA,seval,Ud]⟩
    ·intro y hy
     grind
    grind [si,oq]
   ·rw[List.length_append]at Dz hlen
    simp only[List.length_cons,List.length_nil,Nat.zero_add]at Dz hlen
    have C9:(0:Int)<((R'.length+1:Nat):Int):=by omega
    have W:wr .i64 (((R'.length+1:Nat):Int)-1)=(R'.length:Int):=by rw[jE (by omega)];omega
    have kZ:=al4 R' (.i .i64 x.1) (.i .i64 x.2)
    have wg:=Rf R' (.i .i64 x.1) (.i .i64 x.2)
    have X:=Pu R' (.i .i64 x.1) (.i .i64 x.2) (.i .i64 e)
    have hx:=U x (by simp)
    rw[sg,si]at hs
    by_cases O:x.2=a
    ·rw[O]at kZ wg X
     simp only[qA,seval,appW,repl,od,F,r,D,H,E,K,Ud,avE,V,Z,w2,w3,w4,w5,I,QE,uj,wV,J,C9,W,kZ,O,wg,X,Nat.lt_succ_self,Int.natCast_nonneg]
     refine kA ⟨_,_,R'++ [(x.1,e)],rfl,.inr ⟨R',(x.1,e),g',rfl,by simp only[qA,seval,D],by simp only[qA,seval]⟩, ?_, ?_,by simp;omega,by simp only[qA,seval,F],by simp only[qA,seval,r],by simp only[qA,seval,H],by simp only[qA,seval,E],by simp only[qA,seval],by simp only[qA,seval,Ud]⟩
     ·intro y hy
      rcases List.mem_append.1 hy with hy|hy
      ·exact U y (by simp[hy])
      ·grind
     ·rw[sg,si];simp only;omega
    ·simp only[qA,seval,appW,repl,od,F,r,D,H,E,K,Ud,avE,V,Z,w2,w3,w4,w5,I,QE,uj,wV,J,C9,W,kZ,O,wg,Nat.lt_succ_self,Int.natCast_nonneg,aff,Dz]
     refine kA ?_
     refine⟨_,_,R'++ [x]++ [(a,e)],rfl,.inr ⟨R'++ [x],(a,e),g'+1,rfl,by simp only[qA,seval];simp,by simp only[qA,seval];rw[Re];rfl⟩, ?_, ?_,by simp;omega,by simp only[qA,seval,F],by simp only[qA,seval,r],by simp only[qA,seval,H],by simp only[qA,seval,E],by simp only[qA,seval],by simp only[qA,seval,Ud]⟩
     ·intro y hy
      rcases List.mem_append.1 hy with hy|hy
      ·exact U y hy
      ·rw[List.mem_singleton.1 hy];exact⟨hA,by show a≤e;omega,hE⟩
     ·rw[sg,sg,si,si];simp only;omega
 ·rintro _ ⟨fr,lh,R,rfl,Y,U,hs,hlen,F,r,H,E,K,Ud⟩
  have V: ¬lo+(N:Int)≤lo+N-1:=by omega
  simp only[qA,seval,od,E,K,V]
  exact mf ⟨rfl,R,by simp only[qA,seval];exact Y,U,hs,hlen,rfl⟩
end
theorem avG{f t o p q:Int}{fr:Fr}{lh:iL iy}{sh:List iy}{D:Option (Out×St)}(hf:0≤f∧f<1440)(hl:1≤kF f t∧kF f t<1440)(ho: -840≤o∧o≤840)(hp:0≤p)(hq:p<q∧q≤52596000)(R0:List (Int×Int))(r:AO R0)(Ku:R0.length≤1000000)(lo:Int)(N:Nat)(E: -10≤lo)(K:lo+N≤40000)(g:Nat)(O:DC pE 113 (.loop od) ⟨fr,lh,sh⟩=D)(U:an fr 2= .i .i64 f)(F:an fr 10= .i .i64 (kF f t))(H:Dg lh (an fr 11) R0)(V:an fr 13= .ptr .L 13 g 0)(W:an fr 16= .i .i64 (lo+N-1))(X:an fr 18= .i .i64 lo)(Ud:a6 lh 13=⟨g,.cells [.i .i64 p,.i .i64 q,.i .i64 o] 0 true⟩):
  ∃I J R,D=some (.ext 2,⟨I,J,sh⟩)∧Dg J (an I 11) R∧AO R∧oq R=oq R0+wU (f-o) (kF f t) p q lo N∧R.length≤R0.length+N∧ ∀s,(jU (.loop od)).contains s=false→an I s=an fr s:=by
 obtain⟨e,R,Y,Z,r3,r4,r5⟩:=aCj f t o p q hf hl ho hp hq R0 r Ku lo N E K g fr lh sh U F H V W X Ud
 unfold qG at e;rw[r5]at e
 exact⟨_,_,R,O.symm.trans e,Y,Z,r3,r4,fun s hs=>lH e s hs⟩
def Z1(x:Int×Int×Int):Prop:=0≤x.1∧x.1<x.2.1∧x.2.1≤52596000∧ -840≤x.2.2∧x.2.2≤840
theorem Rg{a b o:Int}(D:0≤a)(E:b≤52596000)(ho: -840≤o∧o≤840): ∀x∈AN a b o,Z1 x:=by
 intro x r
 unfold AN at r
 split at r
 ·rw[List.mem_singleton.1 r]
  exact⟨D,by assumption,E,ho⟩
 ·cases r
theorem Rh{o:Int}(h:wR o=true): -840≤o∧o≤840:=by
 grind [wR]
theorem Ri{A B:Int}(D:0≤A)(E:B≤52596000): ∀(l:List (Int×Int)) (fr o:Int),(-840≤o∧o≤840)→(∀s∈l,wR s.2=true)→ ∀x∈pB A B fr o l,Z1 x
 | [],fr,o,ho,hl,x,hx=>by
   rw[pB]at hx
   exact Rg (by omega) (by omega) ho x hx
 |s::r,fr,o,ho,hl,x,hx=>by
  rw[pB,List.mem_append]at hx
  rcases hx with hx|hx
  ·exact Rg (by omega) (by omega) ho x hx
  ·exact Ri D E r s.1 s.2 (Rh (hl s (by simp))) (fun y F=>hl y (by simp[F])) x hx
theorem afg{f t:Int}(hf:0≤f∧f<1440)(ht:0≤t∧t<1440)(hl:kF f t≠0){p q o:Int}(h:p<q):wU (f-o) (kF f t) p q ((p+o)/1440-1) ((q-1+o)/1440-((p+o)/1440-1)+1).toNat=wS (fun x=>lA ((x+o)%1440) f t) p q:=by
 have r:=MM (o:=o) (p:=p) hf ht hl ((p+o)/1440-1) ((q-1+o)/1440-((p+o)/1440-1)+1).toNat (Int.le_refl _) (q-p).toNat (by
  rw[show p+((q-p).toNat:Int)=q by omega]
  omega)
 rw[show p+((q-p).toNat:Int)=q by omega]at r
 rw[r];rfl
theorem rl1{r k n:Nat}(h:r≤40000*k)(D:k<n)(E:n≤17):r≤1000000:=by omega
theorem rl2{r s N k:Nat}(h:s≤r+N)(D:r≤40000*k)(E:N≤40000):s≤40000*(k+1):=by omega
theorem rl3{r n:Nat}(h:r≤40000*n)(D:n≤17):r≤1000000:=by omega
theorem al6{p q o:Int}(h:Z1 (p,q,o)): -2≤(p+o)/1440∧(q-1+o)/1440≤36527∧(p+o)/1440≤(q-1+o)/1440:=by
 obtain⟨r,D,E,F,H⟩:=h
 grind
theorem avH(L:List (Int×Int×Int))(j:Nat)(D:j<L.length): ∃r,∀kk,ng (ku L.length (CY L)) (.i kk (j:Int)) 3=some (.vp (.i .i64 L[j].1:: .i .i64 L[j].2.1:: .i .i64 L[j].2.2::r)):=by
 have hs:iJ (ku L.length (CY L)) L.length (CY L):=oN fun h=>by rw[List.length_eq_zero_iff.1 h];rfl
 have hlen:(CY L).length=L.length*3:=tU (sz:=3) (fun _=>rfl) L
 refine⟨CY (L.drop (j+1)),fun kk=> ?_⟩
 rw[hs.ia hlen D]
 have:CY L=CY (L.take j)++CY (L.drop j):=by rw[←Rc,List.take_append_drop]
 have NW:(CY (L.take j)).length=j*3:=by rw[show(CY (L.take j)).length=(L.take j).length*3 from tU (sz:=3) (fun _=>rfl) _,List.length_take,Nat.min_eq_left (by omega)]
 rw[this,List.drop_append,NW,Nat.sub_self,List.drop_zero,List.drop_eq_nil_of_le (by omega),List.nil_append,List.drop_eq_getElem_cons D]
 rfl
section
variable(f t A B:Int)(hs:SpB A B f t)(hl:kF f t≠0)(L:List (Int×Int×Int))(hL: ∀x∈L,Z1 x)(hLl:L.length≤17)
include hs hl hL hLl
theorem aCn(fr:Fr)(lh:iL iy)(sh:List iy)(F:an fr 2= .i .i64 f)(r:an fr 10= .i .i64 (kF f t))(K:an fr 11= .nilsl)(DH:an fr 32=ku L.length (CY L))(FV:an fr 33= .i .i64 (L.length:Int))(Jv:an fr 34= .i .i64 0):
  qG 113 qk fr lh sh (.ext 0)∧
  (∃R,Dg (nh pE 113 qk fr lh sh) (an (pb pE 113 qk fr lh sh) 11) R∧AO R∧oq R=y8 (fun x=>lA ((x.1+x.2)%1440) f t) L∧R.length≤1000000∧nB pE 113 qk fr lh sh=sh):=by
 obtain⟨s1,s2,s3,f1,f2,t1,t2⟩:=hs
 have hb:1≤kF f t∧kF f t<1440:=by unfold kF at hl ⊢; omega
 refine ll (fun k st=> ∃(fr:Fr) (lh:iL iy) (R:List (Int×Int)),st=⟨fr,lh,sh⟩∧Dg lh (an fr 11) R∧AO R∧oq R=y8 (fun x=>lA ((x.1+x.2)%1440) f t) (L.take k)∧R.length≤40000*k∧an fr 2= .i .i64 f∧an fr 10= .i .i64 (kF f t)∧an fr 32=ku L.length (CY L)∧an fr 33= .i .i64 (L.length:Int)∧an fr 34= .i .i64 (k:Int))
  (fun E je jk=> ∃R,Dg je (an E 11) R∧AO R∧oq R=y8 (fun x=>lA ((x.1+x.2)%1440) f t) L∧R.length≤1000000∧jk=sh) _ L.length ?_ ?_ fr lh sh ⟨fr,lh,[],rfl,.inl ⟨rfl,K⟩,(fun x I=>by cases I),rfl,by simp,F,r,DH,FV,Jv⟩
 ·rintro k _ J ⟨fr,lh,R,rfl,O,U,AP,hlen,F,r,DH,FV,Jv⟩
  have iU:(k:Int)<L.length:=by omega
  have hw:=iX (k:=k) (by omega)
  obtain⟨rr,iW⟩:=avH L k J
  have I:=hL _ (List.getElem_mem J)
  have mI:y8 (fun x=>lA ((x.1+x.2)%1440) f t) (L.take (k+1))=y8 (fun x=>lA ((x.1+x.2)%1440) f t) (L.take k)+wS (fun x=>lA ((x+L[k].2.2)%1440) f t) L[k].1 L[k].2.1:=by
   rw[List.take_succ_eq_append_getElem J,MN];simp[y8]
  rw[mI]
  generalize L[k]=x at*
  obtain⟨p,q,o⟩:=x
  obtain⟨b1,b2,b3⟩:=al6 I
  obtain⟨x1,V,x3,W⟩:=I
  simp only at x1 V x3 W iW ⊢
  have X:=afg (o:=o) ⟨f1,f2⟩ ⟨t1,t2⟩ hl V
  have w1:wr .i64 (p+o)=p+o:=jE (by omega)
  have w2:wr .i64 (q-1)=q-1:=jE (by omega)
  have w3:wr .i64 (q-1+o)=q-1+o:=jE (by omega)
  have q1:=B4 (p+o) (by unfold CX;omega)
  have q2:=B4 (q-1+o) (by unfold CX;omega)
  generalize (p+o)/1440=d1 at*
  generalize (q-1+o)/1440=d2 at*
  have w4:wr .i64 (d1-1)=d1-1:=jE (by omega)
  have Y:d2=d1-1+((d2-(d1-1)+1).toNat:Int)-1:=by omega
  have Z:d1-1+((d2-(d1-1)+1).toNat:Int)≤40000:=by omega
  generalize (d2-(d1-1)+1).toNat=N at*
  have hN3:N≤40000:=by omega
  generalize (p+o)%1440=e1 at*
  generalize (q-1+o)%1440=e2 at*
  simp only[qA,seval,qk,DH,FV,Jv,iU,iW,w1,w2,w3,w4,q1,q2,ahB]
  generalize hD:DC pE 113 (.loop od) _=D
  obtain⟨E,je,R',rfl,r1,r2,r3,r4,H⟩:=avG ⟨f1,f2⟩ hb ⟨W.1,W.2⟩ x1 ⟨V,x3⟩ R U (rl1 hlen J hLl) (d1-1) N (by omega) Z ((a6 lh 13).g+1) hD (by simp only[qA,seval,F]) (by simp only[qA,seval,r]) (by
   rcases O with⟨e1,e2⟩|⟨R1,y,g',e1,e2,e3⟩
   ·exact .inl ⟨e1,by simp only[qA,seval,e2]⟩
   ·exact .inr ⟨R1,y,g',e1,by simp only[qA,seval,e2],by simp only[qA,seval,e3]⟩) (by simp only[qA,seval]) (by simp only[qA,seval,←Y]) (by simp only[qA,seval]) (by simp only[qA,seval])
  have g2:an E 2= .i .i64 f:=by rw[H 2 (by decide)];simp only[qA,seval,F]
  have g10:an E 10= .i .i64 (kF f t):=by rw[H 10 (by decide)];simp only[qA,seval,r]
  have g32:an E 32=ku L.length (CY L):=by rw[H 32 (by decide)];simp only[qA,seval,DH]
  have g33:an E 33= .i .i64 (L.length:Int):=by rw[H 33 (by decide)];simp only[qA,seval,FV]
  have g34:an E 34= .i .i64 (k:Int):=by rw[H 34 (by decide)];simp only[qA,seval,Jv]
  rw[X]at r3
  simp only[qA,seval,g34,hw]
  refine kA ⟨_,_,R',rfl,by simp only[qA,seval];exact r1,r2,by rw[r3,AP],rl2 r4 hlen hN3,by simp only[qA,seval,g2],by simp only[qA,seval,g10],by simp only[qA,seval,g32],by simp only[qA,seval,g33],by simp only[qA,seval]⟩
 ·rintro _ ⟨fr,lh,R,rfl,O,U,AP,hlen,F,r,DH,FV,Jv⟩
  rw[List.take_length]at AP
  simp only[qA,seval,qk,FV,Jv,Int.lt_irrefl]
  exact mf ⟨rfl,R,by simp only[qA,seval];exact O,U,AP,rl3 hlen hLl,rfl⟩
end
theorem Pv{z:Zo}{A B f t:Int}(hf:0≤f∧f<1440)(ht:0≤t∧t<1440)(h:kF f t=0):z.bandM A B f t=0:=by
 have r: ∀n,qL (fun x=>lA (z.clk x) f t) A n=0:=by
  intro n
  induction n with
  |zero=>rfl
  |succ n ih=>
   rw[qL,ih]
   have e:lA (z.clk (A+n)) f t=false:=by
    have:=ML (m:=A+n+z.off (A+n)) hf ht
    rw[show(A+n+z.off (A+n))%1440=z.clk (A+n)from rfl,h]at this
    grind
   simp[e]
 exact r _
theorem avK{v:T}{R:List (Int×Int)}(h:iJ v R.length (N9 R))(j:Nat)(D:j<R.length): ∃r,∀kk,ng v (.i kk (j:Int)) 2=some (.vp (.i .i64 R[j].1:: .i .i64 R[j].2::r)):=by
 refine⟨N9 (R.drop (j+1)),fun kk=> ?_⟩
 rw[h.ia (DG R) D]
 simp_all[N9,BW]
theorem Jw: ∀{R:List (Int×Int)},AO R→0≤oq R
 | [],_=>by simp[oq]
 |x::R,h=>by
  have D:=h x (by simp)
  have E:=Jw (R:=R) fun y r=>h y (by simp[r])
  grind [oq]
theorem Ue{R:List (Int×Int)}(h:AO R)(k:Nat):0≤oq (R.take k)∧oq (R.take k)≤oq R:=by
 have e:oq R=oq (R.take k)+oq (R.drop k):=by rw[←sg,List.take_append_drop]
 have D:=Jw (R:=R.take k) fun y r=>h y (List.mem_of_mem_take r)
 have E:=Jw (R:=R.drop k) fun y r=>h y (List.mem_of_mem_drop r)
 omega
theorem Dg.fz{lh:iL iy}{sh:List iy}{v:T}{R:List (Int×Int)}{m:Nat}(h:Dg lh v R): ∃w u,Ev.fzW m lh sh false v=some (w,u)∧iJ w R.length (N9 R)∧Fu sh u=sh:=by
 rcases h with⟨rfl,rfl⟩|⟨R',x,g,rfl,rfl,h⟩
 ·exact⟨.nilsl,[],BX rfl,.inl ⟨rfl,rfl,rfl⟩,rfl⟩
 ·have hl:=Rf R' (.i .i64 x.1) (.i .i64 x.2)
  refine⟨_,_,by rw[Jg,h,vi,if_pos ⟨rfl,by rw[hl];omega⟩],.inr ⟨false, ?_⟩,rfl⟩
  rw[List.drop_zero,List.take_of_length_le (by rw[hl];omega),Re,List.length_append];rfl
theorem avL{f t A B:Int}{fr:Fr}{lh:iL iy}{sh:List iy}{D:Option (Out×St)}(hs:SpB A B f t)(hl:kF f t≠0)(L:List (Int×Int×Int))(hL: ∀x∈L,Z1 x)(hLl:L.length≤17)(I:DC pE 113 (.loop qk) ⟨fr,lh,sh⟩=D)(J:an fr 2= .i .i64 f)(r:an fr 10= .i .i64 (kF f t))(E:an fr 11= .nilsl)(DH:an fr 32=ku L.length (CY L))(FV:an fr 33= .i .i64 (L.length:Int))(Jv:an fr 34= .i .i64 0):
  ∃F H R,D=some (.ext 0,⟨F,H,sh⟩)∧Dg H (an F 11) R∧AO R∧oq R=y8 (fun x=>lA ((x.1+x.2)%1440) f t) L∧R.length≤1000000∧ ∀s,(jU (.loop qk)).contains s=false→an F s=an fr s:=by
 obtain⟨e,R,K,N,O,U,V⟩:=aCn f t A B hs hl L hL hLl fr lh sh J r E DH FV Jv
 unfold qG at e;rw[V]at e
 exact⟨_,_,R,I.symm.trans e,K,N,O,U,fun s hs=>lH e s hs⟩
section
variable(z:Zo)(a:T)(hz:ZoT z a)(hv:oB z=0)(A B f t:Int)(hs:SpB A B f t)
include hz hv hs
theorem Z2: ∃v R s,be pE 165 [.agg (sF z a),.agg [.i .i64 A,.i .i64 B],.i .i64 f,.i .i64 t] []=some (.tup [v,.i .i64 (kF f t)],s)∧iJ v R.length (N9 R)∧AO R∧oq R=z.bandM A B f t∧R.length≤1000000:=by
 have F:=ZZ z a hz (oS hv).2.1 A B _ rfl
 have OP:=hs
 obtain⟨I,s2,J,K,N,O,U⟩:=OP
 have V:=Ps (f:=f) (t:=t) hv I J
 have W:=Ri I J z.sh 0 z.o (Rh (oS hv).1) (fun s q=>(DE (oS hv).2.2 s q).2)
 have hlen:(pB A B 0 z.o z.sh).length≤17:=by
  have X: ∀(l:List (Int×Int)) (fr o:Int),(pB A B fr o l).length≤l.length+1:=by
   have Y: ∀p q o:Int,(AN p q o).length≤1:=fun p q o=>by unfold AN;split <;> simp
   intro l
   induction l with
   |nil=>grind [pB]
   |cons s r ih=>grind [pB,List.length_append,List.length_cons]
  grind [oS]
 have Z:lenI (ku (pB A B 0 z.o z.sh).length (CY (pB A B 0 z.o z.sh)))=some (.i .i64 ((pB A B 0 z.o z.sh).length:Int)):=(oN (cs:=CY (pB A B 0 z.o z.sh)) fun h=>by rw[List.length_eq_zero_iff.1 h];rfl).lenI
 have Jt:wr .i64 (t-f)=t-f:=jE (by omega)
 have FH:wr .i64 (t-f+1440)=t-f+1440:=jE (by omega)
 have E:(t-f+1440).tmod 1440=kF f t:=by unfold kF;exact Int.tmod_eq_emod_of_nonneg (by omega)
 generalize pB A B 0 z.o z.sh=L at*
 obtain⟨cc,ha,hc⟩:=hz
 unfold sF at F ⊢
 rw[iD ahx (by simp[SD])]
 by_cases hl:kF f t=0
 ·refine⟨.nilsl,[],[], ?_,.inl ⟨rfl,rfl,rfl⟩,(fun x hx=>by cases hx), ?_,by simp⟩
  ·rw[hl]at E
   simp only[qA,seval,SD,Jt,FH,E,hl]
  ·rw[Pv ⟨K,N⟩ ⟨O,U⟩ hl];rfl
 ·simp only[qA,seval,SD,Jt,FH,E,hl,F,as7,Z,ha.froz1]
  generalize hD:DC pE 113 (.loop qk) _=D
  obtain⟨jB,je,R,rfl,r1,r2,r3,r4,pr⟩:=avL hs hl L W hlen hD (by simp only[qA,seval]) (by simp only[qA,seval]) (by simp only[qA,seval]) (by simp only[qA,seval]) (by simp only[qA,seval]) (by simp only[qA,seval])
  have H:an jB 10= .i .i64 (kF f t):=by rw[pr 10 (by decide)];simp only[qA,seval]
  obtain⟨w,u,q1,q2,q3⟩:=r1.fz (sh:= []) (m:=6)
  simp only[qA,seval,H,q1]
  grind
omit hz hv hs in
theorem aCo(v:T)(R:List (Int×Int))(F:iJ v R.length (N9 R))(E:AO R)(hs:oq R≤52596000)(hlen:R.length≤1000000)(fr:Fr)(lh:iL iy)(sh:List iy)(r:an fr 13= .i .i64 0)(DH:an fr 32=v)(FV:an fr 33= .i .i64 (R.length:Int))(Jv:an fr 34= .i .i64 0):
  qG 47 xk fr lh sh (.ext 0)∧
  (an (pb pE 47 xk fr lh sh) 13= .i .i64 (oq R)∧nB pE 47 xk fr lh sh=sh):=by
 refine ll (fun k st=> ∃(fr:Fr) (lh:iL iy),st=⟨fr,lh,sh⟩∧an fr 13= .i .i64 (oq (R.take k))∧an fr 32=v∧an fr 33= .i .i64 (R.length:Int)∧an fr 34= .i .i64 (k:Int))
  (fun H W I=>an H 13= .i .i64 (oq R)∧I=sh) _ R.length ?_ ?_ fr lh sh ⟨fr,lh,rfl,r,DH,FV,Jv⟩
 ·rintro k _ D ⟨fr,lh,rfl,r,DH,FV,Jv⟩
  have J:(k:Int)<R.length:=by omega
  have K:=qJ (k:=k) (by omega)
  obtain⟨X,N⟩:=avK F k D
  have O:=Ue E (k+1)
  have Y:=E _ (List.getElem_mem D)
  rw[List.take_succ_eq_append_getElem D,sg,si]at O
  rw[List.take_succ_eq_append_getElem D,sg,si]
  generalize R[k]=x at*
  generalize oq (R.take k)=q at*
  have U:wr .i64 (x.2-x.1)=x.2-x.1:=jE (by omega)
  have V:wr .i64 (q+(x.2-x.1))=q+(x.2-x.1):=jE (by omega)
  simp only[qA,seval,xk,r,DH,FV,Jv,J,N,K,U,V]
  exact kA ⟨_,_,rfl,by simp only[qA,seval],by simp only[qA,seval,DH],by simp only[qA,seval,FV],by simp only[qA,seval]⟩
 ·rintro _ ⟨fr,lh,rfl,r,DH,FV,Jv⟩
  rw[List.take_length]at r
  simp only[qA,seval,xk,FV,Jv,Int.lt_irrefl]
  exact mf ⟨rfl,by simp only[qA,seval,r],rfl⟩
theorem al7:be pE 141 [.agg (sF z a),.agg [.i .i64 A,.i .i64 B],.i .i64 f,.i .i64 t] []=some (.tup [.i .i64 (z.bandM A B f t),.i .i64 0],[]):=by
 have r:=afe z a hz hv A B f t hs
 obtain⟨v,R,s,D,E,H,F,I⟩:=Z2 z a hz hv A B f t hs
 have J:z.bandM A B f t≤52596000:=by
  obtain⟨U,V,W,_⟩:=hs
  have:=DF (fun x=>lA (z.clk x) f t) A (B-A).toNat
  unfold Zo.bandM wS
  omega
 have hL:=fun fr lh sh K DH FV Jv=>aCo v R E H (by rw[F];exact J) I fr lh sh K DH FV Jv
 rw[F]at hL
 have N:=E.lenI
 obtain⟨X,O,hc⟩:=hz
 unfold sF at r D ⊢
 rw[iD W6 (by simp[V7])]
 simp only[qA,seval,V7,r,D,N,hL,O.froz1,asU,asV]
end
theorem Z3{α:Type}{f:α→List Nat}: ∀{l:List α},(l.map f).Nodup→ ∀a∈l,∀b∈l,f a=f b→a=b
 | [],_,a,r,_,_,_=>by cases r
 |x::l,h,a,r,b,D,e=>by
  rw[List.map_cons,List.nodup_cons]at h
  rcases List.mem_cons.1 r with p|p <;> rcases List.mem_cons.1 D with q|q
  ·rw[p,q]
  ·exact absurd (List.mem_map.2 ⟨b,q,by rw[←e,p]⟩) h.1
  ·exact absurd (List.mem_map.2 ⟨a,p,by rw[e,q]⟩) h.1
  ·exact Z3 h.2 a p b q e
theorem Rj{α:Type}{f:α→List Nat}: ∀{l:List α},(l.map f).Nodup→ ∀a∈l,l.find? (fun x=>f x==f a)=some a:=by
 intro l h a r
 cases hq:l.find? (fun x=>f x==f a)with
 |none=>
  have:=List.find?_eq_none.1 hq a r
  simp at this
 |some b=>
  have D:=List.mem_of_find?_eq_some hq
  have E:=List.find?_some hq
  rw[Z3 h b D a r (by simpa using E)]
def zo0:Zo:=⟨[],0,[]⟩
def Dh(t:Tt)(s:List Nat):Zo:=match t.ap.find? fun u=>u.cd==s with
 |some u=>(t.zo.find? fun z=>z.nm==u.zn).getD zo0
 |none=>zo0
theorem Pw{t:Tt}(ht:uf t=0){u:Ap}{z:Zo}{s:List Nat}(r:u∈t.ap)(hz:z∈t.zo)(D:u.cd=s)(E:z.nm=u.zn):Dh t s=z:=by
 obtain⟨F,_,H,_⟩:=Pf t ht
 subst D
 unfold Dh
 rw[Rj H u r]
 simp only
 rw[←E,Rj F z hz];rfl
theorem al8{t:Tt}(ht:uf t=0){s:List Nat}(hs:s∈t.ap.map Ap.cd): ∃u∈t.ap,u.cd=s∧ ∃z∈t.zo,z.nm=u.zn∧Dh t s=z:=by
 obtain⟨_,F,_,_⟩:=AK t ht
 obtain⟨u,r,D⟩:=List.mem_map.1 hs
 obtain⟨z,hz,E⟩:=List.mem_map.1 (F u r)
 exact⟨u,r,D,z,hz,E,Pw ht r hz D E⟩
theorem B6{t:Tt}(ht:uf t=0){s:List Nat}(hs:s∈t.ap.map Ap.cd):oB (Dh t s)=0:=by
 obtain⟨u,_,_,z,hz,_,h⟩:=al8 ht hs
 rw[h];exact(AK t ht).1 z hz
theorem aCp{t:Tt}(ht:uf t=0){q:List (List Nat×List T)}(hq:T3 t.zo t.ap q)(r:q.map Prod.fst=t.ap.map Ap.cd){s:List Nat}(hs:s∈t.ap.map Ap.cd): ∃a,ja q s=some (sF (Dh t s) a)∧ZoT (Dh t s) a:=by
 obtain⟨v,hv⟩:=B7 (by rw[r];exact hs)
 obtain⟨u,D,E,z,hz,F,H⟩:=hq _ (AQ hv)
 rw[Pw ht D hz E F]
 obtain⟨a,I,e,J,K⟩:=H
 simp only at e
 subst e
 exact⟨a,hv,I,J,K⟩
theorem oR{t:Tt}(ht:uf t=0){f:Fl}(hf:f∈t.fl):f.fr∈t.ap.map Ap.cd∧f.to∈t.ap.map Ap.cd:=by
 have h:=(AK t ht).2.2.1 f hf
 unfold MG at h
 split at h
 ·cases h
 split at h
 ·cases h
 split at h
 ·cases h
 rename_i q
 split at h
 ·cases h
 rename_i r
 exact⟨by simpa using q,by simpa using r⟩
theorem Rk{c:Ct}(h:nL c=0):0≤c.nf∧c.nf≤1439∧0≤c.nt∧c.nt≤1439:=by
 unfold nL at h
 split at h
 ·rename_i q;exact absurd h q
 rename_i g
 have g:oQ c=0:=by omega
 unfold oQ at g
 split at g
 ·cases g
 rename_i r
 have r:qY c=true:=by simpa using r
 unfold qY at r
 simp only[Bool.and_eq_true,Q8]at r
 omega
def uk(c:Ct)(f:Fl):Int:=f.dp-c.rp
def um(c:Ct)(g:Fl):Int:=g.ar+c.rl
def Jx(t:Tt)(c:Ct)(f g:Fl):Int:=if uk c f<um c g then(Dh t f.fr).bandM (uk c f) (um c g) c.nf c.nt else 0
def MQ(t:Tt)(c:Ct)(f g:Fl):Int:=max ((Dh t f.fr).off (uk c f)-(Dh t g.to).off (um c g)) ((Dh t g.to).off (um c g)-(Dh t f.fr).off (uk c f))
def Px(t:Tt)(c:Ct)(f:Fl):Int:=(Dh t f.fr).clk (uk c f)
def Py(t:Tt)(c:Ct)(g:Fl):Int:=(Dh t g.to).clk (um c g)
theorem MR{c:Ct}(hc:nL c=0){f g:Fl}(hf:B2 f)(D:B2 g):(1440≤uk c f∧uk c f≤52593120)∧(2880≤um c g∧um c g≤52594560)∧wr .i64 (f.dp-c.rp)=uk c f∧wr .i64 (g.ar+c.rl)=um c g∧wr .i64 (um c g-uk c f)=um c g-uk c f:=by
 obtain⟨_,E,F,H,I⟩:=hf
 obtain⟨_,J,K,g3,N⟩:=D
 have r:=ZO c hc
 unfold uk um
 refine⟨by omega,by omega,jE (by omega),jE (by omega),jE (by omega)⟩
theorem DI{x:Int}(h:0≤x∧x<52596000):ui x=true:=by unfold ui;simp[h]
section
variable(t:Tt)(c:Ct)(zT aT fT a7 a8 a9 a10 iH iG:T)(vs:List T)(hT:ue t zT aT fT)(hC:uF c a7 a8 a9 a10 iH iG)(hV:ME t c vs)(ht:uf t=0)(hc:nL c=0)
theorem Rm(hV:ME t c vs)(ht:uf t=0){s:List Nat}(hs:s∈t.ap.map Ap.cd): ∃a,be pE 140 [stV c zT aT fT a7 a8 a9 a10 iH iG vs,.s s] []=some (.agg (sF (Dh t s) a),[])∧ZoT (Dh t s) a:=by
 obtain⟨q,H,I,J,K,N,O,U,V,rfl,hq,E,_⟩:=hV
 obtain⟨a,hv,D⟩:=aCp ht hq E hs
 refine⟨a, ?_,D⟩
 have r:=Q0 (kT:=sK) (vT:=T.agg) G0 (fun _=>rfl) q s (.agg [.s [],.i .i64 0,.nilsl])
 rw[hv]at r
 change oU _ _ _ (.s s) _ _=_ at r
 obtain⟨W,F,X⟩:=D
 unfold sF at*
 unfold stV jb
 simp only[List.cons_append,List.nil_append]
 rw[iD ag5 (by simp[V6])]
 simp only[qA,seval,V6,r,F.froz1]
theorem wX(hT:ue t zT aT fT)(i:Nat)(hi:i<t.fl.length): ∃r,be pE 59 [stV c zT aT fT a7 a8 a9 a10 iH iG vs,.i .i64 (i:Int)] []=some (.vp (.s t.fl[i].nu:: .s t.fl[i].fr:: .s t.fl[i].to:: .i .i64 t.fl[i].dp:: .i .i64 t.fl[i].ar:: .s t.fl[i].ty:: .i .i64 t.fl[i].n0:: .i .i64 t.fl[i].n1:: .i .i64 t.fl[i].n2::r),[]):=by
 obtain⟨D,E,F⟩:=hT.f
 exact Pn zT aT fT (jb c a7 a8 a9 a10 iH iG++vs) D t.fl E F i hi
theorem MS(hT:ue t zT aT fT)(ht:uf t=0)(hc:nL c=0)(i j:Nat)(hi:i<t.fl.length)(r:j<t.fl.length):be pE 111 [stV c zT aT fT a7 a8 a9 a10 iH iG vs,.i .i64 (i:Int),.i .i64 (j:Int)] []=some (.agg [.i .i64 (uk c t.fl[i]),.i .i64 (um c t.fl[j])],[]):=by
 obtain⟨J,D⟩:=wX t c zT aT fT a7 a8 a9 a10 iH iG vs hT i hi
 obtain⟨K,F⟩:=wX t c zT aT fT a7 a8 a9 a10 iH iG vs hT j r
 obtain⟨_,_,H,I,_⟩:=MR hc ((n5 t ht).1 _ (List.getElem_mem hi)) ((n5 t ht).1 _ (List.getElem_mem r))
 generalize t.fl[i]=f at*
 generalize t.fl[j]=g at*
 generalize uk c f=S at*
 generalize um c g=E at*
 unfold stV jb at*
 simp only[List.cons_append,List.nil_append]at*
 rw[iD WS (by simp[VQ])]
 simp only[qA,seval,jw,iN,VQ,D,F,H,I,GC,arL]
theorem Z4(hT:ue t zT aT fT)(hV:ME t c vs)(ht:uf t=0)(hc:nL c=0)(i j:Nat)(hi:i<t.fl.length)(O:j<t.fl.length)(x0 x1 x2 x3 x4 x5 x6 x7 x8 x9 U:T):
  be pE 109 [stV c zT aT fT a7 a8 a9 a10 iH iG vs,.isl .S 0 1 0 11 1,.i .i64 (i:Int),.i .i64 (j:Int)] [⟨1,.cells [x0,x1,x2,x3,x4,x5,x6,x7,x8,x9,U] 0 false⟩]=some (.tup [],[⟨1,.cells [x0,x1,x2,x3,.i .i64 (um c t.fl[j]-uk c t.fl[i]),.i .i64 (Jx t c t.fl[i] t.fl[j]),x6,x7,.i .i64 (MQ t c t.fl[i] t.fl[j]),.i .i64 (Px t c t.fl[i]),.i .i64 (Py t c t.fl[j])] 0 false⟩]):=by
 have A6:=MS t c zT aT fT a7 a8 a9 a10 iH iG vs hT ht hc i j hi O
 obtain⟨r1,h1⟩:=wX t c zT aT fT a7 a8 a9 a10 iH iG vs hT i hi
 obtain⟨r2,h2⟩:=wX t c zT aT fT a7 a8 a9 a10 iH iG vs hT j O
 have hf:=List.getElem_mem hi
 have V:=List.getElem_mem O
 obtain⟨b1,b2,_,_,w3⟩:=MR hc ((n5 t ht).1 _ hf) ((n5 t ht).1 _ V)
 obtain⟨W,D,NX⟩:=Rm t c zT aT fT a7 a8 a9 a10 iH iG vs hV ht (oR ht hf).1
 obtain⟨zb,F,r⟩:=Rm t c zT aT fT a7 a8 a9 a10 iH iG vs hV ht (oR ht V).2
 have N:=B6 ht (oR ht hf).1
 have X:=B6 ht (oR ht V).2
 have nf:=Rk hc
 have i1:=DI (x:=uk c t.fl[i]) (by omega)
 have i2:=DI (x:=um c t.fl[j]) (by omega)
 have o1:=yZ _ W NX N _ i1
 have o2:=yZ _ zb r X _ i2
 have l1:=MJ _ W NX N _ i1
 have l2:=MJ _ zb r X _ i2
 have d1:=Zo.off_bd N (uk c t.fl[i])
 have d2:=Zo.off_bd X (um c t.fl[j])
 have Y:uk c t.fl[i]<um c t.fl[j]→_:=fun h=>al7 _ W NX N (uk c t.fl[i]) (um c t.fl[j]) c.nf c.nt ⟨by omega,by omega,by omega,by omega,by omega,by omega,by omega⟩
 have H:=NX.choose_spec.1.froz1
 have I:=r.choose_spec.1.froz1
 have ca:=NX.choose_spec.1.cells
 have cb:=r.choose_spec.1.cells
 unfold Jx MQ Px Py
 generalize t.fl[i]=f at*
 generalize t.fl[j]=g at*
 generalize uk c f=S at*
 generalize um c g=E at*
 generalize Dh t f.fr=J at*
 generalize Dh t g.to=K at*
 have w4:wr .i64 (J.off S-K.off E)=J.off S-K.off E:=jE (by omega)
 have w5:wr .i64 (K.off E-J.off S)=K.off E-J.off S:=jE (by omega)
 generalize J.off S=p1 at*
 generalize K.off E=p2 at*
 have Va:=B3 c zT aT fT a7 a8 a9 a10 iH iG vs
 have hkv:kept (stV c zT aT fT a7 a8 a9 a10 iH iG vs)=true:=nr rfl
 unfold sF at*
 rw[iD WR (by simp[Sj])]
 by_cases Z:S<E
 ·have Y:=Y Z
  have C9:0<E-S:=by omega
  rw[if_pos Z]
  unfold stV jb at*
  simp only[List.cons_append,List.nil_append]at*
  simp only[qA,seval,jw,iN,jA,Sj,A6,h1,h2,D,F,w3,w4,w5,C9,Y,o1,o2,l1,l2,uj,wV,H,I,CU,qK,wQ,GC,WT,ag6,ag7,ag8,W7,ahb]
  rfl
 ·have C9: ¬0<E-S:=by omega
  rw[if_neg Z]
  unfold stV jb at*
  simp only[List.cons_append,List.nil_append]at*
  simp only[qA,seval,jw,iN,jA,Sj,A6,h1,h2,D,F,w3,w4,w5,C9,o1,o2,l1,l2,uj,wV,H,I,GC,WT,ag6,ag7,ag8,W7,ahb]
  rfl
end
end Go.Proofs.YtjniffjppoklpaaGreat
namespace Go.Ev
open Go
theorem AR{E:Env}{r:qT}{n:Nat}{fr:Fr}{lh:iL iy}{sh:List iy}{D:List iz}{d bytes:Nat}{z:List T}{x:iS}(F:d<n):iB E r n (⟨some d,.mksl z bytes x true,none⟩::D) ⟨fr,lh,sh⟩=
  (ON (rd fr x) bytes).bind fun m=>iB E r n D ⟨kJ fr d (.isl .S sh.length 1 0 m z.length),lh,iR sh sh.length ⟨1,.cells (repl z m) 0 (Xt z)⟩⟩:=by
 rw[qC (by rfl) (show Gz n (some d)from F)]
 unfold one ON
 simp only[jK]
 cases asNat (rd fr x)with
 |none=>rfl
 |some m=>
  simp only[Bool.and_eq_true,decide_eq_true_eq]
  split <;> rfl
end Go.Ev
namespace Go.Proofs.YtjniffjppoklpaaGreat
open Go Go.Ev
structure Cn where
 lg:Int
 hd:Int
 bk:Int
 lo:Int
 so:Int
 ks:List (List Nat)
def cn0:Cn:=⟨0,0,0,0,1440,[]⟩
def adK(s:List Nat)(l:List (List Nat)):List (List Nat):=if s∈l then l else l++ [s]
def Vb(f:Fl)(h:Bool)(s:Cn):Cn:=if h=true then{s with hd:=s.hd+1}else{s with lg:=s.lg+1,bk:=s.bk+(f.ar-f.dp),ks:=adK f.ty s.ks}
def cnG(g f:Fl)(s:Cn):Cn:={s with lo:=max s.lo (f.dp-g.ar),so:=min s.so (f.dp-g.ar)}
def tkG(d:List (Int×Bool))(k:Nat):Int×Bool:=d.getD k (0,false)
def kV(r:List Fl)(d:List (Int×Bool))(k:Nat):Fl:=flG r (tkG d k).1
def sA(r:List Fl)(d:List (Int×Bool)):Nat→Cn
 |0=>cn0
 |k+1=>if k=0 then Vb (kV r d k) (tkG d k).2 (sA r d k)else cnG (kV r d (k-1)) (kV r d k) (Vb (kV r d k) (tkG d k).2 (sA r d k))
def Jy(k:Nat)(s:Cn):Prop:=(0≤s.lg∧s.lg≤k)∧(0≤s.hd∧s.hd≤k)∧(0≤s.bk∧s.bk≤1440*k)∧(0≤s.lo∧s.lo≤52593120)∧(-52593120≤s.so∧s.so≤1440)∧s.ks.length≤k
theorem ama:Jy 0 cn0:=by unfold Jy cn0;simp
theorem Z5{f:Fl}(hf:B2 f){h:Bool}{k:Nat}{s:Cn}(hs:Jy k s):Jy (k+1) (Vb f h s):=by
 obtain⟨_,r,D,E,F⟩:=hf
 grind [adK,Jy,Vb]
theorem Pz{f g:Fl}(hf:B2 f)(r:B2 g): -52593120≤f.dp-g.ar∧f.dp-g.ar≤52593120:=by
 obtain⟨_,D,E,F,H⟩:=hf
 obtain⟨_,I,J,g3,K⟩:=r
 omega
theorem amb{f g:Fl}(hf:B2 f)(r:B2 g){k:Nat}{s:Cn}(hs:Jy k s):Jy k (cnG g f s):=by
 have:=Pz hf r
 grind [Jy,cnG]
theorem PA{d:List (Int×Bool)}{k:Nat}(r:k<d.length):tkG d k=d[k]:=by grind [tkG]
theorem oF{r:List Fl}(F: ∀f∈r,B2 f){d:List (Int×Bool)}(D: ∀k∈d,yy r.length k.1=true){k:Nat}(E:k<d.length): ∃i:Nat,∃hi:i<r.length,d[k].1=i∧kV r d k=r[i]∧B2 (kV r d k):=by
 obtain⟨i,hi,e⟩:=Js (D _ (List.getElem_mem E))
 grind [kV,PA,alZ]
theorem Jz{r:List Fl}(D: ∀f∈r,B2 f){d:List (Int×Bool)}(E: ∀k∈d,yy r.length k.1=true): ∀k,k≤d.length→Jy k (sA r d k)
 |0,_=>ama
 |k+1,h=>by
  have ih:=Jz D E k (by omega)
  obtain⟨_,_,_,_,F⟩:=oF D E (k:=k) (by omega)
  rw[sA]
  split
  ·exact Z5 F ih
  ·obtain⟨_,_,_,_,H⟩:=oF D E (k:=k-1) (by omega)
   exact amb F H (Z5 F ih)
theorem avR(s:List Nat)(l:List (List Nat))(a:T)(O:iJ a l.length (l.map T.s))(hlen:l.length≤1000)(r:Int)(D:r=ixA s l 0)(o:Out)(ho:o=if r<0 then .ext 0 else .ret)(fr:Fr)(lh:iL iy)(sh:List iy)(F:an fr 0=a)(H:an fr 1= .s s)(E:an fr 7= .i .i64 (l.length:Int))(I:an fr 8= .i .i64 0):
  qG 19 xj fr lh sh o∧
  ((¬r<0→an (pb pE 19 xj fr lh sh) 4= .i .i64 r)∧nB pE 19 xj fr lh sh=sh):=by
 refine ll (fun k st=> ∃(fr:Fr) (lh:iL iy),st=⟨fr,lh,sh⟩∧r=ixA s (l.drop k) k∧an fr 0=a∧an fr 1= .s s∧an fr 7= .i .i64 (l.length:Int)∧an fr 8= .i .i64 (k:Int))
  (fun U Y V=>(¬r<0→an U 4= .i .i64 r)∧V=sh) _ l.length ?_ ?_ fr lh sh ⟨fr,lh,rfl,D,F,H,E,I⟩
 ·rintro k _ J ⟨fr,lh,rfl,D,F,H,E,I⟩
  have W:(k:Int)<l.length:=by omega
  have X:=iX (k:=k) (by omega)
  have K: ∃N,∀kk,ng a (.i kk (k:Int)) 1=some (.vp (.s l[k]::N)):=by
   refine⟨(l.map T.s).drop (k+1),fun kk=> ?_⟩
   rw[O.ia (sz:=1) (by simp) J,Nat.mul_one,List.drop_eq_getElem_cons (by simpa using J),List.getElem_map]
  obtain⟨N,K⟩:=K
  rw[List.drop_eq_getElem_cons J,ixA]at D
  generalize l[k]=y at*
  simp only[qB,seval,xj,F,H,E,I,W,K,X]
  refine vv (fun h=> ?_) (fun h=> ?_)
  ·rw[if_pos h.symm]at D
   exact yS ⟨by rw[ho,if_neg (by omega)],fun _=>(by simp only[qA,seval,D]),rfl⟩
  ·rw[if_neg (fun e=>h e.symm)]at D
   exact kA ⟨_,_,rfl,D,by simp only[qA,seval,F],by simp only[qA,seval,H],by simp only[qA,seval,E],by simp only[qA,seval]⟩
 ·rintro _ ⟨fr,lh,rfl,D,F,H,E,I⟩
  rw[List.drop_length,ixA]at D
  simp only[qA,seval,xj,E,I,Int.lt_irrefl]
  grind [mf]
theorem JA(s:List Nat)(l:List (List Nat))(a:T)(r:iJ a l.length (l.map T.s))(hlen:l.length≤1000):be pE 108 [a,.s s] []=some (.b (decide (s∈l)),[]):=by
 have hL:=fun fr lh sh E F H I=>avR s l a r hlen _ rfl _ rfl fr lh sh E F H I
 have PB:=FW s l 0
 have Mw:=DJ s l 0
 have D:be pE 139 [a,.s s] []=some (.i .i64 (ixA s l 0),[]):=by
  rw[iD ag4 (by simp[Sw])]
  generalize ixA s l 0=v at*
  by_cases h:v<0
  ·have e:=PB h
   subst e
   simp only[qA,seval,Sw,hL,r.lenI]
  ·simp only[h,if_false,not_false_eq_true,forall_const]at hL
   simp only[qA,seval,Sw,hL,r.lenI]
 have J:decide (s∈l)=decide (0≤ixA s l 0):=by
  grind
 rw[J]
 rw[iD agy (by simp[VO])]
 generalize ixA s l 0=v at*
 simp only[qA,seval,VO,D,r.froz,asI]
end Go.Proofs.YtjniffjppoklpaaGreat
