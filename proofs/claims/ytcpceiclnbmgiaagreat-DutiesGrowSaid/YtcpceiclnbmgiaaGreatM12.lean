/- Walks of functions of the program and of the reference, and their plain laws, part 12. Conditions: the theorems' own. -/
import Derived.Test.YtcpceiclnbmgiaaGreatM11
import Derived.KernelRfl
set_option maxRecDepth 100000
set_option linter.unusedSimpArgs false
set_option linter.unusedVariables false
set_option maxHeartbeats 16000000
namespace Go.Proofs.YtcpceiclnbmgiaaGreat
open Go Go.Ev
theorem yC{a b:Int}:(if b>a then b else a)=max a b:=by rw[Int.max_def];split <;> split <;> omega
theorem yD{a b:Int}:(if b<a then b else a)=min a b:=by rw[Int.min_def];split <;> split <;> omega
theorem pt{lh:gW b8}{sh:List b8}{v:T}{k n sz bytes:Nat}{cs:List T}(h:jG lh v k sz n cs)(ps:List T)(i:ps.length=sz)(hr:(n+1)*bytes≤roomy)(ex:Bool):
  appW lh sh k sz bytes v (.sl ps 1 ex)=some (nxV lh sh k sz bytes v (.sl ps 1 ex),Ov lh sh k sz bytes v (.sl ps 1 ex))∧jG (Ov lh sh k sz bytes v (.sl ps 1 ex)) (nxV lh sh k sz bytes v (.sl ps 1 ex)) k sz (n+1) (cs++ps)∧ ∀j,j≠k→b7 (Ov lh sh k sz bytes v (.sl ps 1 ex)) j=b7 lh j:=
 jG.appW h (m:=0) (by rw[G6,if_pos (by omega)]) (by omega) hr
def Bg(l:List (Int×Int×Int)):List T:=l.flatMap fun x=> [.i .i64 x.1,.i .i64 x.2.1,.i .i64 x.2.2]
theorem OH(a b:List (Int×Int×Int)):Bg (a++b)=Bg a++Bg b:=by unfold Bg;rw[List.flatMap_append]
theorem OI(p q o:Int)(l:List (Int×Int×Int)):Bg l++ [.i .i64 p,.i .i64 q,.i .i64 o]=Bg (l++ [(p,q,o)]):=by rw[OH];rfl
section
variable(z:Zo)(a:T)(hz:ZoT z a)(hlen:z.sh.length≤16)(A B:Int)
def tz(z:Zo)(A B i r:Int)(k:Nat):List (Int×Int×Int):=if k≤z.sh.length then n5 A B i r (z.sh.drop k)else []
theorem Rx{i r:Int}{k:Nat}(hk:k<z.sh.length):tz z A B i r k=yB (max i A) (min z.sh[k].1 B) r++tz z A B z.sh[k].1 z.sh[k].2 (k+1):=by
 unfold tz
 rw[if_pos (by omega),if_pos (by omega),List.drop_eq_getElem_cons hk,n5]
theorem MC{i r:Int}:tz z A B i r z.sh.length=yB (max i A) (min 52596000 B) r:=by
 unfold tz
 rw[if_pos (by omega),List.drop_length,n5]
theorem uC{i r:Int}:tz z A B i r (z.sh.length+1)= []:=by
 unfold tz
 rw[if_neg (by omega)]
include hz hlen
theorem ayr(fr:Fr)(lh:gW b8)(sh:List b8)(H:an fr 2= .ptr .L 2 1 0)(I:an fr 3= .ptr .L 3 1 0)(W:an fr 5= .nilsl)(U:an fr 6= .i .i64 0)(V:an fr 7= .i .i64 z.o)(X:an fr 8= .i .i64 0)(F:b7 lh 2=⟨1,.cells (Ez z a) 0 true⟩)(J:b7 lh 3=⟨1,.cells [.i .i64 A,.i .i64 B] 0 true⟩):
  wJ 63 qP fr lh sh (.ext 0)∧
  (jG (nE pE 63 qP fr lh sh) (an (tT pE 63 qP fr lh sh) 5) 49 3 (n5 A B 0 z.o z.sh).length (Bg (n5 A B 0 z.o z.sh))∧(n5 A B 0 z.o z.sh).length≤17∧oi pE 63 qP fr lh sh=sh):=by
 obtain⟨cc,Z,hc⟩:=hz
 unfold Ez at F
 refine nU (fun k st=> ∃(fr:Fr) (lh:gW b8) (K N:Int) (L:List (Int×Int×Int)),st=⟨fr,lh,sh⟩∧an fr 2= .ptr .L 2 1 0∧an fr 3= .ptr .L 3 1 0∧an fr 6= .i .i64 K∧an fr 7= .i .i64 N∧an fr 8= .i .i64 (k:Int)∧b7 lh 2=⟨1,.cells [.s z.nm,.i .i64 z.o,a] 0 true⟩∧b7 lh 3=⟨1,.cells [.i .i64 A,.i .i64 B] 0 true⟩∧jG lh (an fr 5) 49 3 L.length (Bg L)∧L.length≤k∧L++tz z A B K N k=n5 A B 0 z.o z.sh)
  (fun jA iI iE=>jG iI (an jA 5) 49 3 (n5 A B 0 z.o z.sh).length (Bg (n5 A B 0 z.o z.sh))∧(n5 A B 0 z.o z.sh).length≤17∧iE=sh) _ (z.sh.length+1) ?_ ?_ fr lh sh ⟨fr,lh,0,z.o,[],rfl,H,I,U,V,X,F,J,by rw[W];exact jG.nil,by simp,by simp[tz]⟩
 ·rintro k _ hk ⟨fr,lh,K,N,L,rfl,H,I,U,V,X,F,J,O,hL,r⟩
  have iP:(k:Int)≤z.sh.length:=by omega
  have hw:=iJ (k:=k) (by omega)
  have D:=fun e:Int=>pt (sh:=sh) O [.i .i64 (max K A),.i .i64 (min e B),.i .i64 N] rfl (bytes:=24) (by unfold roomy;omega) true
  generalize W:an fr 5=v5 at O D
  by_cases Ss:k<z.sh.length
  ·have YY:(k:Int)<z.sh.length:=by omega
   obtain⟨rr,iU⟩:=OE Z hc Ss
   rw[Rx z A B Ss]at r
   generalize z.sh[k]=s at*
   have D:=D s.1
   have Y:=(D.2.2 2 (by decide)).trans F
   have p3:=(D.2.2 3 (by decide)).trans J
   simp only[qB,seval,repl,qP,H,I,W,U,V,X,F,J,Z.lenI,iP,YY,iU,hw,yC,yD,O.notS,D.1,Y]
   refine Dz (fun h=> ?_) (fun h=> ?_)
   ·rw[yB,if_pos h]at r
    exact mR ⟨_,_,s.1,s.2,L++ [(max K A,min s.1 B,N)],rfl,by simp only[qA,seval,H],by simp only[qA,seval,I],by simp only[qA,seval],by simp only[qA,seval],by simp only[qA,seval],Y,p3,by simp only[qA,seval];rw[←OI,List.length_append];exact D.2.1,by simp;omega,by rw[List.append_assoc];exact r⟩
   ·rw[yB,if_neg h,List.nil_append]at r
    exact mR ⟨_,_,s.1,s.2,L,rfl,by simp only[qA,seval,H],by simp only[qA,seval,I],by simp only[qA,seval],by simp only[qA,seval],by simp only[qA,seval],F,J,by simp only[qA,seval,W];exact O,by omega,r⟩
  ·obtain rfl:k=z.sh.length:=by omega
   rw[MC]at r
   have D:=D 52596000
   have Y:=(D.2.2 2 (by decide)).trans F
   have p3:=(D.2.2 3 (by decide)).trans J
   simp only[qB,seval,repl,qP,H,I,W,U,V,X,F,J,Z.lenI,Int.lt_irrefl,Int.le_refl,hw,yC,yD,O.notS,D.1,Y]
   refine Dz (fun h=> ?_) (fun h=> ?_)
   ·rw[yB,if_pos h]at r
    exact mR ⟨_,_,K,N,L++ [(max K A,min 52596000 B,N)],rfl,by simp only[qA,seval,H],by simp only[qA,seval,I],by simp only[qA,seval,U],by simp only[qA,seval,V],by simp only[qA,seval],Y,p3,by simp only[qA,seval];rw[←OI,List.length_append];exact D.2.1,by simp;omega,by rw[uC,List.append_nil];exact r⟩
   ·rw[yB,if_neg h,List.append_nil]at r
    exact mR ⟨_,_,K,N,L,rfl,by simp only[qA,seval,H],by simp only[qA,seval,I],by simp only[qA,seval,U],by simp only[qA,seval,V],by simp only[qA,seval],F,J,by simp only[qA,seval,W];exact O,by omega,by rw[uC,List.append_nil];exact r⟩
 ·rintro _ ⟨fr,lh,K,N,L,rfl,H,I,U,V,X,F,J,O,hL,r⟩
  rw[uC,List.append_nil]at r
  subst r
  have iP: ¬((z.sh.length+1:Nat):Int)≤z.sh.length:=by omega
  simp only[qA,seval,qP,H,X,F,Z.lenI,iP]
  exact pI ⟨rfl,(by simp only[qA,seval];exact O),by omega,rfl⟩
theorem WU(sp:T)(U:sp= .agg [.i .i64 A,.i .i64 B]):be pE 203 [.agg (Ez z a),sp] []=some (mQ (n5 A B 0 z.o z.sh).length (Bg (n5 A B 0 z.o z.sh)),[]):=by
 subst U
 have hL:=fun fr lh sh r D F H I J K N=>ayr z a hz hlen A B fr lh sh r D F H I J K N
 have V:=fun m keep fr lh sh r D F H I J K N=>jG.fzW (m:=m) (keep:=keep) (sh:=sh) (hL fr lh sh r D F H I J K N).2.1
 have O:=fun keep fr lh sh r D F H I J K N=>jG.fzV (keep:=keep) (sh:=sh) (hL fr lh sh r D F H I J K N).2.1
 obtain⟨W,X,hc⟩:=hz
 unfold Ez at hL V O ⊢
 rw[gQ aek (by simp[TE])]
 simp only[qA,seval,TE,hL,O,EW]
end
def SpB(A B f t:Int):Prop:=0≤A∧A≤B∧B≤52596000∧0≤f∧f<1440∧0≤t∧t<1440
section
variable(z:Zo)(a:T)(hz:ZoT z a)(hv:oj z=0)(A B f t:Int)(hs:SpB A B f t)
include hz hv hs
theorem abS:be pE 164 [.agg (Ez z a),.agg [.i .i64 A,.i .i64 B],.i .i64 f,.i .i64 t] []=some (.i .i64 0,[]):=by
 obtain⟨H,I,J,K,N,O,U⟩:=hs
 obtain⟨V,r,hc⟩:=hz
 have D:=DM z a V r hc
 rw[hv]at D
 have W:be pE 201 [.agg [.i .i64 A,.i .i64 B]] []=some (.b true,[]):=by
  rw[gQ aei (by simp[TC])]
  simp only[qA,seval,TC,H,I,J]
 have F: ∀x:Int,0≤x→x<1440→be pE 202 [.i .i64 x] []=some (.b true,[]):=by
  intro x x1 x2
  rw[gQ aej (by simp[TD])]
  simp only[qA,seval,TD,x1,x2]
 have X:=F f K N
 have Y:=F t O U
 unfold Ez
 rw[gQ adU (by simp[Tq])]
 simp only[qA,seval,Tq,D,W,X,Y,r.froz1,ZF,ap2,ap3]
end
def Lr(l:List (Int×Int)):List T:=l.flatMap fun x=> [.i .i64 x.1,.i .i64 x.2]
theorem OJ(a b:List (Int×Int)):Lr (a++b)=Lr a++Lr b:=by grind [Lr]
theorem B2(l:List (Int×Int)):(Lr l).length=l.length*2:=nR (sz:=2) (fun _=>rfl) l
def mJ(l:List (Int×Int)):Int:=(l.map fun x=>x.2-x.1).sum
theorem qz(a b:List (Int×Int)):mJ (a++b)=mJ a+mJ b:=by grind [mJ]
theorem qC(x:Int×Int):mJ [x]=x.2-x.1:=by simp[mJ]
def BA(lh:gW b8)(v:T)(R:List (Int×Int)):Prop:=
 (R= []∧v= .nilsl)∨ ∃R' x g,R=R'++ [x]∧v= .isl .L 109 g 0 (R'.length+1) 2∧b7 lh 109=⟨g,.cells (Lr R'++ [.i .i64 x.1,.i .i64 x.2]) 0 false⟩
def yF(R:List (Int×Int)):Prop:= ∀x∈R,0≤x.1∧x.1≤x.2∧x.2≤52596000
theorem aiw(R:List (Int×Int))(a b:T):(Lr R++ [a,b])[R.length*2+1]? =some b:=by
 grind [B2]
theorem MD(R:List (Int×Int))(a b c:T):splice (Lr R++ [a,b]) (R.length*2+1) [c]=Lr R++ [a,c]:=by
 have i: ∀(cs:List T),splice (cs++ [a,b]) (cs.length+1) [c]=cs++ [a,c]:=by
  intro cs
  induction cs with
  |nil=>rfl
  |cons x cs ih=>rw[List.cons_append,List.length_cons,splice,ih];rfl
 grind [B2]
theorem OK(R:List (Int×Int))(a b:T):(Lr R++ [a,b]).length=R.length*2+2:=by rw[List.length_append,B2];rfl
theorem abT{n:Nat}:((n+1)*2=n*2+2)=True:=by simp;omega
section
variable(f t o p q:Int)(hf:0≤f∧f<1440)(hl:1≤jT f t∧jT f t<1440)(ho: -840≤o∧o≤840)(hp:0≤p)(hq:p<q∧q≤52596000)
include hf hl ho hp hq
theorem ays(R0:List (Int×Int))(hB0:yF R0)(Ie:R0.length≤1000000)(lo:Int)(N:Nat)(hlo: -10≤lo)(hN:lo+N≤40000)(g:Nat)(fr:Fr)(lh:gW b8)(sh:List b8)(H:an fr 2= .i .i64 f)(r:an fr 10= .i .i64 (jT f t))(D:BA lh (an fr 11) R0)(I:an fr 13= .ptr .L 13 g 0)(F:an fr 16= .i .i64 (lo+N-1))(O:an fr 18= .i .i64 lo)(Ry:b7 lh 13=⟨g,.cells [.i .i64 p,.i .i64 q,.i .i64 o] 0 true⟩):
  wJ 113 mG fr lh sh (.ext 2)∧
  (∃R,BA (nE pE 113 mG fr lh sh) (an (tT pE 113 mG fr lh sh) 11) R∧yF R∧mJ R=mJ R0+uB (f-o) (jT f t) p q lo N∧R.length≤R0.length+N∧oi pE 113 mG fr lh sh=sh):=by
 refine nU (fun k st=> ∃(fr:Fr) (lh:gW b8) (R:List (Int×Int)),st=⟨fr,lh,sh⟩∧BA lh (an fr 11) R∧yF R∧mJ R=mJ R0+uB (f-o) (jT f t) p q lo k∧R.length≤R0.length+k∧an fr 2= .i .i64 f∧an fr 10= .i .i64 (jT f t)∧an fr 13= .ptr .L 13 g 0∧an fr 16= .i .i64 (lo+N-1)∧an fr 18= .i .i64 (lo+k)∧b7 lh 13=⟨g,.cells [.i .i64 p,.i .i64 q,.i .i64 o] 0 true⟩)
  (fun jA iI iE=> ∃R,BA iI (an jA 11) R∧yF R∧mJ R=mJ R0+uB (f-o) (jT f t) p q lo N∧R.length≤R0.length+N∧iE=sh) _ N ?_ ?_ fr lh sh ⟨fr,lh,R0,rfl,D,hB0,by simp[uB],by omega,H,r,I,F,by rw[O];simp,Ry⟩
 ·rintro k _ hk ⟨fr,lh,R,rfl,Z,V,hs,hlen,H,r,I,F,O,Ry⟩
  have W:lo+k≤lo+N-1:=by omega
  have ni:uB (f-o) (jT f t) p q lo (k+1)=uB (f-o) (jT f t) p q lo k+MA (f-o) (jT f t) p q (lo+k):=rfl
  have w1:wr .i64 (lo+k+1)=lo+((k+1:Nat):Int):=by rw[jj (by omega)];omega
  have w2:wr .i64 ((lo+k)*1440)=1440*(lo+k):=by rw[jj (by omega)];omega
  have w3:wr .i64 (1440*(lo+k)+f)=1440*(lo+k)+f:=jj (by omega)
  have w4:wr .i64 (1440*(lo+k)+f-o)=1440*(lo+k)+(f-o):=by rw[jj (by omega)];omega
  have w5:wr .i64 (1440*(lo+k)+(f-o)+jT f t)=1440*(lo+k)+(f-o)+jT f t:=jj (by omega)
  rw[ni]
  unfold MA
  generalize jT f t=len at*
  generalize lo+(k:Int)=d at*
  generalize hS:1440*d+(f-o)=S at*
  have hA:0≤max S p:=by omega
  have hE:min (S+len) q≤52596000:=by omega
  generalize J:max S p=a at*
  generalize NT:min (S+len) q=e at*
  by_cases K:e≤a
  ·rw[if_neg (by omega),Int.add_zero]
   simp only[qA,seval,mG,H,r,I,F,O,Ry,W,w1,w2,w3,w4,w5,J,NT,yC,yD,K]
   exact mR ⟨_,_,R,rfl,by simp only[qA,seval];exact Z,V,hs,by omega,by simp only[qA,seval,H],by simp only[qA,seval,r],by simp only[qA,seval,I],by simp only[qA,seval,F],by simp only[qA,seval],Ry⟩
  ·have ayu:a<e:=by omega
   rw[if_pos ayu]
   have Ey:(R.length+1)*16≤roomy:=by unfold roomy;omega
   rcases Z with⟨rfl,D⟩|⟨R',x,g',rfl,D,asw⟩
   ·have Ey:16≤roomy:=by unfold roomy;omega
    simp only[qA,seval,appW,repl,mG,H,r,D,I,F,O,Ry,W,w1,w2,w3,w4,w5,J,NT,yC,yD,K,Int.lt_irrefl,Ey]
    refine mR ⟨_,_,[(a,e)],rfl,.inr ⟨[],(a,e),(b7 lh 109).g+1,rfl,by simp only[qA,seval],by simp only[qA,seval];rfl⟩, ?_, ?_,by simp;omega,by simp only[qA,seval,H],by simp only[qA,seval,r],by simp only[qA,seval,I],by simp only[qA,seval,F],by simp only[qA,seval],by simp only[qA,seval,Ry]⟩
    ·intro y hy
     grind
    grind [qC,mJ]
   ·rw[List.length_append]at Ey hlen
    simp only[List.length_cons,List.length_nil,Nat.zero_add]at Ey hlen
    have wv:(0:Int)<((R'.length+1:Nat):Int):=by omega
    have X:wr .i64 (((R'.length+1:Nat):Int)-1)=(R'.length:Int):=by rw[jj (by omega)];omega
    have k9:=aiw R' (.i .i64 x.1) (.i .i64 x.2)
    have vV:=OK R' (.i .i64 x.1) (.i .i64 x.2)
    have Y:=MD R' (.i .i64 x.1) (.i .i64 x.2) (.i .i64 e)
    have hx:=V x (by simp)
    rw[qz,qC]at hs
    by_cases U:x.2=a
    ·rw[U]at k9 vV Y
     simp only[qA,seval,appW,repl,mG,H,r,D,I,F,O,Ry,asw,W,w1,w2,w3,w4,w5,J,NT,yC,yD,K,wv,X,k9,U,vV,Y,Nat.lt_succ_self,Int.natCast_nonneg]
     refine mR ⟨_,_,R'++ [(x.1,e)],rfl,.inr ⟨R',(x.1,e),g',rfl,by simp only[qA,seval,D],by simp only[qA,seval]⟩, ?_, ?_,by simp;omega,by simp only[qA,seval,H],by simp only[qA,seval,r],by simp only[qA,seval,I],by simp only[qA,seval,F],by simp only[qA,seval],by simp only[qA,seval,Ry]⟩
     ·intro y hy
      rcases List.mem_append.1 hy with hy|hy
      ·exact V y (by simp[hy])
      ·grind
     ·rw[qz,qC];simp only;omega
    ·simp only[qA,seval,appW,repl,mG,H,r,D,I,F,O,Ry,asw,W,w1,w2,w3,w4,w5,J,NT,yC,yD,K,wv,X,k9,U,vV,Nat.lt_succ_self,Int.natCast_nonneg,abT,Ey]
     refine mR ?_
     refine⟨_,_,R'++ [x]++ [(a,e)],rfl,.inr ⟨R'++ [x],(a,e),g'+1,rfl,by simp only[qA,seval];simp,by simp only[qA,seval];rw[OJ];rfl⟩, ?_, ?_,by simp;omega,by simp only[qA,seval,H],by simp only[qA,seval,r],by simp only[qA,seval,I],by simp only[qA,seval,F],by simp only[qA,seval],by simp only[qA,seval,Ry]⟩
     ·intro y hy
      rcases List.mem_append.1 hy with hy|hy
      ·exact V y hy
      ·rw[List.mem_singleton.1 hy];exact⟨hA,by show a≤e;omega,hE⟩
     ·rw[qz,qz,qC,qC];simp only;omega
 ·rintro _ ⟨fr,lh,R,rfl,Z,V,hs,hlen,H,r,I,F,O,Ry⟩
  have W: ¬lo+(N:Int)≤lo+N-1:=by omega
  simp only[qA,seval,mG,F,O,W]
  exact pI ⟨rfl,R,by simp only[qA,seval];exact Z,V,hs,hlen,rfl⟩
end
theorem asy{f t o p q:Int}{fr:Fr}{lh:gW b8}{sh:List b8}{D:Option (Out×St)}(hf:0≤f∧f<1440)(hl:1≤jT f t∧jT f t<1440)(ho: -840≤o∧o≤840)(hp:0≤p)(hq:p<q∧q≤52596000)(R0:List (Int×Int))(r:yF R0)(Ie:R0.length≤1000000)(lo:Int)(N:Nat)(F: -10≤lo)(O:lo+N≤40000)(g:Nat)(U:DC pE 113 (.loop mG) ⟨fr,lh,sh⟩=D)(V:an fr 2= .i .i64 f)(H:an fr 10= .i .i64 (jT f t))(I:BA lh (an fr 11) R0)(W:an fr 13= .ptr .L 13 g 0)(X:an fr 16= .i .i64 (lo+N-1))(Y:an fr 18= .i .i64 lo)(Ry:b7 lh 13=⟨g,.cells [.i .i64 p,.i .i64 q,.i .i64 o] 0 true⟩):
  ∃J K R,D=some (.ext 2,⟨J,K,sh⟩)∧BA K (an J 11) R∧yF R∧mJ R=mJ R0+uB (f-o) (jT f t) p q lo N∧R.length≤R0.length+N∧ ∀s,(jU (.loop mG)).contains s=false→an J s=an fr s:=by
 obtain⟨e,R,Z,r2,r3,r4,r5⟩:=ays f t o p q hf hl ho hp hq R0 r Ie lo N F O g fr lh sh V H I W X Y Ry
 unfold wJ at e;rw[r5]at e
 exact⟨_,_,R,U.symm.trans e,Z,r2,r3,r4,fun s hs=>lB e s hs⟩
def WV(x:Int×Int×Int):Prop:=0≤x.1∧x.1<x.2.1∧x.2.1≤52596000∧ -840≤x.2.2∧x.2.2≤840
theorem OL{a b o:Int}(i:0≤a)(r:b≤52596000)(ho: -840≤o∧o≤840): ∀x∈yB a b o,WV x:=by
 intro x hx
 unfold yB at hx
 split at hx
 ·rw[List.mem_singleton.1 hx]
  exact⟨i,by assumption,r,ho⟩
 ·cases hx
theorem OM{o:Int}(h:wN o=true): -840≤o∧o≤840:=by
 grind [wN]
theorem ON{A B:Int}(i:0≤A)(D:B≤52596000): ∀(l:List (Int×Int)) (fr o:Int),(-840≤o∧o≤840)→(∀s∈l,wN s.2=true)→ ∀x∈n5 A B fr o l,WV x
 | [],fr,o,ho,hl,x,hx=>by
   rw[n5]at hx
   exact OL (by omega) (by omega) ho x hx
 |s::r,fr,o,ho,hl,x,hx=>by
  rw[n5,List.mem_append]at hx
  rcases hx with hx|hx
  ·exact OL (by omega) (by omega) ho x hx
  ·exact ON i D r s.1 s.2 (OM (hl s (by simp))) (fun y F=>hl y (by simp[F])) x hx
theorem abU{f t:Int}(hf:0≤f∧f<1440)(ht:0≤t∧t<1440)(hl:jT f t≠0){p q o:Int}(h:p<q):uB (f-o) (jT f t) p q ((p+o)/1440-1) ((q-1+o)/1440-((p+o)/1440-1)+1).toNat=uA (fun x=>m5 ((x+o)%1440) f t) p q:=by
 have i:=Ku (o:=o) (p:=p) hf ht hl ((p+o)/1440-1) ((q-1+o)/1440-((p+o)/1440-1)+1).toNat (Int.le_refl _) (q-p).toNat (by
  rw[show p+((q-p).toNat:Int)=q by omega]
  omega)
 rw[show p+((q-p).toNat:Int)=q by omega]at i
 rw[i];rfl
theorem rl1{r k n:Nat}(h:r≤40000*k)(hk:k<n)(i:n≤17):r≤1000000:=by omega
theorem rl2{r s N k:Nat}(h:s≤r+N)(i:r≤40000*k)(D:N≤40000):s≤40000*(k+1):=by omega
theorem rl3{r n:Nat}(h:r≤40000*n)(i:n≤17):r≤1000000:=by omega
theorem aix{p q o:Int}(h:WV (p,q,o)): -2≤(p+o)/1440∧(q-1+o)/1440≤36527∧(p+o)/1440≤(q-1+o)/1440:=by
 obtain⟨i,r,D,F,H⟩:=h
 grind
theorem asz(L:List (Int×Int×Int))(j:Nat)(D:j<L.length): ∃r,∀kk,lH (mQ L.length (Bg L)) (.i kk (j:Int)) 3=some (.vp (.i .i64 L[j].1:: .i .i64 L[j].2.1:: .i .i64 L[j].2.2::r)):=by
 have hs:IsSl (mQ L.length (Bg L)) L.length (Bg L):=nS fun h=>by rw[List.length_eq_zero_iff.1 h];rfl
 have hlen:(Bg L).length=L.length*3:=nR (sz:=3) (fun _=>rfl) L
 refine⟨Bg (L.drop (j+1)),fun kk=> ?_⟩
 rw[hs.ia hlen D]
 have:Bg L=Bg (L.take j)++Bg (L.drop j):=by rw[←OH,List.take_append_drop]
 have Ll:(Bg (L.take j)).length=j*3:=by rw[show(Bg (L.take j)).length=(L.take j).length*3 from nR (sz:=3) (fun _=>rfl) _,List.length_take,Nat.min_eq_left (by omega)]
 rw[this,List.drop_append,Ll,Nat.sub_self,List.drop_zero,List.drop_eq_nil_of_le (by omega),List.nil_append,List.drop_eq_getElem_cons D]
 rfl
section
variable(f t A B:Int)(hs:SpB A B f t)(hl:jT f t≠0)(L:List (Int×Int×Int))(hL: ∀x∈L,WV x)(hLl:L.length≤17)
include hs hl hL hLl
theorem ayw(fr:Fr)(lh:gW b8)(sh:List b8)(H:an fr 2= .i .i64 f)(r:an fr 10= .i .i64 (jT f t))(J:an fr 11= .nilsl)(Bh:an fr 32=mQ L.length (Bg L))(DO:an fr 33= .i .i64 (L.length:Int))(Hq:an fr 34= .i .i64 0):
  wJ 113 oN fr lh sh (.ext 0)∧
  (∃R,BA (nE pE 113 oN fr lh sh) (an (tT pE 113 oN fr lh sh) 11) R∧yF R∧mJ R=wQ (fun x=>m5 ((x.1+x.2)%1440) f t) L∧R.length≤1000000∧oi pE 113 oN fr lh sh=sh):=by
 obtain⟨s1,s2,s3,f1,f2,t1,t2⟩:=hs
 have hb:1≤jT f t∧jT f t<1440:=by unfold jT at hl ⊢; omega
 refine nU (fun k st=> ∃(fr:Fr) (lh:gW b8) (R:List (Int×Int)),st=⟨fr,lh,sh⟩∧BA lh (an fr 11) R∧yF R∧mJ R=wQ (fun x=>m5 ((x.1+x.2)%1440) f t) (L.take k)∧R.length≤40000*k∧an fr 2= .i .i64 f∧an fr 10= .i .i64 (jT f t)∧an fr 32=mQ L.length (Bg L)∧an fr 33= .i .i64 (L.length:Int)∧an fr 34= .i .i64 (k:Int))
  (fun F iI iE=> ∃R,BA iI (an F 11) R∧yF R∧mJ R=wQ (fun x=>m5 ((x.1+x.2)%1440) f t) L∧R.length≤1000000∧iE=sh) _ L.length ?_ ?_ fr lh sh ⟨fr,lh,[],rfl,.inl ⟨rfl,J⟩,(fun x hx=>by cases hx),rfl,by simp,H,r,Bh,DO,Hq⟩
 ·rintro k _ hk ⟨fr,lh,R,rfl,K,O,E0,hlen,H,r,Bh,DO,Hq⟩
  have iP:(k:Int)<L.length:=by omega
  have hw:=iJ (k:=k) (by omega)
  obtain⟨rr,iU⟩:=asz L k hk
  have hx:=hL _ (List.getElem_mem hk)
  have qc:wQ (fun x=>m5 ((x.1+x.2)%1440) f t) (L.take (k+1))=wQ (fun x=>m5 ((x.1+x.2)%1440) f t) (L.take k)+uA (fun x=>m5 ((x+L[k].2.2)%1440) f t) L[k].1 L[k].2.1:=by
   rw[List.take_succ_eq_append_getElem hk,Kv];simp[wQ]
  rw[qc]
  generalize L[k]=x at*
  obtain⟨p,q,o⟩:=x
  obtain⟨b1,b2,b3⟩:=aix hx
  obtain⟨x1,x2,x3,x4⟩:=hx
  simp only at x1 x2 x3 x4 iU ⊢
  have Z8:=abU (o:=o) ⟨f1,f2⟩ ⟨t1,t2⟩ hl x2
  have w1:wr .i64 (p+o)=p+o:=jj (by omega)
  have w2:wr .i64 (q-1)=q-1:=jj (by omega)
  have w3:wr .i64 (q-1+o)=q-1+o:=jj (by omega)
  have q1:=Ar (p+o) (by unfold Kq;omega)
  have q2:=Ar (q-1+o) (by unfold Kq;omega)
  generalize (p+o)/1440=d1 at*
  generalize (q-1+o)/1440=d2 at*
  have w4:wr .i64 (d1-1)=d1-1:=jj (by omega)
  have U:d2=d1-1+((d2-(d1-1)+1).toNat:Int)-1:=by omega
  have V:d1-1+((d2-(d1-1)+1).toNat:Int)≤40000:=by omega
  generalize (d2-(d1-1)+1).toNat=N at*
  have W:N≤40000:=by omega
  generalize (p+o)%1440=e1 at*
  generalize (q-1+o)%1440=e2 at*
  simp only[qA,seval,oN,Bh,DO,Hq,iP,iU,w1,w2,w3,w4,q1,q2,adZ]
  generalize hD:DC pE 113 (.loop mG) _=D
  obtain⟨F,iI,R',rfl,r1,r2,r3,r4,I⟩:=asy ⟨f1,f2⟩ hb ⟨x4.1,x4.2⟩ x1 ⟨x2,x3⟩ R O (rl1 hlen hk hLl) (d1-1) N (by omega) V ((b7 lh 13).g+1) hD (by simp only[qA,seval,H]) (by simp only[qA,seval,r]) (by
   rcases K with⟨e1,e2⟩|⟨R1,y,g',e1,e2,e3⟩
   ·exact .inl ⟨e1,by simp only[qA,seval,e2]⟩
   ·exact .inr ⟨R1,y,g',e1,by simp only[qA,seval,e2],by simp only[qA,seval,e3]⟩) (by simp only[qA,seval]) (by simp only[qA,seval,←U]) (by simp only[qA,seval]) (by simp only[qA,seval])
  have g2:an F 2= .i .i64 f:=by rw[I 2 (by decide)];simp only[qA,seval,H]
  have X:an F 10= .i .i64 (jT f t):=by rw[I 10 (by decide)];simp only[qA,seval,r]
  have Y:an F 32=mQ L.length (Bg L):=by rw[I 32 (by decide)];simp only[qA,seval,Bh]
  have Z:an F 33= .i .i64 (L.length:Int):=by rw[I 33 (by decide)];simp only[qA,seval,DO]
  have g34:an F 34= .i .i64 (k:Int):=by rw[I 34 (by decide)];simp only[qA,seval,Hq]
  rw[Z8]at r3
  simp only[qA,seval,g34,hw]
  refine mR ⟨_,_,R',rfl,by simp only[qA,seval];exact r1,r2,by rw[r3,E0],rl2 r4 hlen W,by simp only[qA,seval,g2],by simp only[qA,seval,X],by simp only[qA,seval,Y],by simp only[qA,seval,Z],by simp only[qA,seval]⟩
 ·rintro _ ⟨fr,lh,R,rfl,K,O,E0,hlen,H,r,Bh,DO,Hq⟩
  rw[List.take_length]at E0
  simp only[qA,seval,oN,DO,Hq,Int.lt_irrefl]
  exact pI ⟨rfl,R,by simp only[qA,seval];exact K,O,E0,rl3 hlen hLl,rfl⟩
end
theorem ME{z:Zo}{A B f t:Int}(hf:0≤f∧f<1440)(ht:0≤t∧t<1440)(h:jT f t=0):z.bandM A B f t=0:=by
 have i: ∀n,sA (fun x=>m5 (z.clk x) f t) A n=0:=by
  intro n
  induction n with
  |zero=>rfl
  |succ n ih=>
   rw[sA,ih]
   have e:m5 (z.clk (A+n)) f t=false:=by
    have:=Kt (m:=A+n+z.off (A+n)) hf ht
    rw[show(A+n+z.off (A+n))%1440=z.clk (A+n)from rfl,h]at this
    grind
   simp[e]
 exact i _
theorem asB{v:T}{R:List (Int×Int)}(h:IsSl v R.length (Lr R))(j:Nat)(D:j<R.length): ∃r,∀kk,lH v (.i kk (j:Int)) 2=some (.vp (.i .i64 R[j].1:: .i .i64 R[j].2::r)):=by
 refine⟨Lr (R.drop (j+1)),fun kk=> ?_⟩
 rw[h.ia (B2 R) D]
 simp_all[Lr,FT]
theorem Hr: ∀{R:List (Int×Int)},yF R→0≤mJ R
 | [],_=>by simp[mJ]
 |x::R,h=>by
  have r:=h x (by simp)
  have D:=Hr (R:=R) fun y i=>h y (by simp[i])
  grind [mJ]
theorem Rz{R:List (Int×Int)}(h:yF R)(k:Nat):0≤mJ (R.take k)∧mJ (R.take k)≤mJ R:=by
 have e:mJ R=mJ (R.take k)+mJ (R.drop k):=by rw[←qz,List.take_append_drop]
 have r:=Hr (R:=R.take k) fun y i=>h y (List.mem_of_mem_take i)
 have D:=Hr (R:=R.drop k) fun y i=>h y (List.mem_of_mem_drop i)
 omega
theorem BA.fz{lh:gW b8}{sh:List b8}{v:T}{R:List (Int×Int)}{m:Nat}(h:BA lh v R): ∃w u,Ev.fzW m lh sh false v=some (w,u)∧IsSl w R.length (Lr R)∧J4 sh u=sh:=by
 rcases h with⟨rfl,rfl⟩|⟨R',x,g,rfl,rfl,h⟩
 ·exact⟨.nilsl,[],Ai rfl,.inl ⟨rfl,rfl,rfl⟩,rfl⟩
 ·have hl:=OK R' (.i .i64 x.1) (.i .i64 x.2)
  refine⟨_,_,by rw[Hd,h,tg,if_pos ⟨rfl,by rw[hl];omega⟩],.inr ⟨false, ?_⟩,rfl⟩
  rw[List.drop_zero,List.take_of_length_le (by rw[hl];omega),OJ,List.length_append];rfl
theorem asC{f t A B:Int}{fr:Fr}{lh:gW b8}{sh:List b8}{D:Option (Out×St)}(hs:SpB A B f t)(hl:jT f t≠0)(L:List (Int×Int×Int))(hL: ∀x∈L,WV x)(hLl:L.length≤17)(J:DC pE 113 (.loop oN) ⟨fr,lh,sh⟩=D)(K:an fr 2= .i .i64 f)(r:an fr 10= .i .i64 (jT f t))(F:an fr 11= .nilsl)(Bh:an fr 32=mQ L.length (Bg L))(DO:an fr 33= .i .i64 (L.length:Int))(Hq:an fr 34= .i .i64 0):
  ∃H I R,D=some (.ext 0,⟨H,I,sh⟩)∧BA I (an H 11) R∧yF R∧mJ R=wQ (fun x=>m5 ((x.1+x.2)%1440) f t) L∧R.length≤1000000∧ ∀s,(jU (.loop oN)).contains s=false→an H s=an fr s:=by
 obtain⟨e,R,N,O,U,V,W⟩:=ayw f t A B hs hl L hL hLl fr lh sh K r F Bh DO Hq
 unfold wJ at e;rw[W]at e
 exact⟨_,_,R,J.symm.trans e,N,O,U,V,fun s hs=>lB e s hs⟩
section
variable(z:Zo)(a:T)(hz:ZoT z a)(hv:oj z=0)(A B f t:Int)(hs:SpB A B f t)
include hz hv hs
theorem WW: ∃v R s,be pE 165 [.agg (Ez z a),.agg [.i .i64 A,.i .i64 B],.i .i64 f,.i .i64 t] []=some (.tup [v,.i .i64 (jT f t)],s)∧IsSl v R.length (Lr R)∧yF R∧mJ R=z.bandM A B f t∧R.length≤1000000:=by
 have H:=WU z a hz (tw hv).2.1 A B _ rfl
 have I:=hs
 obtain⟨K,s2,N,O,U,V,W⟩:=I
 have Z8:=MB (f:=f) (t:=t) hv K N
 have X:=ON K N z.sh 0 z.o (OM (tw hv).1) (fun s q=>(B0 (tw hv).2.2 s q).2)
 have hlen:(n5 A B 0 z.o z.sh).length≤17:=by
  have Y: ∀(l:List (Int×Int)) (fr o:Int),(n5 A B fr o l).length≤l.length+1:=by
   have Z: ∀p q o:Int,(yB p q o).length≤1:=fun p q o=>by unfold yB;split <;> simp
   intro l
   induction l with
   |nil=>grind [n5]
   |cons s r ih=>grind [n5,List.length_append,List.length_cons]
  grind [tw]
 have m9:lenI (mQ (n5 A B 0 z.o z.sh).length (Bg (n5 A B 0 z.o z.sh)))=some (.i .i64 ((n5 A B 0 z.o z.sh).length:Int)):=(nS (cs:=Bg (n5 A B 0 z.o z.sh)) fun h=>by rw[List.length_eq_zero_iff.1 h];rfl).lenI
 have SA:wr .i64 (t-f)=t-f:=jj (by omega)
 have F1:wr .i64 (t-f+1440)=t-f+1440:=jj (by omega)
 have F:(t-f+1440).tmod 1440=jT f t:=by unfold jT;exact Int.tmod_eq_emod_of_nonneg (by omega)
 generalize n5 A B 0 z.o z.sh=L at*
 obtain⟨cc,ha,hc⟩:=hz
 unfold Ez at H ⊢
 rw[gQ adV (by simp[P9])]
 by_cases hl:jT f t=0
 ·refine⟨.nilsl,[],[], ?_,.inl ⟨rfl,rfl,rfl⟩,(fun x hx=>by cases hx), ?_,by simp⟩
  ·rw[hl]at F
   simp only[qA,seval,P9,SA,F1,F,hl]
  ·rw[ME ⟨O,U⟩ ⟨V,W⟩ hl];rfl
 ·simp only[qA,seval,P9,SA,F1,F,hl,H,ap4,m9,ha.froz1]
  generalize hD:DC pE 113 (.loop oN) _=D
  obtain⟨jA,iI,R,rfl,r1,r2,r3,r4,pr⟩:=asC hs hl L X hlen hD (by simp only[qA,seval]) (by simp only[qA,seval]) (by simp only[qA,seval]) (by simp only[qA,seval]) (by simp only[qA,seval]) (by simp only[qA,seval])
  have J:an jA 10= .i .i64 (jT f t):=by rw[pr 10 (by decide)];simp only[qA,seval]
  obtain⟨w,u,q1,q2,q3⟩:=r1.fz (sh:= []) (m:=6)
  simp only[qA,seval,J,q1]
  grind
omit hz hv hs in
theorem ayx(v:T)(R:List (Int×Int))(F:IsSl v R.length (Lr R))(D:yF R)(hs:mJ R≤52596000)(hlen:R.length≤1000000)(fr:Fr)(lh:gW b8)(sh:List b8)(r:an fr 13= .i .i64 0)(Bh:an fr 32=v)(DO:an fr 33= .i .i64 (R.length:Int))(Hq:an fr 34= .i .i64 0):
  wJ 47 uS fr lh sh (.ext 0)∧
  (an (tT pE 47 uS fr lh sh) 13= .i .i64 (mJ R)∧oi pE 47 uS fr lh sh=sh):=by
 refine nU (fun k st=> ∃(fr:Fr) (lh:gW b8),st=⟨fr,lh,sh⟩∧an fr 13= .i .i64 (mJ (R.take k))∧an fr 32=v∧an fr 33= .i .i64 (R.length:Int)∧an fr 34= .i .i64 (k:Int))
  (fun H W I=>an H 13= .i .i64 (mJ R)∧I=sh) _ R.length ?_ ?_ fr lh sh ⟨fr,lh,rfl,r,Bh,DO,Hq⟩
 ·rintro k _ hk ⟨fr,lh,rfl,r,Bh,DO,Hq⟩
  have J:(k:Int)<R.length:=by omega
  have K:=po (k:=k) (by omega)
  obtain⟨X,N⟩:=asB F k hk
  have O:=Rz D (k+1)
  have hx:=D _ (List.getElem_mem hk)
  rw[List.take_succ_eq_append_getElem hk,qz,qC]at O
  rw[List.take_succ_eq_append_getElem hk,qz,qC]
  generalize R[k]=x at*
  generalize mJ (R.take k)=q at*
  have U:wr .i64 (x.2-x.1)=x.2-x.1:=jj (by omega)
  have V:wr .i64 (q+(x.2-x.1))=q+(x.2-x.1):=jj (by omega)
  simp only[qA,seval,uS,r,Bh,DO,Hq,J,N,K,U,V]
  exact mR ⟨_,_,rfl,by simp only[qA,seval],by simp only[qA,seval,Bh],by simp only[qA,seval,DO],by simp only[qA,seval]⟩
 ·rintro _ ⟨fr,lh,rfl,r,Bh,DO,Hq⟩
  rw[List.take_length]at r
  simp only[qA,seval,uS,DO,Hq,Int.lt_irrefl]
  exact pI ⟨rfl,by simp only[qA,seval,r],rfl⟩
theorem aiy:be pE 116 [.agg (Ez z a),.agg [.i .i64 A,.i .i64 B],.i .i64 f,.i .i64 t] []=some (.tup [.i .i64 (z.bandM A B f t),.i .i64 0],[]):=by
 have r:=abS z a hz hv A B f t hs
 obtain⟨v,R,s,D,F,I,H,J⟩:=WW z a hz hv A B f t hs
 have K:z.bandM A B f t≤52596000:=by
  obtain⟨V,W,X,_⟩:=hs
  have:=Hp (fun x=>m5 (z.clk x) f t) A (B-A).toNat
  unfold Zo.bandM uA
  omega
 have hL:=fun fr lh sh N Bh DO Hq=>ayx v R F I (by rw[H];exact K) J fr lh sh N Bh DO Hq
 rw[H]at hL
 have O:=F.lenI
 obtain⟨Y,U,hc⟩:=hz
 unfold Ez at r D ⊢
 rw[gQ TU (by simp[S5])]
 simp only[qA,seval,S5,r,D,O,hL,U.froz1,apW,apX]
end
theorem WX{α:Type}{f:α→List Nat}: ∀{l:List α},(l.map f).Nodup→ ∀a∈l,∀b∈l,f a=f b→a=b
 | [],_,a,i,_,_,_=>by cases i
 |x::l,h,a,i,b,r,e=>by
  rw[List.map_cons,List.nodup_cons]at h
  rcases List.mem_cons.1 i with p|p <;> rcases List.mem_cons.1 r with q|q
  ·rw[p,q]
  ·exact absurd (List.mem_map.2 ⟨b,q,by rw[←e,p]⟩) h.1
  ·exact absurd (List.mem_map.2 ⟨a,p,by rw[e,q]⟩) h.1
  ·exact WX h.2 a p b q e
theorem OO{α:Type}{f:α→List Nat}: ∀{l:List α},(l.map f).Nodup→ ∀a∈l,l.find? (fun x=>f x==f a)=some a:=by
 intro l h a i
 cases hq:l.find? (fun x=>f x==f a)with
 |none=>
  have:=List.find?_eq_none.1 hq a i
  simp at this
 |some b=>
  have r:=List.mem_of_find?_eq_some hq
  have D:=List.find?_some hq
  rw[WX h b r a i (by simpa using D)]
def zo0:Zo:=⟨[],0,[]⟩
def F6(t:Tt)(s:List Nat):Zo:=match t.ap.find? fun u=>u.cd==s with
 |some u=>(t.zo.find? fun z=>z.nm==u.zn).getD zo0
 |none=>zo0
theorem WY{t:Tt}(ht:tW t=0){u:Ap}{z:Zo}{s:List Nat}(i:u∈t.ap)(hz:z∈t.zo)(r:u.cd=s)(D:z.nm=u.zn):F6 t s=z:=by
 obtain⟨F,_,H,_⟩:=WB t ht
 subst r
 unfold F6
 rw[OO H u i]
 simp only
 rw[←D,OO F z hz];rfl
theorem aiz{t:Tt}(ht:tW t=0){s:List Nat}(hs:s∈t.ap.map Ap.cd): ∃u∈t.ap,u.cd=s∧ ∃z∈t.zo,z.nm=u.zn∧F6 t s=z:=by
 obtain⟨_,F,_,_⟩:=BY t ht
 obtain⟨u,i,r⟩:=List.mem_map.1 hs
 obtain⟨z,hz,D⟩:=List.mem_map.1 (F u i)
 exact⟨u,i,r,z,hz,D,WY ht i hz r D⟩
theorem Hs{t:Tt}(ht:tW t=0){s:List Nat}(hs:s∈t.ap.map Ap.cd):oj (F6 t s)=0:=by
 obtain⟨u,_,_,z,hz,_,h⟩:=aiz ht hs
 rw[h];exact(BY t ht).1 z hz
theorem ayy{t:Tt}(ht:tW t=0){q:List (List Nat×List T)}(hq:Rk t.zo t.ap q)(i:q.map Prod.fst=t.ap.map Ap.cd){s:List Nat}(hs:s∈t.ap.map Ap.cd): ∃a,iy q s=some (Ez (F6 t s) a)∧ZoT (F6 t s) a:=by
 obtain⟨v,hv⟩:=Au (by rw[i];exact hs)
 obtain⟨u,r,D,z,hz,F,H⟩:=hq _ (yG hv)
 rw[WY ht r hz D F]
 obtain⟨a,I,e,J,K⟩:=H
 simp only at e
 subst e
 exact⟨a,hv,I,J,K⟩
theorem sC{t:Tt}(ht:tW t=0){f:Fl}(hf:f∈t.fl):f.fr∈t.ap.map Ap.cd∧f.to∈t.ap.map Ap.cd:=by
 have h:=(BY t ht).2.2.1 f hf
 unfold Km at h
 split at h
 ·cases h
 split at h
 ·cases h
 split at h
 ·cases h
 rename_i q
 split at h
 ·cases h
 rename_i r
 exact⟨by simpa using q,by simpa using r⟩
theorem abV{c:Ct}(h:mi c=0):0≤c.nf∧c.nf≤1439∧0≤c.nt∧c.nt≤1439:=by
 unfold mi at h
 split at h
 ·rename_i q;exact absurd h q
 rename_i g
 have g:mE c=0:=by omega
 unfold mE at g
 split at g
 ·cases g
 rename_i r
 have r:pK c=true:=by simpa using r
 unfold pK at r
 simp only[Bool.and_eq_true,OC]at r
 omega
def zj(c:Ct)(f:Fl):Int:=f.dp-c.rp
def zk(c:Ct)(g:Fl):Int:=g.ar+c.rl
def RA(t:Tt)(c:Ct)(f g:Fl):Int:=if zj c f<zk c g then(F6 t f.fr).bandM (zj c f) (zk c g) c.nf c.nt else 0
def RB(t:Tt)(c:Ct)(f g:Fl):Int:=max ((F6 t f.fr).off (zj c f)-(F6 t g.to).off (zk c g)) ((F6 t g.to).off (zk c g)-(F6 t f.fr).off (zj c f))
def WZ(t:Tt)(c:Ct)(f:Fl):Int:=(F6 t f.fr).clk (zj c f)
def W0(t:Tt)(c:Ct)(g:Fl):Int:=(F6 t g.to).clk (zk c g)
theorem W1{c:Ct}(hc:mi c=0){f g:Fl}(hf:Ao f)(i:Ao g):(1440≤zj c f∧zj c f≤52593120)∧(2880≤zk c g∧zk c g≤52594560)∧wr .i64 (f.dp-c.rp)=zj c f∧wr .i64 (g.ar+c.rl)=zk c g∧wr .i64 (zk c g-zj c f)=zk c g-zj c f:=by
 obtain⟨_,D,F,H,I⟩:=hf
 obtain⟨_,J,K,g3,N⟩:=i
 have r:=WO c hc
 unfold zj zk
 refine⟨by omega,by omega,jj (by omega),jj (by omega),jj (by omega)⟩
theorem OP{x:Int}(h:0≤x∧x<52596000):As x=true:=by unfold As;simp[h]
section
variable(t:Tt)(c:Ct)(zT aT fT a7 a8 a9 gX hU gZ:T)(vs:List T)(hT:wM t zT aT fT)(hC:uc c a7 a8 a9 gX hU gZ)(hV:Kk t c vs)(ht:tW t=0)(hc:mi c=0)
theorem OQ(hV:Kk t c vs)(ht:tW t=0){s:List Nat}(hs:s∈t.ap.map Ap.cd): ∃a,be pE 115 [stV c zT aT fT a7 a8 a9 gX hU gZ vs,.s s] []=some (.agg (Ez (F6 t s) a),[])∧ZoT (F6 t s) a:=by
 obtain⟨q,I,J,K,N,O,c3,cr,U,rfl,hq,F,_⟩:=hV
 obtain⟨a,hv,D⟩:=ayy ht hq F hs
 refine⟨a, ?_,D⟩
 have r:=Ou (kT:=sK) (vT:=T.agg) E1 (fun _=>rfl) q s (.agg [.s [],.i .i64 0,.nilsl])
 rw[hv]at r
 change na _ _ _ (.s s) _ _=_ at r
 obtain⟨V,H,W⟩:=D
 unfold Ez at*
 unfold stV jE
 simp only[List.cons_append,List.nil_append]
 rw[gQ adm (by simp[S4])]
 simp only[qA,seval,S4,r,H.froz1]
theorem uD(hT:wM t zT aT fT)(i:Nat)(hi:i<t.fl.length): ∃r,be pE 73 [stV c zT aT fT a7 a8 a9 gX hU gZ vs,.i .i64 (i:Int)] []=some (.vp (.s t.fl[i].nu:: .s t.fl[i].fr:: .s t.fl[i].to:: .i .i64 t.fl[i].dp:: .i .i64 t.fl[i].ar:: .s t.fl[i].ty:: .i .i64 t.fl[i].n0:: .i .i64 t.fl[i].n1:: .i .i64 t.fl[i].n2::r),[]):=by
 obtain⟨D,F,H⟩:=hT.f
 exact Mw zT aT fT (jE c a7 a8 a9 gX hU gZ++vs) D t.fl F H i hi
theorem Kx(hT:wM t zT aT fT)(ht:tW t=0)(hc:mi c=0)(i j:Nat)(hi:i<t.fl.length)(r:j<t.fl.length):be pE 76 [stV c zT aT fT a7 a8 a9 gX hU gZ vs,.i .i64 (i:Int),.i .i64 (j:Int)] []=some (.agg [.i .i64 (zj c t.fl[i]),.i .i64 (zk c t.fl[j])],[]):=by
 obtain⟨J,D⟩:=uD t c zT aT fT a7 a8 a9 gX hU gZ vs hT i hi
 obtain⟨K,F⟩:=uD t c zT aT fT a7 a8 a9 gX hU gZ vs hT j r
 obtain⟨_,_,H,I,_⟩:=W1 hc ((rG t ht).1 _ (List.getElem_mem hi)) ((rG t ht).1 _ (List.getElem_mem r))
 generalize t.fl[i]=f at*
 generalize t.fl[j]=g at*
 generalize zj c f=S at*
 generalize zk c g=E at*
 unfold stV jE at*
 simp only[List.cons_append,List.nil_append]at*
 rw[gQ agp (by simp[c76])]
 simp only[qA,seval,jq,ig,c76,D,F,H,I,EF,ao8]
theorem W2(hT:wM t zT aT fT)(hV:Kk t c vs)(ht:tW t=0)(hc:mi c=0)(i j:Nat)(hi:i<t.fl.length)(V:j<t.fl.length)(x0 x1 x2 x3 x4 x5 x6 x7 x8 x9 W:T):
  be pE 75 [stV c zT aT fT a7 a8 a9 gX hU gZ vs,.isl .S 0 1 0 11 1,.i .i64 (i:Int),.i .i64 (j:Int)] [⟨1,.cells [x0,x1,x2,x3,x4,x5,x6,x7,x8,x9,W] 0 false⟩]=some (.tup [],[⟨1,.cells [x0,x1,x2,x3,.i .i64 (zk c t.fl[j]-zj c t.fl[i]),.i .i64 (RA t c t.fl[i] t.fl[j]),x6,x7,.i .i64 (RB t c t.fl[i] t.fl[j]),.i .i64 (WZ t c t.fl[i]),.i .i64 (W0 t c t.fl[j])] 0 false⟩]):=by
 have F:=Kx t c zT aT fT a7 a8 a9 gX hU gZ vs hT ht hc i j hi V
 obtain⟨r1,h1⟩:=uD t c zT aT fT a7 a8 a9 gX hU gZ vs hT i hi
 obtain⟨r2,h2⟩:=uD t c zT aT fT a7 a8 a9 gX hU gZ vs hT j V
 have hf:=List.getElem_mem hi
 have X:=List.getElem_mem V
 obtain⟨b1,b2,_,_,w3⟩:=W1 hc ((rG t ht).1 _ hf) ((rG t ht).1 _ X)
 obtain⟨Y,H,r⟩:=OQ t c zT aT fT a7 a8 a9 gX hU gZ vs hV ht (sC ht hf).1
 obtain⟨zb,I,D⟩:=OQ t c zT aT fT a7 a8 a9 gX hU gZ vs hV ht (sC ht X).2
 have U:=Hs ht (sC ht hf).1
 have Z:=Hs ht (sC ht X).2
 have nf:=abV hc
 have i1:=OP (x:=zj c t.fl[i]) (by omega)
 have i2:=OP (x:=zk c t.fl[j]) (by omega)
 have o1:=wO _ Y r U _ i1
 have o2:=wO _ zb D Z _ i2
 have l1:=Kr _ Y r U _ i1
 have l2:=Kr _ zb D Z _ i2
 have d1:=Zo.off_bd U (zj c t.fl[i])
 have d2:=Zo.off_bd Z (zk c t.fl[j])
 have bm:zj c t.fl[i]<zk c t.fl[j]→_:=fun h=>aiy _ Y r U (zj c t.fl[i]) (zk c t.fl[j]) c.nf c.nt ⟨by omega,by omega,by omega,by omega,by omega,by omega,by omega⟩
 have J:=r.choose_spec.1.froz1
 have K:=D.choose_spec.1.froz1
 have ca:=r.choose_spec.1.cells
 have cb:=D.choose_spec.1.cells
 unfold RA RB WZ W0
 generalize t.fl[i]=f at*
 generalize t.fl[j]=g at*
 generalize zj c f=S at*
 generalize zk c g=E at*
 generalize F6 t f.fr=N at*
 generalize F6 t g.to=O at*
 have w4:wr .i64 (N.off S-O.off E)=N.off S-O.off E:=jj (by omega)
 have w5:wr .i64 (O.off E-N.off S)=O.off E-N.off S:=jj (by omega)
 generalize N.off S=p1 at*
 generalize O.off E=p2 at*
 have SC:=Aq c zT aT fT a7 a8 a9 gX hU gZ vs
 have hkv:kept (stV c zT aT fT a7 a8 a9 gX hU gZ vs)=true:=nr rfl
 unfold Ez at*
 rw[gQ ago (by simp[c75])]
 by_cases oa:S<E
 ·have bm:=bm oa
  have wv:0<E-S:=by omega
  rw[if_pos oa]
  unfold stV jE at*
  simp only[List.cons_append,List.nil_append]at*
  simp only[qA,seval,jq,ig,iY,c75,F,h1,h2,H,I,w3,w4,w5,wv,bm,o1,o2,l1,l2,yC,yD,J,K,Bf,pq,kU,EF,agq,adn,ado,adp,TV,ads]
  rfl
 ·have wv: ¬0<E-S:=by omega
  rw[if_neg oa]
  unfold stV jE at*
  simp only[List.cons_append,List.nil_append]at*
  simp only[qA,seval,jq,ig,iY,c75,F,h1,h2,H,I,w3,w4,w5,wv,o1,o2,l1,l2,yC,yD,J,K,EF,agq,adn,ado,adp,TV,ads]
  rfl
end
end Go.Proofs.YtcpceiclnbmgiaaGreat
namespace Go.Ev
open Go
theorem OR{E:Env}{call:pw}{n:Nat}{fr:Fr}{lh:gW b8}{sh:List b8}{i:List dy}{d bytes:Nat}{z:List T}{x:im}(r:d<n):dE E call n (⟨some d,.mksl z bytes x true,none⟩::i) ⟨fr,lh,sh⟩=
  (L8 (rd fr x) bytes).bind fun m=>dE E call n i ⟨jV fr d (.isl .S sh.length 1 0 m z.length),lh,iu sh sh.length ⟨1,.cells (repl z m) 0 (Uc z)⟩⟩:=by
 rw[pg (by rfl) (show Eu n (some d)from r)]
 unfold one L8
 simp only[iX]
 cases asNat (rd fr x)with
 |none=>rfl
 |some m=>
  simp only[Bool.and_eq_true,decide_eq_true_eq]
  split <;> rfl
end Go.Ev
namespace Go.Proofs.YtcpceiclnbmgiaaGreat
open Go Go.Ev
structure Cn where
 lg:Int
 hd:Int
 bk:Int
 lo:Int
 so:Int
 ks:List (List Nat)
def cn0:Cn:=⟨0,0,0,0,1440,[]⟩
def adK(s:List Nat)(l:List (List Nat)):List (List Nat):=if s∈l then l else l++ [s]
def cnT(f:Fl)(h:Bool)(s:Cn):Cn:=if h=true then{s with hd:=s.hd+1}else{s with lg:=s.lg+1,bk:=s.bk+(f.ar-f.dp),ks:=adK f.ty s.ks}
def cnG(g f:Fl)(s:Cn):Cn:={s with lo:=max s.lo (f.dp-g.ar),so:=min s.so (f.dp-g.ar)}
def tkG(d:List (Int×Bool))(k:Nat):Int×Bool:=d.getD k (0,false)
def l8(i:List Fl)(d:List (Int×Bool))(k:Nat):Fl:=flG i (tkG d k).1
def Bi(i:List Fl)(d:List (Int×Bool)):Nat→Cn
 |0=>cn0
 |k+1=>if k=0 then cnT (l8 i d k) (tkG d k).2 (Bi i d k)else cnG (l8 i d (k-1)) (l8 i d k) (cnT (l8 i d k) (tkG d k).2 (Bi i d k))
def Ht(k:Nat)(s:Cn):Prop:=(0≤s.lg∧s.lg≤k)∧(0≤s.hd∧s.hd≤k)∧(0≤s.bk∧s.bk≤1440*k)∧(0≤s.lo∧s.lo≤52593120)∧(-52593120≤s.so∧s.so≤1440)∧s.ks.length≤k
theorem aiA:Ht 0 cn0:=by unfold Ht cn0;simp
theorem W3{f:Fl}(hf:Ao f){h:Bool}{k:Nat}{s:Cn}(hs:Ht k s):Ht (k+1) (cnT f h s):=by
 obtain⟨_,i,r,D,F⟩:=hf
 grind [adK,Ht,cnT]
theorem W4{f g:Fl}(hf:Ao f)(i:Ao g): -52593120≤f.dp-g.ar∧f.dp-g.ar≤52593120:=by
 obtain⟨_,r,D,F,H⟩:=hf
 obtain⟨_,I,J,g3,K⟩:=i
 omega
theorem aiB{f g:Fl}(hf:Ao f)(i:Ao g){k:Nat}{s:Cn}(hs:Ht k s):Ht k (cnG g f s):=by
 have:=W4 hf i
 grind [Ht,cnG]
theorem W5{d:List (Int×Bool)}{k:Nat}(hk:k<d.length):tkG d k=d[k]:=by grind [tkG]
theorem rH{r:List Fl}(F: ∀f∈r,Ao f){d:List (Int×Bool)}(D: ∀k∈d,Lq r.length k.1=true){k:Nat}(hk:k<d.length): ∃i:Nat,∃hi:i<r.length,d[k].1=i∧l8 r d k=r[i]∧Ao (l8 r d k):=by
 obtain⟨i,hi,e⟩:=aio (D _ (List.getElem_mem hk))
 grind [l8,W5,aiq]
theorem MF{i:List Fl}(r: ∀f∈i,Ao f){d:List (Int×Bool)}(D: ∀k∈d,Lq i.length k.1=true): ∀k,k≤d.length→Ht k (Bi i d k)
 |0,_=>aiA
 |k+1,h=>by
  have ih:=MF r D k (by omega)
  obtain⟨_,_,_,_,F⟩:=rH r D (k:=k) (by omega)
  rw[Bi]
  split
  ·exact W3 F ih
  ·obtain⟨_,_,_,_,H⟩:=rH r D (k:=k-1) (by omega)
   exact aiB F H (W3 F ih)
theorem asG(s:List Nat)(l:List (List Nat))(a:T)(N:IsSl a l.length (l.map T.s))(hlen:l.length≤1000)(r:Int)(hr:r=ixA s l 0)(o:Out)(ho:o=if r<0 then .ext 0 else .ret)(fr:Fr)(lh:gW b8)(sh:List b8)(F:an fr 0=a)(H:an fr 1= .s s)(D:an fr 7= .i .i64 (l.length:Int))(I:an fr 8= .i .i64 0):
  wJ 19 uR fr lh sh o∧
  ((¬r<0→an (tT pE 19 uR fr lh sh) 4= .i .i64 r)∧oi pE 19 uR fr lh sh=sh):=by
 refine nU (fun k st=> ∃(fr:Fr) (lh:gW b8),st=⟨fr,lh,sh⟩∧r=ixA s (l.drop k) k∧an fr 0=a∧an fr 1= .s s∧an fr 7= .i .i64 (l.length:Int)∧an fr 8= .i .i64 (k:Int))
  (fun O X U=>(¬r<0→an O 4= .i .i64 r)∧U=sh) _ l.length ?_ ?_ fr lh sh ⟨fr,lh,rfl,hr,F,H,D,I⟩
 ·rintro k _ hk ⟨fr,lh,rfl,hr,F,H,D,I⟩
  have V:(k:Int)<l.length:=by omega
  have W:=iJ (k:=k) (by omega)
  have J: ∃K,∀kk,lH a (.i kk (k:Int)) 1=some (.vp (.s l[k]::K)):=by
   refine⟨(l.map T.s).drop (k+1),fun kk=> ?_⟩
   rw[N.ia (sz:=1) (by simp) hk,Nat.mul_one,List.drop_eq_getElem_cons (by simpa using hk),List.getElem_map]
  obtain⟨K,J⟩:=J
  rw[List.drop_eq_getElem_cons hk,ixA]at hr
  generalize l[k]=y at*
  simp only[qB,seval,uR,F,H,D,I,V,J,W]
  refine Dz (fun h=> ?_) (fun h=> ?_)
  ·rw[if_pos h.symm]at hr
   exact Hh ⟨by rw[ho,if_neg (by omega)],fun _=>(by simp only[qA,seval,hr]),rfl⟩
  ·rw[if_neg (fun e=>h e.symm)]at hr
   exact mR ⟨_,_,rfl,hr,by simp only[qA,seval,F],by simp only[qA,seval,H],by simp only[qA,seval,D],by simp only[qA,seval]⟩
 ·rintro _ ⟨fr,lh,rfl,hr,F,H,D,I⟩
  rw[List.drop_length,ixA]at hr
  simp only[qA,seval,uR,D,I,Int.lt_irrefl]
  grind [pI]
theorem Hu(s:List Nat)(l:List (List Nat))(a:T)(r:IsSl a l.length (l.map T.s))(hlen:l.length≤1000):be pE 74 [a,.s s] []=some (.b (decide (s∈l)),[]):=by
 have hL:=fun fr lh sh H I J K=>asG s l a r hlen _ rfl _ rfl fr lh sh H I J K
 have D:=W6 s l 0
 have Kc:=OS s l 0
 have F:be pE 114 [a,.s s] []=some (.i .i64 (ixA s l 0),[]):=by
  rw[gQ adl (by simp[PV])]
  generalize ixA s l 0=v at*
  by_cases h:v<0
  ·have e:=D h
   subst e
   simp only[qA,seval,PV,hL,r.lenI]
  ·simp only[h,if_false,not_false_eq_true,forall_const]at hL
   simp only[qA,seval,PV,hL,r.lenI]
 have N:decide (s∈l)=decide (0≤ixA s l 0):=by
  grind
 rw[N]
 rw[gQ ao9 (by simp[c74])]
 generalize ixA s l 0=v at*
 simp only[qA,seval,c74,F,r.froz,apI]
end Go.Proofs.YtcpceiclnbmgiaaGreat
