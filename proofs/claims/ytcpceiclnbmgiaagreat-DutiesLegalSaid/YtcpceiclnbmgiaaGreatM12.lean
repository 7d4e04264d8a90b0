/- Walks of functions of the program and of the reference, and their plain laws, part 12. Conditions: the theorems' own. -/
import Derived.Test.YtcpceiclnbmgiaaGreatM11
import Derived.KernelRfl
set_option maxRecDepth 100000
set_option linter.unusedSimpArgs false
set_option linter.unusedVariables false
set_option maxHeartbeats 16000000
namespace Go.Proofs.YtcpceiclnbmgiaaGreat
open Go Go.Ev
theorem zk{a b:Int}:(if b>a then b else a)=max a b:=by rw[Int.max_def];split <;> split <;> omega
theorem zl{a b:Int}:(if b<a then b else a)=min a b:=by rw[Int.min_def];split <;> split <;> omega
theorem nq{lh:iw b8}{sh:List b8}{v:T}{k n sz bytes:Nat}{cs:List T}(h:jO lh v k sz n cs)(i:List T)(r:i.length=sz)(hr:(n+1)*bytes≤roomy)(ex:Bool):
  appW lh sh k sz bytes v (.sl i 1 ex)=some (nxV lh sh k sz bytes v (.sl i 1 ex),ZD lh sh k sz bytes v (.sl i 1 ex))∧jO (ZD lh sh k sz bytes v (.sl i 1 ex)) (nxV lh sh k sz bytes v (.sl i 1 ex)) k sz (n+1) (cs++i)∧ ∀j,j≠k→b7 (ZD lh sh k sz bytes v (.sl i 1 ex)) j=b7 lh j:=
 jO.appW h (m:=0) (by rw[MB,if_pos (by omega)]) (by omega) hr
def BE(l:List (Int×Int×Int)):List T:=l.flatMap fun x=> [.i .i64 x.1,.i .i64 x.2.1,.i .i64 x.2.2]
theorem O9(a b:List (Int×Int×Int)):BE (a++b)=BE a++BE b:=by unfold BE;rw[List.flatMap_append]
theorem Pa(p q o:Int)(l:List (Int×Int×Int)):BE l++ [.i .i64 p,.i .i64 q,.i .i64 o]=BE (l++ [(p,q,o)]):=by rw[O9];rfl
section
variable(z:Zo)(a:T)(hz:ZoT z a)(hlen:z.sh.length≤16)(A B:Int)
def tP(z:Zo)(A B i r:Int)(k:Nat):List (Int×Int×Int):=if k≤z.sh.length then oq A B i r (z.sh.drop k)else []
theorem R7{i r:Int}{k:Nat}(hk:k<z.sh.length):tP z A B i r k=zj (max i A) (min z.sh[k].1 B) r++tP z A B z.sh[k].1 z.sh[k].2 (k+1):=by
 unfold tP
 rw[if_pos (by omega),if_pos (by omega),List.drop_eq_getElem_cons hk,oq]
theorem Na{i r:Int}:tP z A B i r z.sh.length=zj (max i A) (min 52596000 B) r:=by
 unfold tP
 rw[if_pos (by omega),List.drop_length,oq]
theorem uQ{i r:Int}:tP z A B i r (z.sh.length+1)= []:=by
 unfold tP
 rw[if_neg (by omega)]
include hz hlen
theorem azp(fr:Fr)(lh:iw b8)(sh:List b8)(H:an fr 2= .ptr .L 2 1 0)(I:an fr 3= .ptr .L 3 1 0)(W:an fr 5= .nilsl)(U:an fr 6= .i .i64 0)(V:an fr 7= .i .i64 z.o)(X:an fr 8= .i .i64 0)(F:b7 lh 2=⟨1,.cells (E2 z a) 0 true⟩)(J:b7 lh 3=⟨1,.cells [.i .i64 A,.i .i64 B] 0 true⟩):
  wJ 63 ri fr lh sh (.ext 0)∧
  (jO (nU pE 63 ri fr lh sh) (an (tD pE 63 ri fr lh sh) 5) 49 3 (oq A B 0 z.o z.sh).length (BE (oq A B 0 z.o z.sh))∧(oq A B 0 z.o z.sh).length≤17∧ow pE 63 ri fr lh sh=sh):=by
 obtain⟨cc,Z,hc⟩:=hz
 unfold E2 at F
 refine ny (fun k st=> ∃(fr:Fr) (lh:iw b8) (K N:Int) (L:List (Int×Int×Int)),st=⟨fr,lh,sh⟩∧an fr 2= .ptr .L 2 1 0∧an fr 3= .ptr .L 3 1 0∧an fr 6= .i .i64 K∧an fr 7= .i .i64 N∧an fr 8= .i .i64 (k:Int)∧b7 lh 2=⟨1,.cells [.s z.nm,.i .i64 z.o,a] 0 true⟩∧b7 lh 3=⟨1,.cells [.i .i64 A,.i .i64 B] 0 true⟩∧jO lh (an fr 5) 49 3 L.length (BE L)∧L.length≤k∧L++tP z A B K N k=oq A B 0 z.o z.sh)
  (fun jN iU iX=>jO iU (an jN 5) 49 3 (oq A B 0 z.o z.sh).length (BE (oq A B 0 z.o z.sh))∧(oq A B 0 z.o z.sh).length≤17∧iX=sh) _ (z.sh.length+1) ?_ ?_ fr lh sh ⟨fr,lh,0,z.o,[],rfl,H,I,U,V,X,F,J,by rw[W];exact jO.nil,by simp,by simp[tP]⟩
 ·rintro k _ hk ⟨fr,lh,K,N,L,rfl,H,I,U,V,X,F,J,O,hL,r⟩
  have iW:(k:Int)≤z.sh.length:=by omega
  have hw:=iO (k:=k) (by omega)
  have D:=fun e:Int=>nq (sh:=sh) O [.i .i64 (max K A),.i .i64 (min e B),.i .i64 N] rfl (bytes:=24) (by unfold roomy;omega) true
  generalize W:an fr 5=v5 at O D
  by_cases S0:k<z.sh.length
  ·have hk2:(k:Int)<z.sh.length:=by omega
   obtain⟨rr,je⟩:=O7 Z hc S0
   rw[R7 z A B S0]at r
   generalize z.sh[k]=s at*
   have D:=D s.1
   have Y:=(D.2.2 2 (by decide)).trans F
   have p3:=(D.2.2 3 (by decide)).trans J
   simp only[qB,seval,repl,ri,H,I,W,U,V,X,F,J,Z.lenI,iW,hk2,je,hw,zk,zl,O.notS,D.1,Y]
   refine DV (fun h=> ?_) (fun h=> ?_)
   ·rw[zj,if_pos h]at r
    exact mR ⟨_,_,s.1,s.2,L++ [(max K A,min s.1 B,N)],rfl,by simp only[qA,seval,H],by simp only[qA,seval,I],by simp only[qA,seval],by simp only[qA,seval],by simp only[qA,seval],Y,p3,by simp only[qA,seval];rw[←Pa,List.length_append];exact D.2.1,by simp;omega,by rw[List.append_assoc];exact r⟩
   ·rw[zj,if_neg h,List.nil_append]at r
    exact mR ⟨_,_,s.1,s.2,L,rfl,by simp only[qA,seval,H],by simp only[qA,seval,I],by simp only[qA,seval],by simp only[qA,seval],by simp only[qA,seval],F,J,by simp only[qA,seval,W];exact O,by omega,r⟩
  ·obtain rfl:k=z.sh.length:=by omega
   rw[Na]at r
   have D:=D 52596000
   have Y:=(D.2.2 2 (by decide)).trans F
   have p3:=(D.2.2 3 (by decide)).trans J
   simp only[qB,seval,repl,ri,H,I,W,U,V,X,F,J,Z.lenI,Int.lt_irrefl,Int.le_refl,hw,zk,zl,O.notS,D.1,Y]
   refine DV (fun h=> ?_) (fun h=> ?_)
   ·rw[zj,if_pos h]at r
    exact mR ⟨_,_,K,N,L++ [(max K A,min 52596000 B,N)],rfl,by simp only[qA,seval,H],by simp only[qA,seval,I],by simp only[qA,seval,U],by simp only[qA,seval,V],by simp only[qA,seval],Y,p3,by simp only[qA,seval];rw[←Pa,List.length_append];exact D.2.1,by simp;omega,by rw[uQ,List.append_nil];exact r⟩
   ·rw[zj,if_neg h,List.append_nil]at r
    exact mR ⟨_,_,K,N,L,rfl,by simp only[qA,seval,H],by simp only[qA,seval,I],by simp only[qA,seval,U],by simp only[qA,seval,V],by simp only[qA,seval],F,J,by simp only[qA,seval,W];exact O,by omega,by rw[uQ,List.append_nil];exact r⟩
 ·rintro _ ⟨fr,lh,K,N,L,rfl,H,I,U,V,X,F,J,O,hL,r⟩
  rw[uQ,List.append_nil]at r
  subst r
  have iW: ¬((z.sh.length+1:Nat):Int)≤z.sh.length:=by omega
  simp only[qA,seval,ri,H,X,F,Z.lenI,iW]
  exact oS ⟨rfl,(by simp only[qA,seval];exact O),by omega,rfl⟩
theorem Xl(sp:T)(U:sp= .agg [.i .i64 A,.i .i64 B]):be pE 203 [.agg (E2 z a),sp] []=some (lN (oq A B 0 z.o z.sh).length (BE (oq A B 0 z.o z.sh)),[]):=by
 subst U
 have hL:=fun fr lh sh r D F H I J K N=>azp z a hz hlen A B fr lh sh r D F H I J K N
 have V:=fun m keep fr lh sh r D F H I J K N=>jO.fzW (m:=m) (keep:=keep) (sh:=sh) (hL fr lh sh r D F H I J K N).2.1
 have O:=fun keep fr lh sh r D F H I J K N=>jO.fzV (keep:=keep) (sh:=sh) (hL fr lh sh r D F H I J K N).2.1
 obtain⟨W,X,hc⟩:=hz
 unfold E2 at hL V O ⊢
 rw[il aeT (by simp[T8])]
 simp only[qA,seval,T8,hL,O,Fw]
end
def SpB(A B f t:Int):Prop:=0≤A∧A≤B∧B≤52596000∧0≤f∧f<1440∧0≤t∧t<1440
section
variable(z:Zo)(a:T)(hz:ZoT z a)(hv:oD z=0)(A B f t:Int)(hs:SpB A B f t)
include hz hv hs
theorem acw:be pE 164 [.agg (E2 z a),.agg [.i .i64 A,.i .i64 B],.i .i64 f,.i .i64 t] []=some (.i .i64 0,[]):=by
 obtain⟨H,I,J,K,N,O,U⟩:=hs
 obtain⟨V,r,hc⟩:=hz
 have D:=D7 z a V r hc
 rw[hv]at D
 have W:be pE 201 [.agg [.i .i64 A,.i .i64 B]] []=some (.b true,[]):=by
  rw[il aeR (by simp[T6])]
  simp only[qA,seval,T6,H,I,J]
 have F: ∀x:Int,0≤x→x<1440→be pE 202 [.i .i64 x] []=some (.b true,[]):=by
  intro x x1 x2
  rw[il aeS (by simp[T7])]
  simp only[qA,seval,T7,x1,x2]
 have X:=F f K N
 have Y:=F t O U
 unfold E2
 rw[il aeu (by simp[TX])]
 simp only[qA,seval,TX,D,W,X,Y,r.froz1,aac,aqD,aqE]
end
def LW(l:List (Int×Int)):List T:=l.flatMap fun x=> [.i .i64 x.1,.i .i64 x.2]
theorem Pb(a b:List (Int×Int)):LW (a++b)=LW a++LW b:=by grind [LW]
theorem Cm(l:List (Int×Int)):(LW l).length=l.length*2:=pJ (sz:=2) (fun _=>rfl) l
def m6(l:List (Int×Int)):Int:=(l.map fun x=>x.2-x.1).sum
theorem qT(a b:List (Int×Int)):m6 (a++b)=m6 a+m6 b:=by grind [m6]
theorem qU(x:Int×Int):m6 [x]=x.2-x.1:=by simp[m6]
def BX(lh:iw b8)(v:T)(R:List (Int×Int)):Prop:=
 (R= []∧v= .nilsl)∨ ∃R' x g,R=R'++ [x]∧v= .isl .L 109 g 0 (R'.length+1) 2∧b7 lh 109=⟨g,.cells (LW R'++ [.i .i64 x.1,.i .i64 x.2]) 0 false⟩
def zp(R:List (Int×Int)):Prop:= ∀x∈R,0≤x.1∧x.1≤x.2∧x.2≤52596000
theorem ai0(R:List (Int×Int))(a b:T):(LW R++ [a,b])[R.length*2+1]? =some b:=by
 grind [Cm]
theorem Nb(R:List (Int×Int))(a b c:T):splice (LW R++ [a,b]) (R.length*2+1) [c]=LW R++ [a,c]:=by
 have i: ∀(cs:List T),splice (cs++ [a,b]) (cs.length+1) [c]=cs++ [a,c]:=by
  intro cs
  induction cs with
  |nil=>rfl
  |cons x cs ih=>rw[List.cons_append,List.length_cons,splice,ih];rfl
 grind [Cm]
theorem Pc(R:List (Int×Int))(a b:T):(LW R++ [a,b]).length=R.length*2+2:=by rw[List.length_append,Cm];rfl
theorem acx{n:Nat}:((n+1)*2=n*2+2)=True:=by simp;omega
section
variable(f t o p q:Int)(hf:0≤f∧f<1440)(hl:1≤kf f t∧kf f t<1440)(ho: -840≤o∧o≤840)(hp:0≤p)(hq:p<q∧q≤52596000)
include hf hl ho hp hq
theorem azq(R0:List (Int×Int))(hB0:zp R0)(IK:R0.length≤1000000)(lo:Int)(N:Nat)(Xj: -10≤lo)(hN:lo+N≤40000)(g:Nat)(fr:Fr)(lh:iw b8)(sh:List b8)(H:an fr 2= .i .i64 f)(r:an fr 10= .i .i64 (kf f t))(D:BX lh (an fr 11) R0)(I:an fr 13= .ptr .L 13 g 0)(F:an fr 16= .i .i64 (lo+N-1))(O:an fr 18= .i .i64 lo)(R8:b7 lh 13=⟨g,.cells [.i .i64 p,.i .i64 q,.i .i64 o] 0 true⟩):
  wJ 113 mX fr lh sh (.ext 2)∧
  (∃R,BX (nU pE 113 mX fr lh sh) (an (tD pE 113 mX fr lh sh) 11) R∧zp R∧m6 R=m6 R0+uP (f-o) (kf f t) p q lo N∧R.length≤R0.length+N∧ow pE 113 mX fr lh sh=sh):=by
 refine ny (fun k st=> ∃(fr:Fr) (lh:iw b8) (R:List (Int×Int)),st=⟨fr,lh,sh⟩∧BX lh (an fr 11) R∧zp R∧m6 R=m6 R0+uP (f-o) (kf f t) p q lo k∧R.length≤R0.length+k∧an fr 2= .i .i64 f∧an fr 10= .i .i64 (kf f t)∧an fr 13= .ptr .L 13 g 0∧an fr 16= .i .i64 (lo+N-1)∧an fr 18= .i .i64 (lo+k)∧b7 lh 13=⟨g,.cells [.i .i64 p,.i .i64 q,.i .i64 o] 0 true⟩)
  (fun jN iU iX=> ∃R,BX iU (an jN 11) R∧zp R∧m6 R=m6 R0+uP (f-o) (kf f t) p q lo N∧R.length≤R0.length+N∧iX=sh) _ N ?_ ?_ fr lh sh ⟨fr,lh,R0,rfl,D,hB0,by simp[uP],by omega,H,r,I,F,by rw[O];simp,R8⟩
 ·rintro k _ hk ⟨fr,lh,R,rfl,Z,V,hs,hlen,H,r,I,F,O,R8⟩
  have W:lo+k≤lo+N-1:=by omega
  have nF:uP (f-o) (kf f t) p q lo (k+1)=uP (f-o) (kf f t) p q lo k+M8 (f-o) (kf f t) p q (lo+k):=rfl
  have w1:wr .i64 (lo+k+1)=lo+((k+1:Nat):Int):=by rw[jw (by omega)];omega
  have w2:wr .i64 ((lo+k)*1440)=1440*(lo+k):=by rw[jw (by omega)];omega
  have w3:wr .i64 (1440*(lo+k)+f)=1440*(lo+k)+f:=jw (by omega)
  have w4:wr .i64 (1440*(lo+k)+f-o)=1440*(lo+k)+(f-o):=by rw[jw (by omega)];omega
  have w5:wr .i64 (1440*(lo+k)+(f-o)+kf f t)=1440*(lo+k)+(f-o)+kf f t:=jw (by omega)
  rw[nF]
  unfold M8
  generalize kf f t=len at*
  generalize lo+(k:Int)=d at*
  generalize hS:1440*d+(f-o)=S at*
  have hA:0≤max S p:=by omega
  have hE:min (S+len) q≤52596000:=by omega
  generalize J:max S p=a at*
  generalize IF:min (S+len) q=e at*
  by_cases K:e≤a
  ·rw[if_neg (by omega),Int.add_zero]
   simp only[qA,seval,mX,H,r,I,F,O,R8,W,w1,w2,w3,w4,w5,J,IF,zk,zl,K]
   exact mR ⟨_,_,R,rfl,by simp only[qA,seval];exact Z,V,hs,by omega,by simp only[qA,seval,H],by simp only[qA,seval,r],by simp only[qA,seval,I],by simp only[qA,seval,F],by simp only[qA,seval],R8⟩
  ·have azs:a<e:=by omega
   rw[if_pos azs]
   have E1:(R.length+1)*16≤roomy:=by unfold roomy;omega
   rcases Z with⟨rfl,D⟩|⟨R',x,g',rfl,D,as6⟩
   ·have E1:16≤roomy:=by unfold roomy;omega
    simp only[qA,seval,appW,repl,mX,H,r,D,I,F,O,R8,W,w1,w2,w3,w4,w5,J,IF,zk,zl,K,Int.lt_irrefl,E1]
    refine mR ⟨_,_,[(a,e)],rfl,.inr ⟨[],(a,e),(b7 lh 109).g+1,rfl,by simp only[qA,seval],by simp only[qA,seval];rfl⟩, ?_, ?_,by simp;omega,by simp only[qA,seval,H],by simp only[qA,seval,r],by simp only[qA,seval,I],by simp only[qA,seval,F],by simp only[qA,seval],by simp only[qA,seval,R8]⟩
    ·intro y hy
     grind
    grind [qU,m6]
   ·rw[List.length_append]at E1 hlen
    simp only[List.length_cons,List.length_nil,Nat.zero_add]at E1 hlen
    have xe:(0:Int)<((R'.length+1:Nat):Int):=by omega
    have X:wr .i64 (((R'.length+1:Nat):Int)-1)=(R'.length:Int):=by rw[jw (by omega)];omega
    have kM:=ai0 R' (.i .i64 x.1) (.i .i64 x.2)
    have wD:=Pc R' (.i .i64 x.1) (.i .i64 x.2)
    have Y:=Nb R' (.i .i64 x.1) (.i .i64 x.2) (.i .i64 e)
    have hx:=V x (by simp)
    rw[qT,qU]at hs
    by_cases U:x.2=a
    ·rw[U]at kM wD Y
     simp only[qA,seval,appW,repl,mX,H,r,D,I,F,O,R8,as6,W,w1,w2,w3,w4,w5,J,IF,zk,zl,K,xe,X,kM,U,wD,Y,Nat.lt_succ_self,Int.natCast_nonneg]
     refine mR ⟨_,_,R'++ [(x.1,e)],rfl,.inr ⟨R',(x.1,e),g',rfl,by simp only[qA,seval,D],by simp only[qA,seval]⟩, ?_, ?_,by simp;omega,by simp only[qA,seval,H],by simp only[qA,seval,r],by simp only[qA,seval,I],by simp only[qA,seval,F],by simp only[qA,seval],by simp only[qA,seval,R8]⟩
     ·intro y hy
      rcases List.mem_append.1 hy with hy|hy
      ·exact V y (by simp[hy])
      ·grind
     ·rw[qT,qU];simp only;omega
    ·simp only[qA,seval,appW,repl,mX,H,r,D,I,F,O,R8,as6,W,w1,w2,w3,w4,w5,J,IF,zk,zl,K,xe,X,kM,U,wD,Nat.lt_succ_self,Int.natCast_nonneg,acx,E1]
     refine mR ?_
     refine⟨_,_,R'++ [x]++ [(a,e)],rfl,.inr ⟨R'++ [x],(a,e),g'+1,rfl,by simp only[qA,seval];simp,by simp only[qA,seval];rw[Pb];rfl⟩, ?_, ?_,by simp;omega,by simp only[qA,seval,H],by simp only[qA,seval,r],by simp only[qA,seval,I],by simp only[qA,seval,F],by simp only[qA,seval],by simp only[qA,seval,R8]⟩
     ·intro y hy
      rcases List.mem_append.1 hy with hy|hy
      ·exact V y hy
      ·rw[List.mem_singleton.1 hy];exact⟨hA,by show a≤e;omega,hE⟩
     ·rw[qT,qT,qU,qU];simp only;omega
 ·rintro _ ⟨fr,lh,R,rfl,Z,V,hs,hlen,H,r,I,F,O,R8⟩
  have W: ¬lo+(N:Int)≤lo+N-1:=by omega
  simp only[qA,seval,mX,F,O,W]
  exact oS ⟨rfl,R,by simp only[qA,seval];exact Z,V,hs,hlen,rfl⟩
end
theorem as8{f t o p q:Int}{fr:Fr}{lh:iw b8}{sh:List b8}{D:Option (Out×St)}(hf:0≤f∧f<1440)(hl:1≤kf f t∧kf f t<1440)(ho: -840≤o∧o≤840)(hp:0≤p)(hq:p<q∧q≤52596000)(R0:List (Int×Int))(r:zp R0)(IK:R0.length≤1000000)(lo:Int)(N:Nat)(Xj: -10≤lo)(K:lo+N≤40000)(g:Nat)(O:DC pE 113 (.loop mX) ⟨fr,lh,sh⟩=D)(U:an fr 2= .i .i64 f)(F:an fr 10= .i .i64 (kf f t))(H:BX lh (an fr 11) R0)(V:an fr 13= .ptr .L 13 g 0)(W:an fr 16= .i .i64 (lo+N-1))(X:an fr 18= .i .i64 lo)(R8:b7 lh 13=⟨g,.cells [.i .i64 p,.i .i64 q,.i .i64 o] 0 true⟩):
  ∃I J R,D=some (.ext 2,⟨I,J,sh⟩)∧BX J (an I 11) R∧zp R∧m6 R=m6 R0+uP (f-o) (kf f t) p q lo N∧R.length≤R0.length+N∧ ∀s,(j3 (.loop mX)).contains s=false→an I s=an fr s:=by
 obtain⟨e,R,Y,Z,r3,r4,r5⟩:=azq f t o p q hf hl ho hp hq R0 r IK lo N Xj K g fr lh sh U F H V W X R8
 unfold wJ at e;rw[r5]at e
 exact⟨_,_,R,O.symm.trans e,Y,Z,r3,r4,fun s hs=>lP e s hs⟩
def Xm(x:Int×Int×Int):Prop:=0≤x.1∧x.1<x.2.1∧x.2.1≤52596000∧ -840≤x.2.2∧x.2.2≤840
theorem Pd{a b o:Int}(i:0≤a)(r:b≤52596000)(ho: -840≤o∧o≤840): ∀x∈zj a b o,Xm x:=by
 intro x hx
 unfold zj at hx
 split at hx
 ·rw[List.mem_singleton.1 hx]
  exact⟨i,by assumption,r,ho⟩
 ·cases hx
theorem Pe{o:Int}(h:xu o=true): -840≤o∧o≤840:=by
 grind [xu]
theorem Pf{A B:Int}(i:0≤A)(D:B≤52596000): ∀(l:List (Int×Int)) (fr o:Int),(-840≤o∧o≤840)→(∀s∈l,xu s.2=true)→ ∀x∈oq A B fr o l,Xm x
 | [],fr,o,ho,hl,x,hx=>by
   rw[oq]at hx
   exact Pd (by omega) (by omega) ho x hx
 |s::r,fr,o,ho,hl,x,hx=>by
  rw[oq,List.mem_append]at hx
  rcases hx with hx|hx
  ·exact Pd (by omega) (by omega) ho x hx
  ·exact Pf i D r s.1 s.2 (Pe (hl s (by simp))) (fun y F=>hl y (by simp[F])) x hx
theorem acy{f t:Int}(hf:0≤f∧f<1440)(ht:0≤t∧t<1440)(hl:kf f t≠0){p q o:Int}(h:p<q):uP (f-o) (kf f t) p q ((p+o)/1440-1) ((q-1+o)/1440-((p+o)/1440-1)+1).toNat=uO (fun x=>nn ((x+o)%1440) f t) p q:=by
 have i:=KX (o:=o) (p:=p) hf ht hl ((p+o)/1440-1) ((q-1+o)/1440-((p+o)/1440-1)+1).toNat (Int.le_refl _) (q-p).toNat (by
  rw[show p+((q-p).toNat:Int)=q by omega]
  omega)
 rw[show p+((q-p).toNat:Int)=q by omega]at i
 rw[i];rfl
theorem rl1{r k n:Nat}(h:r≤40000*k)(hk:k<n)(i:n≤17):r≤1000000:=by omega
theorem rl2{r s N k:Nat}(h:s≤r+N)(i:r≤40000*k)(D:N≤40000):s≤40000*(k+1):=by omega
theorem rl3{r n:Nat}(h:r≤40000*n)(i:n≤17):r≤1000000:=by omega
theorem ai1{p q o:Int}(h:Xm (p,q,o)): -2≤(p+o)/1440∧(q-1+o)/1440≤36527∧(p+o)/1440≤(q-1+o)/1440:=by
 obtain⟨i,r,D,F,H⟩:=h
 grind
theorem as9(L:List (Int×Int×Int))(j:Nat)(D:j<L.length): ∃r,∀kk,lR (lN L.length (BE L)) (.i kk (j:Int)) 3=some (.vp (.i .i64 L[j].1:: .i .i64 L[j].2.1:: .i .i64 L[j].2.2::r)):=by
 have hs:IsSl (lN L.length (BE L)) L.length (BE L):=od fun h=>by rw[List.length_eq_zero_iff.1 h];rfl
 have hlen:(BE L).length=L.length*3:=pJ (sz:=3) (fun _=>rfl) L
 refine⟨BE (L.drop (j+1)),fun kk=> ?_⟩
 rw[hs.ia hlen D]
 have:BE L=BE (L.take j)++BE (L.drop j):=by rw[←O9,List.take_append_drop]
 have Fh:(BE (L.take j)).length=j*3:=by rw[show(BE (L.take j)).length=(L.take j).length*3 from pJ (sz:=3) (fun _=>rfl) _,List.length_take,Nat.min_eq_left (by omega)]
 rw[this,List.drop_append,Fh,Nat.sub_self,List.drop_zero,List.drop_eq_nil_of_le (by omega),List.nil_append,List.drop_eq_getElem_cons D]
 rfl
section
variable(f t A B:Int)(hs:SpB A B f t)(hl:kf f t≠0)(L:List (Int×Int×Int))(hL: ∀x∈L,Xm x)(hLl:L.length≤17)
include hs hl hL hLl
theorem azu(fr:Fr)(lh:iw b8)(sh:List b8)(H:an fr 2= .i .i64 f)(r:an fr 10= .i .i64 (kf f t))(J:an fr 11= .nilsl)(BF:an fr 32=lN L.length (BE L))(D9:an fr 33= .i .i64 (L.length:Int))(HT:an fr 34= .i .i64 0):
  wJ 113 pc fr lh sh (.ext 0)∧
  (∃R,BX (nU pE 113 pc fr lh sh) (an (tD pE 113 pc fr lh sh) 11) R∧zp R∧m6 R=xy (fun x=>nn ((x.1+x.2)%1440) f t) L∧R.length≤1000000∧ow pE 113 pc fr lh sh=sh):=by
 obtain⟨s1,s2,s3,f1,f2,t1,t2⟩:=hs
 have hb:1≤kf f t∧kf f t<1440:=by unfold kf at hl ⊢; omega
 refine ny (fun k st=> ∃(fr:Fr) (lh:iw b8) (R:List (Int×Int)),st=⟨fr,lh,sh⟩∧BX lh (an fr 11) R∧zp R∧m6 R=xy (fun x=>nn ((x.1+x.2)%1440) f t) (L.take k)∧R.length≤40000*k∧an fr 2= .i .i64 f∧an fr 10= .i .i64 (kf f t)∧an fr 32=lN L.length (BE L)∧an fr 33= .i .i64 (L.length:Int)∧an fr 34= .i .i64 (k:Int))
  (fun F iU iX=> ∃R,BX iU (an F 11) R∧zp R∧m6 R=xy (fun x=>nn ((x.1+x.2)%1440) f t) L∧R.length≤1000000∧iX=sh) _ L.length ?_ ?_ fr lh sh ⟨fr,lh,[],rfl,.inl ⟨rfl,J⟩,(fun x hx=>by cases hx),rfl,by simp,H,r,BF,D9,HT⟩
 ·rintro k _ hk ⟨fr,lh,R,rfl,K,O,FC,hlen,H,r,BF,D9,HT⟩
  have iW:(k:Int)<L.length:=by omega
  have hw:=iO (k:=k) (by omega)
  obtain⟨rr,je⟩:=as9 L k hk
  have hx:=hL _ (List.getElem_mem hk)
  have qv:xy (fun x=>nn ((x.1+x.2)%1440) f t) (L.take (k+1))=xy (fun x=>nn ((x.1+x.2)%1440) f t) (L.take k)+uO (fun x=>nn ((x+L[k].2.2)%1440) f t) L[k].1 L[k].2.1:=by
   rw[List.take_succ_eq_append_getElem hk,KY];simp[xy]
  rw[qv]
  generalize L[k]=x at*
  obtain⟨p,q,o⟩:=x
  obtain⟨b1,b2,b3⟩:=ai1 hx
  obtain⟨x1,x2,x3,x4⟩:=hx
  simp only at x1 x2 x3 x4 je ⊢
  have U:=acy (o:=o) ⟨f1,f2⟩ ⟨t1,t2⟩ hl x2
  have w1:wr .i64 (p+o)=p+o:=jw (by omega)
  have w2:wr .i64 (q-1)=q-1:=jw (by omega)
  have w3:wr .i64 (q-1+o)=q-1+o:=jw (by omega)
  have q1:=AR (p+o) (by unfold KT;omega)
  have q2:=AR (q-1+o) (by unfold KT;omega)
  generalize (p+o)/1440=d1 at*
  generalize (q-1+o)/1440=d2 at*
  have w4:wr .i64 (d1-1)=d1-1:=jw (by omega)
  have V:d2=d1-1+((d2-(d1-1)+1).toNat:Int)-1:=by omega
  have W:d1-1+((d2-(d1-1)+1).toNat:Int)≤40000:=by omega
  generalize (d2-(d1-1)+1).toNat=N at*
  have X:N≤40000:=by omega
  generalize (p+o)%1440=e1 at*
  generalize (q-1+o)%1440=e2 at*
  simp only[qA,seval,pc,BF,D9,HT,iW,je,w1,w2,w3,w4,q1,q2,aez]
  generalize hD:DC pE 113 (.loop mX) _=D
  obtain⟨F,iU,R',rfl,r1,r2,r3,r4,I⟩:=as8 ⟨f1,f2⟩ hb ⟨x4.1,x4.2⟩ x1 ⟨x2,x3⟩ R O (rl1 hlen hk hLl) (d1-1) N (by omega) W ((b7 lh 13).g+1) hD (by simp only[qA,seval,H]) (by simp only[qA,seval,r]) (by
   rcases K with⟨e1,e2⟩|⟨R1,y,g',e1,e2,e3⟩
   ·exact .inl ⟨e1,by simp only[qA,seval,e2]⟩
   ·exact .inr ⟨R1,y,g',e1,by simp only[qA,seval,e2],by simp only[qA,seval,e3]⟩) (by simp only[qA,seval]) (by simp only[qA,seval,←V]) (by simp only[qA,seval]) (by simp only[qA,seval])
  have g2:an F 2= .i .i64 f:=by rw[I 2 (by decide)];simp only[qA,seval,H]
  have Y:an F 10= .i .i64 (kf f t):=by rw[I 10 (by decide)];simp only[qA,seval,r]
  have Z:an F 32=lN L.length (BE L):=by rw[I 32 (by decide)];simp only[qA,seval,BF]
  have g33:an F 33= .i .i64 (L.length:Int):=by rw[I 33 (by decide)];simp only[qA,seval,D9]
  have g34:an F 34= .i .i64 (k:Int):=by rw[I 34 (by decide)];simp only[qA,seval,HT]
  rw[U]at r3
  simp only[qA,seval,g34,hw]
  refine mR ⟨_,_,R',rfl,by simp only[qA,seval];exact r1,r2,by rw[r3,FC],rl2 r4 hlen X,by simp only[qA,seval,g2],by simp only[qA,seval,Y],by simp only[qA,seval,Z],by simp only[qA,seval,g33],by simp only[qA,seval]⟩
 ·rintro _ ⟨fr,lh,R,rfl,K,O,FC,hlen,H,r,BF,D9,HT⟩
  rw[List.take_length]at FC
  simp only[qA,seval,pc,D9,HT,Int.lt_irrefl]
  exact oS ⟨rfl,R,by simp only[qA,seval];exact K,O,FC,rl3 hlen hLl,rfl⟩
end
theorem Nc{z:Zo}{A B f t:Int}(hf:0≤f∧f<1440)(ht:0≤t∧t<1440)(h:kf f t=0):z.bandM A B f t=0:=by
 have i: ∀n,sS (fun x=>nn (z.clk x) f t) A n=0:=by
  intro n
  induction n with
  |zero=>rfl
  |succ n ih=>
   rw[sS,ih]
   have e:nn (z.clk (A+n)) f t=false:=by
    have:=KW (m:=A+n+z.off (A+n)) hf ht
    rw[show(A+n+z.off (A+n))%1440=z.clk (A+n)from rfl,h]at this
    grind
   simp[e]
 exact i _
theorem atb{v:T}{R:List (Int×Int)}(h:IsSl v R.length (LW R))(j:Nat)(D:j<R.length): ∃r,∀kk,lR v (.i kk (j:Int)) 2=some (.vp (.i .i64 R[j].1:: .i .i64 R[j].2::r)):=by
 refine⟨LW (R.drop (j+1)),fun kk=> ?_⟩
 rw[h.ia (Cm R) D]
 simp_all[LW,Gu]
theorem HU: ∀{R:List (Int×Int)},zp R→0≤m6 R
 | [],_=>by simp[m6]
 |x::R,h=>by
  have r:=h x (by simp)
  have D:=HU (R:=R) fun y i=>h y (by simp[i])
  grind [m6]
theorem R9{R:List (Int×Int)}(h:zp R)(k:Nat):0≤m6 (R.take k)∧m6 (R.take k)≤m6 R:=by
 have e:m6 R=m6 (R.take k)+m6 (R.drop k):=by rw[←qT,List.take_append_drop]
 have r:=HU (R:=R.take k) fun y i=>h y (List.mem_of_mem_take i)
 have D:=HU (R:=R.drop k) fun y i=>h y (List.mem_of_mem_drop i)
 omega
theorem BX.fz{lh:iw b8}{sh:List b8}{v:T}{R:List (Int×Int)}{m:Nat}(h:BX lh v R): ∃w u,Ev.fzW m lh sh false v=some (w,u)∧IsSl w R.length (LW R)∧Kx sh u=sh:=by
 rcases h with⟨rfl,rfl⟩|⟨R',x,g,rfl,rfl,h⟩
 ·exact⟨.nilsl,[],AJ rfl,.inl ⟨rfl,rfl,rfl⟩,rfl⟩
 ·have hl:=Pc R' (.i .i64 x.1) (.i .i64 x.2)
  refine⟨_,_,by rw[HH,h,tC,if_pos ⟨rfl,by rw[hl];omega⟩],.inr ⟨false, ?_⟩,rfl⟩
  rw[List.drop_zero,List.take_of_length_le (by rw[hl];omega),Pb,List.length_append];rfl
theorem atc{f t A B:Int}{fr:Fr}{lh:iw b8}{sh:List b8}{D:Option (Out×St)}(hs:SpB A B f t)(hl:kf f t≠0)(L:List (Int×Int×Int))(hL: ∀x∈L,Xm x)(hLl:L.length≤17)(J:DC pE 113 (.loop pc) ⟨fr,lh,sh⟩=D)(K:an fr 2= .i .i64 f)(r:an fr 10= .i .i64 (kf f t))(F:an fr 11= .nilsl)(BF:an fr 32=lN L.length (BE L))(D9:an fr 33= .i .i64 (L.length:Int))(HT:an fr 34= .i .i64 0):
  ∃H I R,D=some (.ext 0,⟨H,I,sh⟩)∧BX I (an H 11) R∧zp R∧m6 R=xy (fun x=>nn ((x.1+x.2)%1440) f t) L∧R.length≤1000000∧ ∀s,(j3 (.loop pc)).contains s=false→an H s=an fr s:=by
 obtain⟨e,R,N,O,U,V,W⟩:=azu f t A B hs hl L hL hLl fr lh sh K r F BF D9 HT
 unfold wJ at e;rw[W]at e
 exact⟨_,_,R,J.symm.trans e,N,O,U,V,fun s hs=>lP e s hs⟩
section
variable(z:Zo)(a:T)(hz:ZoT z a)(hv:oD z=0)(A B f t:Int)(hs:SpB A B f t)
include hz hv hs
theorem Xn: ∃v R s,be pE 165 [.agg (E2 z a),.agg [.i .i64 A,.i .i64 B],.i .i64 f,.i .i64 t] []=some (.tup [v,.i .i64 (kf f t)],s)∧IsSl v R.length (LW R)∧zp R∧m6 R=z.bandM A B f t∧R.length≤1000000:=by
 have H:=Xl z a hz (tO hv).2.1 A B _ rfl
 have I:=hs
 obtain⟨K,s2,N,O,U,V,W⟩:=I
 have X:=M9 (f:=f) (t:=t) hv K N
 have Y:=Pf K N z.sh 0 z.o (Pe (tO hv).1) (fun s q=>(Cl (tO hv).2.2 s q).2)
 have hlen:(oq A B 0 z.o z.sh).length≤17:=by
  have Z: ∀(l:List (Int×Int)) (fr o:Int),(oq A B fr o l).length≤l.length+1:=by
   have onZ: ∀p q o:Int,(zj p q o).length≤1:=fun p q o=>by unfold zj;split <;> simp
   intro l
   induction l with
   |nil=>grind [oq]
   |cons s r ih=>grind [oq,List.length_append,List.length_cons]
  grind [tO]
 have mF:lenI (lN (oq A B 0 z.o z.sh).length (BE (oq A B 0 z.o z.sh)))=some (.i .i64 ((oq A B 0 z.o z.sh).length:Int)):=(od (cs:=BE (oq A B 0 z.o z.sh)) fun h=>by rw[List.length_eq_zero_iff.1 h];rfl).lenI
 have S7:wr .i64 (t-f)=t-f:=jw (by omega)
 have GC:wr .i64 (t-f+1440)=t-f+1440:=jw (by omega)
 have F:(t-f+1440).tmod 1440=kf f t:=by unfold kf;exact Int.tmod_eq_emod_of_nonneg (by omega)
 generalize oq A B 0 z.o z.sh=L at*
 obtain⟨cc,ha,hc⟩:=hz
 unfold E2 at H ⊢
 rw[il aev (by simp[QC])]
 by_cases hl:kf f t=0
 ·refine⟨.nilsl,[],[], ?_,.inl ⟨rfl,rfl,rfl⟩,(fun x hx=>by cases hx), ?_,by simp⟩
  ·rw[hl]at F
   simp only[qA,seval,QC,S7,GC,F,hl]
  ·rw[Nc ⟨O,U⟩ ⟨V,W⟩ hl];rfl
 ·simp only[qA,seval,QC,S7,GC,F,hl,H,aqF,mF,ha.froz1]
  generalize hD:DC pE 113 (.loop pc) _=D
  obtain⟨jN,iU,R,rfl,r1,r2,r3,r4,pr⟩:=atc hs hl L Y hlen hD (by simp only[qA,seval]) (by simp only[qA,seval]) (by simp only[qA,seval]) (by simp only[qA,seval]) (by simp only[qA,seval]) (by simp only[qA,seval])
  have J:an jN 10= .i .i64 (kf f t):=by rw[pr 10 (by decide)];simp only[qA,seval]
  obtain⟨w,u,q1,q2,q3⟩:=r1.fz (sh:= []) (m:=6)
  simp only[qA,seval,J,q1]
  grind
omit hz hv hs in
theorem azv(v:T)(R:List (Int×Int))(F:IsSl v R.length (LW R))(D:zp R)(hs:m6 R≤52596000)(hlen:R.length≤1000000)(fr:Fr)(lh:iw b8)(sh:List b8)(r:an fr 13= .i .i64 0)(BF:an fr 32=v)(D9:an fr 33= .i .i64 (R.length:Int))(HT:an fr 34= .i .i64 0):
  wJ 47 vn fr lh sh (.ext 0)∧
  (an (tD pE 47 vn fr lh sh) 13= .i .i64 (m6 R)∧ow pE 47 vn fr lh sh=sh):=by
 refine ny (fun k st=> ∃(fr:Fr) (lh:iw b8),st=⟨fr,lh,sh⟩∧an fr 13= .i .i64 (m6 (R.take k))∧an fr 32=v∧an fr 33= .i .i64 (R.length:Int)∧an fr 34= .i .i64 (k:Int))
  (fun H W I=>an H 13= .i .i64 (m6 R)∧I=sh) _ R.length ?_ ?_ fr lh sh ⟨fr,lh,rfl,r,BF,D9,HT⟩
 ·rintro k _ hk ⟨fr,lh,rfl,r,BF,D9,HT⟩
  have J:(k:Int)<R.length:=by omega
  have K:=pM (k:=k) (by omega)
  obtain⟨X,N⟩:=atb F k hk
  have O:=R9 D (k+1)
  have hx:=D _ (List.getElem_mem hk)
  rw[List.take_succ_eq_append_getElem hk,qT,qU]at O
  rw[List.take_succ_eq_append_getElem hk,qT,qU]
  generalize R[k]=x at*
  generalize m6 (R.take k)=q at*
  have U:wr .i64 (x.2-x.1)=x.2-x.1:=jw (by omega)
  have V:wr .i64 (q+(x.2-x.1))=q+(x.2-x.1):=jw (by omega)
  simp only[qA,seval,vn,r,BF,D9,HT,J,N,K,U,V]
  exact mR ⟨_,_,rfl,by simp only[qA,seval],by simp only[qA,seval,BF],by simp only[qA,seval,D9],by simp only[qA,seval]⟩
 ·rintro _ ⟨fr,lh,rfl,r,BF,D9,HT⟩
  rw[List.take_length]at r
  simp only[qA,seval,vn,D9,HT,Int.lt_irrefl]
  exact oS ⟨rfl,by simp only[qA,seval,r],rfl⟩
theorem ai2:be pE 116 [.agg (E2 z a),.agg [.i .i64 A,.i .i64 B],.i .i64 f,.i .i64 t] []=some (.tup [.i .i64 (z.bandM A B f t),.i .i64 0],[]):=by
 have r:=acw z a hz hv A B f t hs
 obtain⟨v,R,s,D,F,I,H,J⟩:=Xn z a hz hv A B f t hs
 have K:z.bandM A B f t≤52596000:=by
  obtain⟨V,W,X,_⟩:=hs
  have:=HS (fun x=>nn (z.clk x) f t) A (B-A).toNat
  unfold Zo.bandM uO
  omega
 have hL:=fun fr lh sh N BF D9 HT=>azv v R F I (by rw[H];exact K) J fr lh sh N BF D9 HT
 rw[H]at hL
 have O:=F.lenI
 obtain⟨Y,U,hc⟩:=hz
 unfold E2 at r D ⊢
 rw[il Uo (by simp[TF])]
 simp only[qA,seval,TF,r,D,O,hL,U.froz1,aqx,aqy]
end
theorem Xo{α:Type}{f:α→List Nat}: ∀{l:List α},(l.map f).Nodup→ ∀a∈l,∀b∈l,f a=f b→a=b
 | [],_,a,i,_,_,_=>by cases i
 |x::l,h,a,i,b,r,e=>by
  rw[List.map_cons,List.nodup_cons]at h
  rcases List.mem_cons.1 i with p|p <;> rcases List.mem_cons.1 r with q|q
  ·rw[p,q]
  ·exact absurd (List.mem_map.2 ⟨b,q,by rw[←e,p]⟩) h.1
  ·exact absurd (List.mem_map.2 ⟨a,p,by rw[e,q]⟩) h.1
  ·exact Xo h.2 a p b q e
theorem Pg{α:Type}{f:α→List Nat}: ∀{l:List α},(l.map f).Nodup→ ∀a∈l,l.find? (fun x=>f x==f a)=some a:=by
 intro l h a i
 cases hq:l.find? (fun x=>f x==f a)with
 |none=>
  have:=List.find?_eq_none.1 hq a i
  simp at this
 |some b=>
  have r:=List.mem_of_find?_eq_some hq
  have D:=List.find?_some hq
  rw[Xo h b r a i (by simpa using D)]
def zo0:Zo:=⟨[],0,[]⟩
def GK(t:Tt)(s:List Nat):Zo:=match t.ap.find? fun u=>u.cd==s with
 |some u=>(t.zo.find? fun z=>z.nm==u.zn).getD zo0
 |none=>zo0
theorem Xp{t:Tt}(ht:uo t=0){u:Ap}{z:Zo}{s:List Nat}(i:u∈t.ap)(hz:z∈t.zo)(r:u.cd=s)(D:z.nm=u.zn):GK t s=z:=by
 obtain⟨F,_,H,_⟩:=W0 t ht
 subst r
 unfold GK
 rw[Pg H u i]
 simp only
 rw[←D,Pg F z hz];rfl
theorem ai3{t:Tt}(ht:uo t=0){s:List Nat}(hs:s∈t.ap.map Ap.cd): ∃u∈t.ap,u.cd=s∧ ∃z∈t.zo,z.nm=u.zn∧GK t s=z:=by
 obtain⟨_,F,_,_⟩:=Ck t ht
 obtain⟨u,i,r⟩:=List.mem_map.1 hs
 obtain⟨z,hz,D⟩:=List.mem_map.1 (F u i)
 exact⟨u,i,r,z,hz,D,Xp ht i hz r D⟩
theorem HV{t:Tt}(ht:uo t=0){s:List Nat}(hs:s∈t.ap.map Ap.cd):oD (GK t s)=0:=by
 obtain⟨u,_,_,z,hz,_,h⟩:=ai3 ht hs
 rw[h];exact(Ck t ht).1 z hz
theorem azw{t:Tt}(ht:uo t=0){q:List (List Nat×List T)}(hq:RT t.zo t.ap q)(i:q.map Prod.fst=t.ap.map Ap.cd){s:List Nat}(hs:s∈t.ap.map Ap.cd): ∃a,iJ q s=some (E2 (GK t s) a)∧ZoT (GK t s) a:=by
 obtain⟨v,hv⟩:=AV (by rw[i];exact hs)
 obtain⟨u,r,D,z,hz,F,H⟩:=hq _ (zq hv)
 rw[Xp ht r hz D F]
 obtain⟨a,I,e,J,K⟩:=H
 simp only at e
 subst e
 exact⟨a,hv,I,J,K⟩
theorem sU{t:Tt}(ht:uo t=0){f:Fl}(hf:f∈t.fl):f.fr∈t.ap.map Ap.cd∧f.to∈t.ap.map Ap.cd:=by
 have h:=(Ck t ht).2.2.1 f hf
 unfold KP at h
 split at h
 ·cases h
 split at h
 ·cases h
 split at h
 ·cases h
 rename_i q
 split at h
 ·cases h
 rename_i r
 exact⟨by simpa using q,by simpa using r⟩
theorem acz{c:Ct}(h:mI c=0):0≤c.nf∧c.nf≤1439∧0≤c.nt∧c.nt≤1439:=by
 unfold mI at h
 split at h
 ·rename_i q;exact absurd h q
 rename_i g
 have g:mW c=0:=by omega
 unfold mW at g
 split at g
 ·cases g
 rename_i r
 have r:pY c=true:=by simpa using r
 unfold pY at r
 simp only[Bool.and_eq_true,O6]at r
 omega
def xz(c:Ct)(f:Fl):Int:=f.dp-c.rp
def xD(c:Ct)(g:Fl):Int:=g.ar+c.rl
def Sa(t:Tt)(c:Ct)(f g:Fl):Int:=if xz c f<xD c g then(GK t f.fr).bandM (xz c f) (xD c g) c.nf c.nt else 0
def Sb(t:Tt)(c:Ct)(f g:Fl):Int:=max ((GK t f.fr).off (xz c f)-(GK t g.to).off (xD c g)) ((GK t g.to).off (xD c g)-(GK t f.fr).off (xz c f))
def Xq(t:Tt)(c:Ct)(f:Fl):Int:=(GK t f.fr).clk (xz c f)
def Xr(t:Tt)(c:Ct)(g:Fl):Int:=(GK t g.to).clk (xD c g)
theorem Xs{c:Ct}(hc:mI c=0){f g:Fl}(hf:AQ f)(i:AQ g):(1440≤xz c f∧xz c f≤52593120)∧(2880≤xD c g∧xD c g≤52594560)∧wr .i64 (f.dp-c.rp)=xz c f∧wr .i64 (g.ar+c.rl)=xD c g∧wr .i64 (xD c g-xz c f)=xD c g-xz c f:=by
 obtain⟨_,D,F,H,I⟩:=hf
 obtain⟨_,J,K,g3,N⟩:=i
 have r:=Xd c hc
 unfold xz xD
 refine⟨by omega,by omega,jw (by omega),jw (by omega),jw (by omega)⟩
theorem Ph{x:Int}(h:0≤x∧x<52596000):AS x=true:=by unfold AS;simp[h]
section
variable(t:Tt)(c:Ct)(zT aT fT a7 a8 a9 iq iy iv:T)(vs:List T)(hT:uf t zT aT fT)(hC:um c a7 a8 a9 iq iy iv)(hV:FB t c vs)(ht:uo t=0)(hc:mI c=0)
theorem Pj(hV:FB t c vs)(ht:uo t=0){s:List Nat}(hs:s∈t.ap.map Ap.cd): ∃a,be pE 115 [stV c zT aT fT a7 a8 a9 iq iy iv vs,.s s] []=some (.agg (E2 (GK t s) a),[])∧ZoT (GK t s) a:=by
 obtain⟨q,I,J,K,N,O,U,cr,V,rfl,hq,F,_⟩:=hV
 obtain⟨a,hv,D⟩:=azw ht hq F hs
 refine⟨a, ?_,D⟩
 have r:=O0 (kT:=sK) (vT:=T.agg) FD (fun _=>rfl) q s (.agg [.s [],.i .i64 0,.nilsl])
 rw[hv]at r
 change nz _ _ _ (.s s) _ _=_ at r
 obtain⟨W,H,X⟩:=D
 unfold E2 at*
 unfold stV jz
 simp only[List.cons_append,List.nil_append]
 rw[il adY (by simp[TE])]
 simp only[qA,seval,TE,r,H.froz1]
theorem uR(hT:uf t zT aT fT)(i:Nat)(hi:i<t.fl.length): ∃r,be pE 73 [stV c zT aT fT a7 a8 a9 iq iy iv vs,.i .i64 (i:Int)] []=some (.vp (.s t.fl[i].nu:: .s t.fl[i].fr:: .s t.fl[i].to:: .i .i64 t.fl[i].dp:: .i .i64 t.fl[i].ar:: .s t.fl[i].ty:: .i .i64 t.fl[i].n0:: .i .i64 t.fl[i].n1:: .i .i64 t.fl[i].n2::r),[]):=by
 obtain⟨D,F,H⟩:=hT.f
 exact MY zT aT fT (jz c a7 a8 a9 iq iy iv++vs) D t.fl F H i hi
theorem K0(hT:uf t zT aT fT)(ht:uo t=0)(hc:mI c=0)(i j:Nat)(hi:i<t.fl.length)(r:j<t.fl.length):be pE 76 [stV c zT aT fT a7 a8 a9 iq iy iv vs,.i .i64 (i:Int),.i .i64 (j:Int)] []=some (.agg [.i .i64 (xz c t.fl[i]),.i .i64 (xD c t.fl[j])],[]):=by
 obtain⟨J,D⟩:=uR t c zT aT fT a7 a8 a9 iq iy iv vs hT i hi
 obtain⟨K,F⟩:=uR t c zT aT fT a7 a8 a9 iq iy iv vs hT j r
 obtain⟨_,_,H,I,_⟩:=Xs hc ((rZ t ht).1 _ (List.getElem_mem hi)) ((rZ t ht).1 _ (List.getElem_mem r))
 generalize t.fl[i]=f at*
 generalize t.fl[j]=g at*
 generalize xz c f=S at*
 generalize xD c g=E at*
 unfold stV jz at*
 simp only[List.cons_append,List.nil_append]at*
 rw[il agY (by simp[c76])]
 simp only[qA,seval,jG,iE,c76,D,F,H,I,Fb,apL]
theorem Xt(hT:uf t zT aT fT)(hV:FB t c vs)(ht:uo t=0)(hc:mI c=0)(i j:Nat)(hi:i<t.fl.length)(V:j<t.fl.length)(x0 x1 x2 x3 x4 x5 x6 x7 x8 x9 W:T):
  be pE 75 [stV c zT aT fT a7 a8 a9 iq iy iv vs,.isl .S 0 1 0 11 1,.i .i64 (i:Int),.i .i64 (j:Int)] [⟨1,.cells [x0,x1,x2,x3,x4,x5,x6,x7,x8,x9,W] 0 false⟩]=some (.tup [],[⟨1,.cells [x0,x1,x2,x3,.i .i64 (xD c t.fl[j]-xz c t.fl[i]),.i .i64 (Sa t c t.fl[i] t.fl[j]),x6,x7,.i .i64 (Sb t c t.fl[i] t.fl[j]),.i .i64 (Xq t c t.fl[i]),.i .i64 (Xr t c t.fl[j])] 0 false⟩]):=by
 have F:=K0 t c zT aT fT a7 a8 a9 iq iy iv vs hT ht hc i j hi V
 obtain⟨r1,h1⟩:=uR t c zT aT fT a7 a8 a9 iq iy iv vs hT i hi
 obtain⟨r2,h2⟩:=uR t c zT aT fT a7 a8 a9 iq iy iv vs hT j V
 have hf:=List.getElem_mem hi
 have X:=List.getElem_mem V
 obtain⟨b1,b2,_,_,w3⟩:=Xs hc ((rZ t ht).1 _ hf) ((rZ t ht).1 _ X)
 obtain⟨Y,H,r⟩:=Pj t c zT aT fT a7 a8 a9 iq iy iv vs hV ht (sU ht hf).1
 obtain⟨zb,I,D⟩:=Pj t c zT aT fT a7 a8 a9 iq iy iv vs hV ht (sU ht X).2
 have U:=HV ht (sU ht hf).1
 have Z:=HV ht (sU ht X).2
 have nf:=acz hc
 have i1:=Ph (x:=xz c t.fl[i]) (by omega)
 have i2:=Ph (x:=xD c t.fl[j]) (by omega)
 have o1:=xw _ Y r U _ i1
 have o2:=xw _ zb D Z _ i2
 have l1:=KU _ Y r U _ i1
 have l2:=KU _ zb D Z _ i2
 have d1:=Zo.off_bd U (xz c t.fl[i])
 have d2:=Zo.off_bd Z (xD c t.fl[j])
 have bm:xz c t.fl[i]<xD c t.fl[j]→_:=fun h=>ai2 _ Y r U (xz c t.fl[i]) (xD c t.fl[j]) c.nf c.nt ⟨by omega,by omega,by omega,by omega,by omega,by omega,by omega⟩
 have J:=r.choose_spec.1.froz1
 have K:=D.choose_spec.1.froz1
 have ca:=r.choose_spec.1.cells
 have cb:=D.choose_spec.1.cells
 unfold Sa Sb Xq Xr
 generalize t.fl[i]=f at*
 generalize t.fl[j]=g at*
 generalize xz c f=S at*
 generalize xD c g=E at*
 generalize GK t f.fr=N at*
 generalize GK t g.to=O at*
 have w4:wr .i64 (N.off S-O.off E)=N.off S-O.off E:=jw (by omega)
 have w5:wr .i64 (O.off E-N.off S)=O.off E-N.off S:=jw (by omega)
 generalize N.off S=p1 at*
 generalize O.off E=p2 at*
 have FE:=qS c zT aT fT a7 a8 a9 iq iy iv vs
 have hkv:kept (stV c zT aT fT a7 a8 a9 iq iy iv vs)=true:=nr rfl
 unfold E2 at*
 rw[il agX (by simp[c75])]
 by_cases nR:S<E
 ·have bm:=bm nR
  have xe:0<E-S:=by omega
  rw[if_pos nR]
  unfold stV jz at*
  simp only[List.cons_append,List.nil_append]at*
  simp only[qA,seval,jG,iE,jm,c75,F,h1,h2,H,I,w3,w4,w5,xe,bm,o1,o2,l1,l2,zk,zl,J,K,BD,pN,lz,Fb,agZ,adZ,ad0,ad1,Uq,ad4]
  rfl
 ·have xe: ¬0<E-S:=by omega
  rw[if_neg nR]
  unfold stV jz at*
  simp only[List.cons_append,List.nil_append]at*
  simp only[qA,seval,jG,iE,jm,c75,F,h1,h2,H,I,w3,w4,w5,xe,o1,o2,l1,l2,zk,zl,J,K,Fb,agZ,adZ,ad0,ad1,Uq,ad4]
  rfl
end
end Go.Proofs.YtcpceiclnbmgiaaGreat
namespace Go.Ev
open Go
theorem Pk{E:Env}{call:pU}{n:Nat}{fr:Fr}{lh:iw b8}{sh:List b8}{i:List dy}{d bytes:Nat}{z:List T}{x:iF}(r:d<n):dE E call n (⟨some d,.mksl z bytes x true,none⟩::i) ⟨fr,lh,sh⟩=
  (Mz (rd fr x) bytes).bind fun m=>dE E call n i ⟨kg fr d (.isl .S sh.length 1 0 m z.length),lh,iH sh sh.length ⟨1,.cells (repl z m) 0 (UD z)⟩⟩:=by
 rw[pG (by rfl) (show EZ n (some d)from r)]
 unfold one Mz
 simp only[jk]
 cases asNat (rd fr x)with
 |none=>rfl
 |some m=>
  simp only[Bool.and_eq_true,decide_eq_true_eq]
  split <;> rfl
end Go.Ev
namespace Go.Proofs.YtcpceiclnbmgiaaGreat
open Go Go.Ev
structure Cn where
 lg:Int
 hd:Int
 bk:Int
 lo:Int
 so:Int
 ks:List (List Nat)
def cn0:Cn:=⟨0,0,0,0,1440,[]⟩
def adK(s:List Nat)(l:List (List Nat)):List (List Nat):=if s∈l then l else l++ [s]
def cnT(f:Fl)(h:Bool)(s:Cn):Cn:=if h=true then{s with hd:=s.hd+1}else{s with lg:=s.lg+1,bk:=s.bk+(f.ar-f.dp),ks:=adK f.ty s.ks}
def cnG(g f:Fl)(s:Cn):Cn:={s with lo:=max s.lo (f.dp-g.ar),so:=min s.so (f.dp-g.ar)}
def tkG(d:List (Int×Bool))(k:Nat):Int×Bool:=d.getD k (0,false)
def l8(i:List Fl)(d:List (Int×Bool))(k:Nat):Fl:=flG i (tkG d k).1
def BG(i:List Fl)(d:List (Int×Bool)):Nat→Cn
 |0=>cn0
 |k+1=>if k=0 then cnT (l8 i d k) (tkG d k).2 (BG i d k)else cnG (l8 i d (k-1)) (l8 i d k) (cnT (l8 i d k) (tkG d k).2 (BG i d k))
def HW(k:Nat)(s:Cn):Prop:=(0≤s.lg∧s.lg≤k)∧(0≤s.hd∧s.hd≤k)∧(0≤s.bk∧s.bk≤1440*k)∧(0≤s.lo∧s.lo≤52593120)∧(-52593120≤s.so∧s.so≤1440)∧s.ks.length≤k
theorem ai4:HW 0 cn0:=by unfold HW cn0;simp
theorem Xu{f:Fl}(hf:AQ f){h:Bool}{k:Nat}{s:Cn}(hs:HW k s):HW (k+1) (cnT f h s):=by
 obtain⟨_,i,r,D,F⟩:=hf
 grind [adK,HW,cnT]
theorem Xv{f g:Fl}(hf:AQ f)(i:AQ g): -52593120≤f.dp-g.ar∧f.dp-g.ar≤52593120:=by
 obtain⟨_,r,D,F,H⟩:=hf
 obtain⟨_,I,J,g3,K⟩:=i
 omega
theorem ai5{f g:Fl}(hf:AQ f)(i:AQ g){k:Nat}{s:Cn}(hs:HW k s):HW k (cnG g f s):=by
 have:=Xv hf i
 grind [HW,cnG]
theorem Xw{d:List (Int×Bool)}{k:Nat}(hk:k<d.length):tkG d k=d[k]:=by grind [tkG]
theorem sa{r:List Fl}(F: ∀f∈r,AQ f){d:List (Int×Bool)}(D: ∀k∈d,xq r.length k.1=true){k:Nat}(hk:k<d.length): ∃i:Nat,∃hi:i<r.length,d[k].1=i∧l8 r d k=r[i]∧AQ (l8 r d k):=by
 obtain⟨i,hi,e⟩:=xt (D _ (List.getElem_mem hk))
 grind [l8,Xw,aiV]
theorem Nd{i:List Fl}(r: ∀f∈i,AQ f){d:List (Int×Bool)}(D: ∀k∈d,xq i.length k.1=true): ∀k,k≤d.length→HW k (BG i d k)
 |0,_=>ai4
 |k+1,h=>by
  have ih:=Nd r D k (by omega)
  obtain⟨_,_,_,_,F⟩:=sa r D (k:=k) (by omega)
  rw[BG]
  split
  ·exact Xu F ih
  ·obtain⟨_,_,_,_,H⟩:=sa r D (k:=k-1) (by omega)
   exact ai5 F H (Xu F ih)
theorem atg(s:List Nat)(l:List (List Nat))(a:T)(N:IsSl a l.length (l.map T.s))(hlen:l.length≤1000)(r:Int)(hr:r=ixA s l 0)(o:Out)(ho:o=if r<0 then .ext 0 else .ret)(fr:Fr)(lh:iw b8)(sh:List b8)(F:an fr 0=a)(H:an fr 1= .s s)(D:an fr 7= .i .i64 (l.length:Int))(I:an fr 8= .i .i64 0):
  wJ 19 vi fr lh sh o∧
  ((¬r<0→an (tD pE 19 vi fr lh sh) 4= .i .i64 r)∧ow pE 19 vi fr lh sh=sh):=by
 refine ny (fun k st=> ∃(fr:Fr) (lh:iw b8),st=⟨fr,lh,sh⟩∧r=ixA s (l.drop k) k∧an fr 0=a∧an fr 1= .s s∧an fr 7= .i .i64 (l.length:Int)∧an fr 8= .i .i64 (k:Int))
  (fun O X U=>(¬r<0→an O 4= .i .i64 r)∧U=sh) _ l.length ?_ ?_ fr lh sh ⟨fr,lh,rfl,hr,F,H,D,I⟩
 ·rintro k _ hk ⟨fr,lh,rfl,hr,F,H,D,I⟩
  have V:(k:Int)<l.length:=by omega
  have W:=iO (k:=k) (by omega)
  have J: ∃K,∀kk,lR a (.i kk (k:Int)) 1=some (.vp (.s l[k]::K)):=by
   refine⟨(l.map T.s).drop (k+1),fun kk=> ?_⟩
   rw[N.ia (sz:=1) (by simp) hk,Nat.mul_one,List.drop_eq_getElem_cons (by simpa using hk),List.getElem_map]
  obtain⟨K,J⟩:=J
  rw[List.drop_eq_getElem_cons hk,ixA]at hr
  generalize l[k]=y at*
  simp only[qB,seval,vi,F,H,D,I,V,J,W]
  refine DV (fun h=> ?_) (fun h=> ?_)
  ·rw[if_pos h.symm]at hr
   exact AM ⟨by rw[ho,if_neg (by omega)],fun _=>(by simp only[qA,seval,hr]),rfl⟩
  ·rw[if_neg (fun e=>h e.symm)]at hr
   exact mR ⟨_,_,rfl,hr,by simp only[qA,seval,F],by simp only[qA,seval,H],by simp only[qA,seval,D],by simp only[qA,seval]⟩
 ·rintro _ ⟨fr,lh,rfl,hr,F,H,D,I⟩
  rw[List.drop_length,ixA]at hr
  simp only[qA,seval,vi,D,I,Int.lt_irrefl]
  grind [oS]
theorem HX(s:List Nat)(l:List (List Nat))(a:T)(r:IsSl a l.length (l.map T.s))(hlen:l.length≤1000):be pE 74 [a,.s s] []=some (.b (decide (s∈l)),[]):=by
 have hL:=fun fr lh sh H I J K=>atg s l a r hlen _ rfl _ rfl fr lh sh H I J K
 have D:=Xx s l 0
 have KF:=Pl s l 0
 have F:be pE 114 [a,.s s] []=some (.i .i64 (ixA s l 0),[]):=by
  rw[il adX (by simp[Qq])]
  generalize ixA s l 0=v at*
  by_cases h:v<0
  ·have e:=D h
   subst e
   simp only[qA,seval,Qq,hL,r.lenI]
  ·simp only[h,if_false,not_false_eq_true,forall_const]at hL
   simp only[qA,seval,Qq,hL,r.lenI]
 have N:decide (s∈l)=decide (0≤ixA s l 0):=by
  grind
 rw[N]
 rw[il apM (by simp[c74])]
 generalize ixA s l 0=v at*
 simp only[qA,seval,c74,F,r.froz,aql]
end Go.Proofs.YtcpceiclnbmgiaaGreat
