/- Walks of functions of the program and of the reference, and their plain laws, part 12. Conditions: the theorems' own. -/
import Derived.Test.YtcpceiclnbmgiaaGreatM11
import Derived.KernelRfl
set_option maxRecDepth 100000
set_option linter.unusedSimpArgs false
set_option linter.unusedVariables false
set_option maxHeartbeats 16000000
namespace Go.Proofs.YtcpceiclnbmgiaaGreat
open Go Go.Ev
theorem zE{a b:Int}:(if b>a then b else a)=max a b:=by rw[Int.max_def];split <;> split <;> omega
theorem zF{a b:Int}:(if b<a then b else a)=min a b:=by rw[Int.min_def];split <;> split <;> omega
theorem m6{lh:iq b8}{sh:List b8}{v:T}{k n sz bytes:Nat}{cs:List T}(h:jG lh v k sz n cs)(i:List T)(r:i.length=sz)(hr:(n+1)*bytes≤roomy)(ex:Bool):
  appW lh sh k sz bytes v (.sl i 1 ex)=some (nxV lh sh k sz bytes v (.sl i 1 ex),WS lh sh k sz bytes v (.sl i 1 ex))∧jG (WS lh sh k sz bytes v (.sl i 1 ex)) (nxV lh sh k sz bytes v (.sl i 1 ex)) k sz (n+1) (cs++i)∧ ∀j,j≠k→b7 (WS lh sh k sz bytes v (.sl i 1 ex)) j=b7 lh j:=
 jG.appW h (m:=0) (by rw[M0,if_pos (by omega)]) (by omega) hr
def BR(l:List (Int×Int×Int)):List T:=l.flatMap fun x=> [.i .i64 x.1,.i .i64 x.2.1,.i .i64 x.2.2]
theorem Pv(a b:List (Int×Int×Int)):BR (a++b)=BR a++BR b:=by unfold BR;rw[List.flatMap_append]
theorem Pw(p q o:Int)(l:List (Int×Int×Int)):BR l++ [.i .i64 p,.i .i64 q,.i .i64 o]=BR (l++ [(p,q,o)]):=by rw[Pv];rfl
section
variable(z:Zo)(a:T)(hz:ZoT z a)(hlen:z.sh.length≤16)(A B:Int)
def ub(z:Zo)(A B i r:Int)(k:Nat):List (Int×Int×Int):=if k≤z.sh.length then oC A B i r (z.sh.drop k)else []
theorem So{i r:Int}{k:Nat}(hk:k<z.sh.length):ub z A B i r k=zD (max i A) (min z.sh[k].1 B) r++ub z A B z.sh[k].1 z.sh[k].2 (k+1):=by
 unfold ub
 rw[if_pos (by omega),if_pos (by omega),List.drop_eq_getElem_cons hk,oC]
theorem NA{i r:Int}:ub z A B i r z.sh.length=zD (max i A) (min 52596000 B) r:=by
 unfold ub
 rw[if_pos (by omega),List.drop_length,oC]
theorem vf{i r:Int}:ub z A B i r (z.sh.length+1)= []:=by
 unfold ub
 rw[if_neg (by omega)]
include hz hlen
theorem azO(fr:Fr)(lh:iq b8)(sh:List b8)(H:an fr 2= .ptr .L 2 1 0)(I:an fr 3= .ptr .L 3 1 0)(W:an fr 5= .nilsl)(U:an fr 6= .i .i64 0)(V:an fr 7= .i .i64 z.o)(X:an fr 8= .i .i64 0)(F:b7 lh 2=⟨1,.cells (Fg z a) 0 true⟩)(J:b7 lh 3=⟨1,.cells [.i .i64 A,.i .i64 B] 0 true⟩):
  wS 63 rz fr lh sh (.ext 0)∧
  (jG (n5 pE 63 rz fr lh sh) (an (tO pE 63 rz fr lh sh) 5) 49 3 (oC A B 0 z.o z.sh).length (BR (oC A B 0 z.o z.sh))∧(oC A B 0 z.o z.sh).length≤17∧oH pE 63 rz fr lh sh=sh):=by
 obtain⟨cc,Z,hc⟩:=hz
 unfold Fg at F
 refine nH (fun k st=> ∃(fr:Fr) (lh:iq b8) (K N:Int) (L:List (Int×Int×Int)),st=⟨fr,lh,sh⟩∧an fr 2= .ptr .L 2 1 0∧an fr 3= .ptr .L 3 1 0∧an fr 6= .i .i64 K∧an fr 7= .i .i64 N∧an fr 8= .i .i64 (k:Int)∧b7 lh 2=⟨1,.cells [.s z.nm,.i .i64 z.o,a] 0 true⟩∧b7 lh 3=⟨1,.cells [.i .i64 A,.i .i64 B] 0 true⟩∧jG lh (an fr 5) 49 3 L.length (BR L)∧L.length≤k∧L++ub z A B K N k=oC A B 0 z.o z.sh)
  (fun jO iR iT=>jG iR (an jO 5) 49 3 (oC A B 0 z.o z.sh).length (BR (oC A B 0 z.o z.sh))∧(oC A B 0 z.o z.sh).length≤17∧iT=sh) _ (z.sh.length+1) ?_ ?_ fr lh sh ⟨fr,lh,0,z.o,[],rfl,H,I,U,V,X,F,J,by rw[W];exact jG.nil,by simp,by simp[ub]⟩
 ·rintro k _ hk ⟨fr,lh,K,N,L,rfl,H,I,U,V,X,F,J,O,hL,r⟩
  have iX:(k:Int)≤z.sh.length:=by omega
  have hw:=iN (k:=k) (by omega)
  have D:=fun e:Int=>m6 (sh:=sh) O [.i .i64 (max K A),.i .i64 (min e B),.i .i64 N] rfl (bytes:=24) (by unfold roomy;omega) true
  generalize W:an fr 5=v5 at O D
  by_cases To:k<z.sh.length
  ·have hk2:(k:Int)<z.sh.length:=by omega
   obtain⟨rr,jg⟩:=Ps Z hc To
   rw[So z A B To]at r
   generalize z.sh[k]=s at*
   have D:=D s.1
   have Y:=(D.2.2 2 (by decide)).trans F
   have p3:=(D.2.2 3 (by decide)).trans J
   simp only[qB,seval,repl,rz,H,I,W,U,V,X,F,J,Z.lenI,iX,hk2,jg,hw,zE,zF,O.notS,D.1,Y]
   refine Ed (fun h=> ?_) (fun h=> ?_)
   ·rw[zD,if_pos h]at r
    exact mW ⟨_,_,s.1,s.2,L++ [(max K A,min s.1 B,N)],rfl,by simp only[qA,seval,H],by simp only[qA,seval,I],by simp only[qA,seval],by simp only[qA,seval],by simp only[qA,seval],Y,p3,by simp only[qA,seval];rw[←Pw,List.length_append];exact D.2.1,by simp;omega,by rw[List.append_assoc];exact r⟩
   ·rw[zD,if_neg h,List.nil_append]at r
    exact mW ⟨_,_,s.1,s.2,L,rfl,by simp only[qA,seval,H],by simp only[qA,seval,I],by simp only[qA,seval],by simp only[qA,seval],by simp only[qA,seval],F,J,by simp only[qA,seval,W];exact O,by omega,r⟩
  ·obtain rfl:k=z.sh.length:=by omega
   rw[NA]at r
   have D:=D 52596000
   have Y:=(D.2.2 2 (by decide)).trans F
   have p3:=(D.2.2 3 (by decide)).trans J
   simp only[qB,seval,repl,rz,H,I,W,U,V,X,F,J,Z.lenI,Int.lt_irrefl,Int.le_refl,hw,zE,zF,O.notS,D.1,Y]
   refine Ed (fun h=> ?_) (fun h=> ?_)
   ·rw[zD,if_pos h]at r
    exact mW ⟨_,_,K,N,L++ [(max K A,min 52596000 B,N)],rfl,by simp only[qA,seval,H],by simp only[qA,seval,I],by simp only[qA,seval,U],by simp only[qA,seval,V],by simp only[qA,seval],Y,p3,by simp only[qA,seval];rw[←Pw,List.length_append];exact D.2.1,by simp;omega,by rw[vf,List.append_nil];exact r⟩
   ·rw[zD,if_neg h,List.append_nil]at r
    exact mW ⟨_,_,K,N,L,rfl,by simp only[qA,seval,H],by simp only[qA,seval,I],by simp only[qA,seval,U],by simp only[qA,seval,V],by simp only[qA,seval],F,J,by simp only[qA,seval,W];exact O,by omega,by rw[vf,List.append_nil];exact r⟩
 ·rintro _ ⟨fr,lh,K,N,L,rfl,H,I,U,V,X,F,J,O,hL,r⟩
  rw[vf,List.append_nil]at r
  subst r
  have iX: ¬((z.sh.length+1:Nat):Int)≤z.sh.length:=by omega
  simp only[qA,seval,rz,H,X,F,Z.lenI,iX]
  exact oZ ⟨rfl,(by simp only[qA,seval];exact O),by omega,rfl⟩
theorem XJ(sp:T)(U:sp= .agg [.i .i64 A,.i .i64 B]):be pE 203 [.agg (Fg z a),sp] []=some (lu (oC A B 0 z.o z.sh).length (BR (oC A B 0 z.o z.sh)),[]):=by
 subst U
 have hL:=fun fr lh sh r D F H I J K N=>azO z a hz hlen A B fr lh sh r D F H I J K N
 have V:=fun m keep fr lh sh r D F H I J K N=>jG.fzW (m:=m) (keep:=keep) (sh:=sh) (hL fr lh sh r D F H I J K N).2.1
 have O:=fun keep fr lh sh r D F H I J K N=>jG.fzV (keep:=keep) (sh:=sh) (hL fr lh sh r D F H I J K N).2.1
 obtain⟨W,X,hc⟩:=hz
 unfold Fg at hL V O ⊢
 rw[il aff (by simp[Uz])]
 simp only[qA,seval,Uz,hL,O,Ee]
end
def SpB(A B f t:Int):Prop:=0≤A∧A≤B∧B≤52596000∧0≤f∧f<1440∧0≤t∧t<1440
section
variable(z:Zo)(a:T)(hz:ZoT z a)(hv:oK z=0)(A B f t:Int)(hs:SpB A B f t)
include hz hv hs
theorem acM:be pE 164 [.agg (Fg z a),.agg [.i .i64 A,.i .i64 B],.i .i64 f,.i .i64 t] []=some (.i .i64 0,[]):=by
 obtain⟨H,I,J,K,N,O,U⟩:=hs
 obtain⟨V,r,hc⟩:=hz
 have D:=Ep z a V r hc
 rw[hv]at D
 have W:be pE 201 [.agg [.i .i64 A,.i .i64 B]] []=some (.b true,[]):=by
  rw[il afd (by simp[Ux])]
  simp only[qA,seval,Ux,H,I,J]
 have F: ∀x:Int,0≤x→x<1440→be pE 202 [.i .i64 x] []=some (.b true,[]):=by
  intro x x1 x2
  rw[il afe (by simp[Uy])]
  simp only[qA,seval,Uy,x1,x2]
 have X:=F f K N
 have Y:=F t O U
 unfold Fg
 rw[il aeQ (by simp[Un])]
 simp only[qA,seval,Un,D,W,X,Y,r.froz1,aao,aqX,aqY]
end
def Mk(l:List (Int×Int)):List T:=l.flatMap fun x=> [.i .i64 x.1,.i .i64 x.2]
theorem Px(a b:List (Int×Int)):Mk (a++b)=Mk a++Mk b:=by grind [Mk]
theorem CH(l:List (Int×Int)):(Mk l).length=l.length*2:=pO (sz:=2) (fun _=>rfl) l
def nh(l:List (Int×Int)):Int:=(l.map fun x=>x.2-x.1).sum
theorem qZ(a b:List (Int×Int)):nh (a++b)=nh a+nh b:=by grind [nh]
theorem q9(x:Int×Int):nh [x]=x.2-x.1:=by simp[nh]
def Cb(lh:iq b8)(v:T)(R:List (Int×Int)):Prop:=
 (R= []∧v= .nilsl)∨ ∃R' x g,R=R'++ [x]∧v= .isl .L 109 g 0 (R'.length+1) 2∧b7 lh 109=⟨g,.cells (Mk R'++ [.i .i64 x.1,.i .i64 x.2]) 0 false⟩
def zG(R:List (Int×Int)):Prop:= ∀x∈R,0≤x.1∧x.1≤x.2∧x.2≤52596000
theorem ajs(R:List (Int×Int))(a b:T):(Mk R++ [a,b])[R.length*2+1]? =some b:=by
 grind [CH]
theorem NB(R:List (Int×Int))(a b c:T):splice (Mk R++ [a,b]) (R.length*2+1) [c]=Mk R++ [a,c]:=by
 have i: ∀(cs:List T),splice (cs++ [a,b]) (cs.length+1) [c]=cs++ [a,c]:=by
  intro cs
  induction cs with
  |nil=>rfl
  |cons x cs ih=>rw[List.cons_append,List.length_cons,splice,ih];rfl
 grind [CH]
theorem Py(R:List (Int×Int))(a b:T):(Mk R++ [a,b]).length=R.length*2+2:=by rw[List.length_append,CH];rfl
theorem acN{n:Nat}:((n+1)*2=n*2+2)=True:=by simp;omega
section
variable(f t o p q:Int)(hf:0≤f∧f<1440)(hl:1≤kf f t∧kf f t<1440)(ho: -840≤o∧o≤840)(hp:0≤p)(hq:p<q∧q≤52596000)
include hf hl ho hp hq
theorem azP(R0:List (Int×Int))(hB0:zG R0)(I0:R0.length≤1000000)(lo:Int)(N:Nat)(Pu: -10≤lo)(hN:lo+N≤40000)(g:Nat)(fr:Fr)(lh:iq b8)(sh:List b8)(H:an fr 2= .i .i64 f)(r:an fr 10= .i .i64 (kf f t))(D:Cb lh (an fr 11) R0)(I:an fr 13= .ptr .L 13 g 0)(F:an fr 16= .i .i64 (lo+N-1))(O:an fr 18= .i .i64 lo)(Sq:b7 lh 13=⟨g,.cells [.i .i64 p,.i .i64 q,.i .i64 o] 0 true⟩):
  wS 113 m7 fr lh sh (.ext 2)∧
  (∃R,Cb (n5 pE 113 m7 fr lh sh) (an (tO pE 113 m7 fr lh sh) 11) R∧zG R∧nh R=nh R0+ve (f-o) (kf f t) p q lo N∧R.length≤R0.length+N∧oH pE 113 m7 fr lh sh=sh):=by
 refine nH (fun k st=> ∃(fr:Fr) (lh:iq b8) (R:List (Int×Int)),st=⟨fr,lh,sh⟩∧Cb lh (an fr 11) R∧zG R∧nh R=nh R0+ve (f-o) (kf f t) p q lo k∧R.length≤R0.length+k∧an fr 2= .i .i64 f∧an fr 10= .i .i64 (kf f t)∧an fr 13= .ptr .L 13 g 0∧an fr 16= .i .i64 (lo+N-1)∧an fr 18= .i .i64 (lo+k)∧b7 lh 13=⟨g,.cells [.i .i64 p,.i .i64 q,.i .i64 o] 0 true⟩)
  (fun jO iR iT=> ∃R,Cb iR (an jO 11) R∧zG R∧nh R=nh R0+ve (f-o) (kf f t) p q lo N∧R.length≤R0.length+N∧iT=sh) _ N ?_ ?_ fr lh sh ⟨fr,lh,R0,rfl,D,hB0,by simp[ve],by omega,H,r,I,F,by rw[O];simp,Sq⟩
 ·rintro k _ hk ⟨fr,lh,R,rfl,Z,V,hs,hlen,H,r,I,F,O,Sq⟩
  have W:lo+k≤lo+N-1:=by omega
  have nM:ve (f-o) (kf f t) p q lo (k+1)=ve (f-o) (kf f t) p q lo k+Ny (f-o) (kf f t) p q (lo+k):=rfl
  have w1:wr .i64 (lo+k+1)=lo+((k+1:Nat):Int):=by rw[js (by omega)];omega
  have w2:wr .i64 ((lo+k)*1440)=1440*(lo+k):=by rw[js (by omega)];omega
  have w3:wr .i64 (1440*(lo+k)+f)=1440*(lo+k)+f:=js (by omega)
  have w4:wr .i64 (1440*(lo+k)+f-o)=1440*(lo+k)+(f-o):=by rw[js (by omega)];omega
  have w5:wr .i64 (1440*(lo+k)+(f-o)+kf f t)=1440*(lo+k)+(f-o)+kf f t:=js (by omega)
  rw[nM]
  unfold Ny
  generalize kf f t=len at*
  generalize lo+(k:Int)=d at*
  generalize hS:1440*d+(f-o)=S at*
  have hA:0≤max S p:=by omega
  have hE:min (S+len) q≤52596000:=by omega
  generalize J:max S p=a at*
  generalize OU:min (S+len) q=e at*
  by_cases K:e≤a
  ·rw[if_neg (by omega),Int.add_zero]
   simp only[qA,seval,m7,H,r,I,F,O,Sq,W,w1,w2,w3,w4,w5,J,OU,zE,zF,K]
   exact mW ⟨_,_,R,rfl,by simp only[qA,seval];exact Z,V,hs,by omega,by simp only[qA,seval,H],by simp only[qA,seval,r],by simp only[qA,seval,I],by simp only[qA,seval,F],by simp only[qA,seval],Sq⟩
  ·have azR:a<e:=by omega
   rw[if_pos azR]
   have Ff:(R.length+1)*16≤roomy:=by unfold roomy;omega
   rcases Z with⟨rfl,D⟩|⟨R',x,g',rfl,D,atr⟩
   ·have Ff:16≤roomy:=by unfold roomy;omega
    simp only[qA,seval,appW,repl,m7,H,r,D,I,F,O,Sq,W,w1,w2,w3,w4,w5,J,OU,zE,zF,K,Int.lt_irrefl,Ff]
    refine mW ⟨_,_,[(a,e)],rfl,.inr ⟨[],(a,e),(b7 lh 109).g+1,rfl,by simp only[qA,seval],by simp only[qA,seval];rfl⟩, ?_, ?_,by simp;omega,by simp only[qA,seval,H],by simp only[qA,seval,r],by simp only[qA,seval,I],by simp only[qA,seval,F],by simp only[qA,seval],by simp only[qA,seval,Sq]⟩
    ·intro y hy
     grind
    grind [q9,nh]
   ·rw[List.length_append]at Ff hlen
    simp only[List.length_cons,List.length_nil,Nat.zero_add]at Ff hlen
    have xo:(0:Int)<((R'.length+1:Nat):Int):=by omega
    have X:wr .i64 (((R'.length+1:Nat):Int)-1)=(R'.length:Int):=by rw[js (by omega)];omega
    have kR:=ajs R' (.i .i64 x.1) (.i .i64 x.2)
    have wq:=Py R' (.i .i64 x.1) (.i .i64 x.2)
    have Y:=NB R' (.i .i64 x.1) (.i .i64 x.2) (.i .i64 e)
    have hx:=V x (by simp)
    rw[qZ,q9]at hs
    by_cases U:x.2=a
    ·rw[U]at kR wq Y
     simp only[qA,seval,appW,repl,m7,H,r,D,I,F,O,Sq,atr,W,w1,w2,w3,w4,w5,J,OU,zE,zF,K,xo,X,kR,U,wq,Y,Nat.lt_succ_self,Int.natCast_nonneg]
     refine mW ⟨_,_,R'++ [(x.1,e)],rfl,.inr ⟨R',(x.1,e),g',rfl,by simp only[qA,seval,D],by simp only[qA,seval]⟩, ?_, ?_,by simp;omega,by simp only[qA,seval,H],by simp only[qA,seval,r],by simp only[qA,seval,I],by simp only[qA,seval,F],by simp only[qA,seval],by simp only[qA,seval,Sq]⟩
     ·intro y hy
      rcases List.mem_append.1 hy with hy|hy
      ·exact V y (by simp[hy])
      ·grind
     ·rw[qZ,q9];simp only;omega
    ·simp only[qA,seval,appW,repl,m7,H,r,D,I,F,O,Sq,atr,W,w1,w2,w3,w4,w5,J,OU,zE,zF,K,xo,X,kR,U,wq,Nat.lt_succ_self,Int.natCast_nonneg,acN,Ff]
     refine mW ?_
     refine⟨_,_,R'++ [x]++ [(a,e)],rfl,.inr ⟨R'++ [x],(a,e),g'+1,rfl,by simp only[qA,seval];simp,by simp only[qA,seval];rw[Px];rfl⟩, ?_, ?_,by simp;omega,by simp only[qA,seval,H],by simp only[qA,seval,r],by simp only[qA,seval,I],by simp only[qA,seval,F],by simp only[qA,seval],by simp only[qA,seval,Sq]⟩
     ·intro y hy
      rcases List.mem_append.1 hy with hy|hy
      ·exact V y hy
      ·rw[List.mem_singleton.1 hy];exact⟨hA,by show a≤e;omega,hE⟩
     ·rw[qZ,qZ,q9,q9];simp only;omega
 ·rintro _ ⟨fr,lh,R,rfl,Z,V,hs,hlen,H,r,I,F,O,Sq⟩
  have W: ¬lo+(N:Int)≤lo+N-1:=by omega
  simp only[qA,seval,m7,F,O,W]
  exact oZ ⟨rfl,R,by simp only[qA,seval];exact Z,V,hs,hlen,rfl⟩
end
theorem att{f t o p q:Int}{fr:Fr}{lh:iq b8}{sh:List b8}{D:Option (Out×St)}(hf:0≤f∧f<1440)(hl:1≤kf f t∧kf f t<1440)(ho: -840≤o∧o≤840)(hp:0≤p)(hq:p<q∧q≤52596000)(R0:List (Int×Int))(r:zG R0)(I0:R0.length≤1000000)(lo:Int)(N:Nat)(Pu: -10≤lo)(K:lo+N≤40000)(g:Nat)(O:DC pE 113 (.loop m7) ⟨fr,lh,sh⟩=D)(U:an fr 2= .i .i64 f)(F:an fr 10= .i .i64 (kf f t))(H:Cb lh (an fr 11) R0)(V:an fr 13= .ptr .L 13 g 0)(W:an fr 16= .i .i64 (lo+N-1))(X:an fr 18= .i .i64 lo)(Sq:b7 lh 13=⟨g,.cells [.i .i64 p,.i .i64 q,.i .i64 o] 0 true⟩):
  ∃I J R,D=some (.ext 2,⟨I,J,sh⟩)∧Cb J (an I 11) R∧zG R∧nh R=nh R0+ve (f-o) (kf f t) p q lo N∧R.length≤R0.length+N∧ ∀s,(j2 (.loop m7)).contains s=false→an I s=an fr s:=by
 obtain⟨e,R,Y,Z,r3,r4,r5⟩:=azP f t o p q hf hl ho hp hq R0 r I0 lo N Pu K g fr lh sh U F H V W X Sq
 unfold wS at e;rw[r5]at e
 exact⟨_,_,R,O.symm.trans e,Y,Z,r3,r4,fun s hs=>lS e s hs⟩
def XK(x:Int×Int×Int):Prop:=0≤x.1∧x.1<x.2.1∧x.2.1≤52596000∧ -840≤x.2.2∧x.2.2≤840
theorem Pz{a b o:Int}(i:0≤a)(r:b≤52596000)(ho: -840≤o∧o≤840): ∀x∈zD a b o,XK x:=by
 intro x hx
 unfold zD at hx
 split at hx
 ·rw[List.mem_singleton.1 hx]
  exact⟨i,by assumption,r,ho⟩
 ·cases hx
theorem PA{o:Int}(h:xF o=true): -840≤o∧o≤840:=by
 grind [xF]
theorem PB{A B:Int}(i:0≤A)(D:B≤52596000): ∀(l:List (Int×Int)) (fr o:Int),(-840≤o∧o≤840)→(∀s∈l,xF s.2=true)→ ∀x∈oC A B fr o l,XK x
 | [],fr,o,ho,hl,x,hx=>by
   rw[oC]at hx
   exact Pz (by omega) (by omega) ho x hx
 |s::r,fr,o,ho,hl,x,hx=>by
  rw[oC,List.mem_append]at hx
  rcases hx with hx|hx
  ·exact Pz (by omega) (by omega) ho x hx
  ·exact PB i D r s.1 s.2 (PA (hl s (by simp))) (fun y F=>hl y (by simp[F])) x hx
theorem acO{f t:Int}(hf:0≤f∧f<1440)(ht:0≤t∧t<1440)(hl:kf f t≠0){p q o:Int}(h:p<q):ve (f-o) (kf f t) p q ((p+o)/1440-1) ((q-1+o)/1440-((p+o)/1440-1)+1).toNat=vd (fun x=>nD ((x+o)%1440) f t) p q:=by
 have i:=Ld (o:=o) (p:=p) hf ht hl ((p+o)/1440-1) ((q-1+o)/1440-((p+o)/1440-1)+1).toNat (Int.le_refl _) (q-p).toNat (by
  rw[show p+((q-p).toNat:Int)=q by omega]
  omega)
 rw[show p+((q-p).toNat:Int)=q by omega]at i
 rw[i];rfl
theorem rl1{r k n:Nat}(h:r≤40000*k)(hk:k<n)(i:n≤17):r≤1000000:=by omega
theorem rl2{r s N k:Nat}(h:s≤r+N)(i:r≤40000*k)(D:N≤40000):s≤40000*(k+1):=by omega
theorem rl3{r n:Nat}(h:r≤40000*n)(i:n≤17):r≤1000000:=by omega
theorem ajt{p q o:Int}(h:XK (p,q,o)): -2≤(p+o)/1440∧(q-1+o)/1440≤36527∧(p+o)/1440≤(q-1+o)/1440:=by
 obtain⟨i,r,D,F,H⟩:=h
 grind
theorem atu(L:List (Int×Int×Int))(j:Nat)(D:j<L.length): ∃r,∀kk,lY (lu L.length (BR L)) (.i kk (j:Int)) 3=some (.vp (.i .i64 L[j].1:: .i .i64 L[j].2.1:: .i .i64 L[j].2.2::r)):=by
 have hs:IsSl (lu L.length (BR L)) L.length (BR L):=mV fun h=>by rw[List.length_eq_zero_iff.1 h];rfl
 have hlen:(BR L).length=L.length*3:=pO (sz:=3) (fun _=>rfl) L
 refine⟨BR (L.drop (j+1)),fun kk=> ?_⟩
 rw[hs.ia hlen D]
 have:BR L=BR (L.take j)++BR (L.drop j):=by rw[←Pv,List.take_append_drop]
 have Cm:(BR (L.take j)).length=j*3:=by rw[show(BR (L.take j)).length=(L.take j).length*3 from pO (sz:=3) (fun _=>rfl) _,List.length_take,Nat.min_eq_left (by omega)]
 rw[this,List.drop_append,Cm,Nat.sub_self,List.drop_zero,List.drop_eq_nil_of_le (by omega),List.nil_append,List.drop_eq_getElem_cons D]
 rfl
section
variable(f t A B:Int)(hs:SpB A B f t)(hl:kf f t≠0)(L:List (Int×Int×Int))(hL: ∀x∈L,XK x)(hLl:L.length≤17)
include hs hl hL hLl
theorem azT(fr:Fr)(lh:iq b8)(sh:List b8)(H:an fr 2= .i .i64 f)(r:an fr 10= .i .i64 (kf f t))(J:an fr 11= .nilsl)(BS:an fr 32=lu L.length (BR L))(Es:an fr 33= .i .i64 (L.length:Int))(H6:an fr 34= .i .i64 0):
  wS 113 ph fr lh sh (.ext 0)∧
  (∃R,Cb (n5 pE 113 ph fr lh sh) (an (tO pE 113 ph fr lh sh) 11) R∧zG R∧nh R=xI (fun x=>nD ((x.1+x.2)%1440) f t) L∧R.length≤1000000∧oH pE 113 ph fr lh sh=sh):=by
 obtain⟨s1,s2,s3,f1,f2,t1,t2⟩:=hs
 have hb:1≤kf f t∧kf f t<1440:=by unfold kf at hl ⊢; omega
 refine nH (fun k st=> ∃(fr:Fr) (lh:iq b8) (R:List (Int×Int)),st=⟨fr,lh,sh⟩∧Cb lh (an fr 11) R∧zG R∧nh R=xI (fun x=>nD ((x.1+x.2)%1440) f t) (L.take k)∧R.length≤40000*k∧an fr 2= .i .i64 f∧an fr 10= .i .i64 (kf f t)∧an fr 32=lu L.length (BR L)∧an fr 33= .i .i64 (L.length:Int)∧an fr 34= .i .i64 (k:Int))
  (fun F iR iT=> ∃R,Cb iR (an F 11) R∧zG R∧nh R=xI (fun x=>nD ((x.1+x.2)%1440) f t) L∧R.length≤1000000∧iT=sh) _ L.length ?_ ?_ fr lh sh ⟨fr,lh,[],rfl,.inl ⟨rfl,J⟩,(fun x hx=>by cases hx),rfl,by simp,H,r,BS,Es,H6⟩
 ·rintro k _ hk ⟨fr,lh,R,rfl,K,O,FO,hlen,H,r,BS,Es,H6⟩
  have iX:(k:Int)<L.length:=by omega
  have hw:=iN (k:=k) (by omega)
  obtain⟨rr,jg⟩:=atu L k hk
  have hx:=hL _ (List.getElem_mem hk)
  have qG:xI (fun x=>nD ((x.1+x.2)%1440) f t) (L.take (k+1))=xI (fun x=>nD ((x.1+x.2)%1440) f t) (L.take k)+vd (fun x=>nD ((x+L[k].2.2)%1440) f t) L[k].1 L[k].2.1:=by
   rw[List.take_succ_eq_append_getElem hk,Le];simp[xI]
  rw[qG]
  generalize L[k]=x at*
  obtain⟨p,q,o⟩:=x
  obtain⟨b1,b2,b3⟩:=ajt hx
  obtain⟨x1,x2,x3,x4⟩:=hx
  simp only at x1 x2 x3 x4 jg ⊢
  have U:=acO (o:=o) ⟨f1,f2⟩ ⟨t1,t2⟩ hl x2
  have w1:wr .i64 (p+o)=p+o:=js (by omega)
  have w2:wr .i64 (q-1)=q-1:=js (by omega)
  have w3:wr .i64 (q-1+o)=q-1+o:=js (by omega)
  have q1:=A3 (p+o) (by unfold K9;omega)
  have q2:=A3 (q-1+o) (by unfold K9;omega)
  generalize (p+o)/1440=d1 at*
  generalize (q-1+o)/1440=d2 at*
  have w4:wr .i64 (d1-1)=d1-1:=js (by omega)
  have V:d2=d1-1+((d2-(d1-1)+1).toNat:Int)-1:=by omega
  have W:d1-1+((d2-(d1-1)+1).toNat:Int)≤40000:=by omega
  generalize (d2-(d1-1)+1).toNat=N at*
  have X:N≤40000:=by omega
  generalize (p+o)%1440=e1 at*
  generalize (q-1+o)%1440=e2 at*
  simp only[qA,seval,ph,BS,Es,H6,iX,jg,w1,w2,w3,w4,q1,q2,aeV]
  generalize hD:DC pE 113 (.loop m7) _=D
  obtain⟨F,iR,R',rfl,r1,r2,r3,r4,I⟩:=att ⟨f1,f2⟩ hb ⟨x4.1,x4.2⟩ x1 ⟨x2,x3⟩ R O (rl1 hlen hk hLl) (d1-1) N (by omega) W ((b7 lh 13).g+1) hD (by simp only[qA,seval,H]) (by simp only[qA,seval,r]) (by
   rcases K with⟨e1,e2⟩|⟨R1,y,g',e1,e2,e3⟩
   ·exact .inl ⟨e1,by simp only[qA,seval,e2]⟩
   ·exact .inr ⟨R1,y,g',e1,by simp only[qA,seval,e2],by simp only[qA,seval,e3]⟩) (by simp only[qA,seval]) (by simp only[qA,seval,←V]) (by simp only[qA,seval]) (by simp only[qA,seval])
  have g2:an F 2= .i .i64 f:=by rw[I 2 (by decide)];simp only[qA,seval,H]
  have Y:an F 10= .i .i64 (kf f t):=by rw[I 10 (by decide)];simp only[qA,seval,r]
  have Z:an F 32=lu L.length (BR L):=by rw[I 32 (by decide)];simp only[qA,seval,BS]
  have g33:an F 33= .i .i64 (L.length:Int):=by rw[I 33 (by decide)];simp only[qA,seval,Es]
  have g34:an F 34= .i .i64 (k:Int):=by rw[I 34 (by decide)];simp only[qA,seval,H6]
  rw[U]at r3
  simp only[qA,seval,g34,hw]
  refine mW ⟨_,_,R',rfl,by simp only[qA,seval];exact r1,r2,by rw[r3,FO],rl2 r4 hlen X,by simp only[qA,seval,g2],by simp only[qA,seval,Y],by simp only[qA,seval,Z],by simp only[qA,seval,g33],by simp only[qA,seval]⟩
 ·rintro _ ⟨fr,lh,R,rfl,K,O,FO,hlen,H,r,BS,Es,H6⟩
  rw[List.take_length]at FO
  simp only[qA,seval,ph,Es,H6,Int.lt_irrefl]
  exact oZ ⟨rfl,R,by simp only[qA,seval];exact K,O,FO,rl3 hlen hLl,rfl⟩
end
theorem NC{z:Zo}{A B f t:Int}(hf:0≤f∧f<1440)(ht:0≤t∧t<1440)(h:kf f t=0):z.bandM A B f t=0:=by
 have i: ∀n,tb (fun x=>nD (z.clk x) f t) A n=0:=by
  intro n
  induction n with
  |zero=>rfl
  |succ n ih=>
   rw[tb,ih]
   have e:nD (z.clk (A+n)) f t=false:=by
    have:=Lc (m:=A+n+z.off (A+n)) hf ht
    rw[show(A+n+z.off (A+n))%1440=z.clk (A+n)from rfl,h]at this
    grind
   simp[e]
 exact i _
theorem atw{v:T}{R:List (Int×Int)}(h:IsSl v R.length (Mk R))(j:Nat)(D:j<R.length): ∃r,∀kk,lY v (.i kk (j:Int)) 2=some (.vp (.i .i64 R[j].1:: .i .i64 R[j].2::r)):=by
 refine⟨Mk (R.drop (j+1)),fun kk=> ?_⟩
 rw[h.ia (CH R) D]
 simp_all[Mk,GC]
theorem H7: ∀{R:List (Int×Int)},zG R→0≤nh R
 | [],_=>by simp[nh]
 |x::R,h=>by
  have r:=h x (by simp)
  have D:=H7 (R:=R) fun y i=>h y (by simp[i])
  grind [nh]
theorem Sr{R:List (Int×Int)}(h:zG R)(k:Nat):0≤nh (R.take k)∧nh (R.take k)≤nh R:=by
 have e:nh R=nh (R.take k)+nh (R.drop k):=by rw[←qZ,List.take_append_drop]
 have r:=H7 (R:=R.take k) fun y i=>h y (List.mem_of_mem_take i)
 have D:=H7 (R:=R.drop k) fun y i=>h y (List.mem_of_mem_drop i)
 omega
theorem Cb.fz{lh:iq b8}{sh:List b8}{v:T}{R:List (Int×Int)}{m:Nat}(h:Cb lh v R): ∃w u,Ev.fzW m lh sh false v=some (w,u)∧IsSl w R.length (Mk R)∧KM sh u=sh:=by
 rcases h with⟨rfl,rfl⟩|⟨R',x,g,rfl,rfl,h⟩
 ·exact⟨.nilsl,[],AV rfl,.inl ⟨rfl,rfl,rfl⟩,rfl⟩
 ·have hl:=Py R' (.i .i64 x.1) (.i .i64 x.2)
  refine⟨_,_,by rw[HR,h,tN,if_pos ⟨rfl,by rw[hl];omega⟩],.inr ⟨false, ?_⟩,rfl⟩
  rw[List.drop_zero,List.take_of_length_le (by rw[hl];omega),Px,List.length_append];rfl
theorem atx{f t A B:Int}{fr:Fr}{lh:iq b8}{sh:List b8}{D:Option (Out×St)}(hs:SpB A B f t)(hl:kf f t≠0)(L:List (Int×Int×Int))(hL: ∀x∈L,XK x)(hLl:L.length≤17)(J:DC pE 113 (.loop ph) ⟨fr,lh,sh⟩=D)(K:an fr 2= .i .i64 f)(r:an fr 10= .i .i64 (kf f t))(F:an fr 11= .nilsl)(BS:an fr 32=lu L.length (BR L))(Es:an fr 33= .i .i64 (L.length:Int))(H6:an fr 34= .i .i64 0):
  ∃H I R,D=some (.ext 0,⟨H,I,sh⟩)∧Cb I (an H 11) R∧zG R∧nh R=xI (fun x=>nD ((x.1+x.2)%1440) f t) L∧R.length≤1000000∧ ∀s,(j2 (.loop ph)).contains s=false→an H s=an fr s:=by
 obtain⟨e,R,N,O,U,V,W⟩:=azT f t A B hs hl L hL hLl fr lh sh K r F BS Es H6
 unfold wS at e;rw[W]at e
 exact⟨_,_,R,J.symm.trans e,N,O,U,V,fun s hs=>lS e s hs⟩
section
variable(z:Zo)(a:T)(hz:ZoT z a)(hv:oK z=0)(A B f t:Int)(hs:SpB A B f t)
include hz hv hs
theorem XL: ∃v R s,be pE 165 [.agg (Fg z a),.agg [.i .i64 A,.i .i64 B],.i .i64 f,.i .i64 t] []=some (.tup [v,.i .i64 (kf f t)],s)∧IsSl v R.length (Mk R)∧zG R∧nh R=z.bandM A B f t∧R.length≤1000000:=by
 have H:=XJ z a hz (ua hv).2.1 A B _ rfl
 have I:=hs
 obtain⟨K,s2,N,O,U,V,W⟩:=I
 have X:=Nz (f:=f) (t:=t) hv K N
 have Y:=PB K N z.sh 0 z.o (PA (ua hv).1) (fun s q=>(CG (ua hv).2.2 s q).2)
 have hlen:(oC A B 0 z.o z.sh).length≤17:=by
  have Z: ∀(l:List (Int×Int)) (fr o:Int),(oC A B fr o l).length≤l.length+1:=by
   have onZ: ∀p q o:Int,(zD p q o).length≤1:=fun p q o=>by unfold zD;split <;> simp
   intro l
   induction l with
   |nil=>grind [oC]
   |cons s r ih=>grind [oC,List.length_append,List.length_cons]
  grind [ua]
 have mf:lenI (lu (oC A B 0 z.o z.sh).length (BR (oC A B 0 z.o z.sh)))=some (.i .i64 ((oC A B 0 z.o z.sh).length:Int)):=(mV (cs:=BR (oC A B 0 z.o z.sh)) fun h=>by rw[List.length_eq_zero_iff.1 h];rfl).lenI
 have Ty:wr .i64 (t-f)=t-f:=js (by omega)
 have IZ:wr .i64 (t-f+1440)=t-f+1440:=js (by omega)
 have F:(t-f+1440).tmod 1440=kf f t:=by unfold kf;exact Int.tmod_eq_emod_of_nonneg (by omega)
 generalize oC A B 0 z.o z.sh=L at*
 obtain⟨cc,ha,hc⟩:=hz
 unfold Fg at H ⊢
 rw[il aeR (by simp[QW])]
 by_cases hl:kf f t=0
 ·refine⟨.nilsl,[],[], ?_,.inl ⟨rfl,rfl,rfl⟩,(fun x hx=>by cases hx), ?_,by simp⟩
  ·rw[hl]at F
   simp only[qA,seval,QW,Ty,IZ,F,hl]
  ·rw[NC ⟨O,U⟩ ⟨V,W⟩ hl];rfl
 ·simp only[qA,seval,QW,Ty,IZ,F,hl,H,aqZ,mf,ha.froz1]
  generalize hD:DC pE 113 (.loop ph) _=D
  obtain⟨jO,iR,R,rfl,r1,r2,r3,r4,pr⟩:=atx hs hl L Y hlen hD (by simp only[qA,seval]) (by simp only[qA,seval]) (by simp only[qA,seval]) (by simp only[qA,seval]) (by simp only[qA,seval]) (by simp only[qA,seval])
  have J:an jO 10= .i .i64 (kf f t):=by rw[pr 10 (by decide)];simp only[qA,seval]
  obtain⟨w,u,q1,q2,q3⟩:=r1.fz (sh:= []) (m:=6)
  simp only[qA,seval,J,q1]
  grind
omit hz hv hs in
theorem azU(v:T)(R:List (Int×Int))(F:IsSl v R.length (Mk R))(D:zG R)(hs:nh R≤52596000)(hlen:R.length≤1000000)(fr:Fr)(lh:iq b8)(sh:List b8)(r:an fr 13= .i .i64 0)(BS:an fr 32=v)(Es:an fr 33= .i .i64 (R.length:Int))(H6:an fr 34= .i .i64 0):
  wS 47 vI fr lh sh (.ext 0)∧
  (an (tO pE 47 vI fr lh sh) 13= .i .i64 (nh R)∧oH pE 47 vI fr lh sh=sh):=by
 refine nH (fun k st=> ∃(fr:Fr) (lh:iq b8),st=⟨fr,lh,sh⟩∧an fr 13= .i .i64 (nh (R.take k))∧an fr 32=v∧an fr 33= .i .i64 (R.length:Int)∧an fr 34= .i .i64 (k:Int))
  (fun H W I=>an H 13= .i .i64 (nh R)∧I=sh) _ R.length ?_ ?_ fr lh sh ⟨fr,lh,rfl,r,BS,Es,H6⟩
 ·rintro k _ hk ⟨fr,lh,rfl,r,BS,Es,H6⟩
  have J:(k:Int)<R.length:=by omega
  have K:=pR (k:=k) (by omega)
  obtain⟨X,N⟩:=atw F k hk
  have O:=Sr D (k+1)
  have hx:=D _ (List.getElem_mem hk)
  rw[List.take_succ_eq_append_getElem hk,qZ,q9]at O
  rw[List.take_succ_eq_append_getElem hk,qZ,q9]
  generalize R[k]=x at*
  generalize nh (R.take k)=q at*
  have U:wr .i64 (x.2-x.1)=x.2-x.1:=js (by omega)
  have V:wr .i64 (q+(x.2-x.1))=q+(x.2-x.1):=js (by omega)
  simp only[qA,seval,vI,r,BS,Es,H6,J,N,K,U,V]
  exact mW ⟨_,_,rfl,by simp only[qA,seval],by simp only[qA,seval,BS],by simp only[qA,seval,Es],by simp only[qA,seval]⟩
 ·rintro _ ⟨fr,lh,rfl,r,BS,Es,H6⟩
  rw[List.take_length]at r
  simp only[qA,seval,vI,Es,H6,Int.lt_irrefl]
  exact oZ ⟨rfl,by simp only[qA,seval,r],rfl⟩
theorem aju:be pE 116 [.agg (Fg z a),.agg [.i .i64 A,.i .i64 B],.i .i64 f,.i .i64 t] []=some (.tup [.i .i64 (z.bandM A B f t),.i .i64 0],[]):=by
 have r:=acM z a hz hv A B f t hs
 obtain⟨v,R,s,D,F,I,H,J⟩:=XL z a hz hv A B f t hs
 have K:z.bandM A B f t≤52596000:=by
  obtain⟨V,W,X,_⟩:=hs
  have:=H5 (fun x=>nD (z.clk x) f t) A (B-A).toNat
  unfold Zo.bandM vd
  omega
 have hL:=fun fr lh sh N BS Es H6=>azU v R F I (by rw[H];exact K) J fr lh sh N BS Es H6
 rw[H]at hL
 have O:=F.lenI
 obtain⟨Y,U,hc⟩:=hz
 unfold Fg at r D ⊢
 rw[il UP (by simp[T5])]
 simp only[qA,seval,T5,r,D,O,hL,U.froz1,aqR,aqS]
end
theorem XM{α:Type}{f:α→List Nat}: ∀{l:List α},(l.map f).Nodup→ ∀a∈l,∀b∈l,f a=f b→a=b
 | [],_,a,i,_,_,_=>by cases i
 |x::l,h,a,i,b,r,e=>by
  rw[List.map_cons,List.nodup_cons]at h
  rcases List.mem_cons.1 i with p|p <;> rcases List.mem_cons.1 r with q|q
  ·rw[p,q]
  ·exact absurd (List.mem_map.2 ⟨b,q,by rw[←e,p]⟩) h.1
  ·exact absurd (List.mem_map.2 ⟨a,p,by rw[e,q]⟩) h.1
  ·exact XM h.2 a p b q e
theorem PC{α:Type}{f:α→List Nat}: ∀{l:List α},(l.map f).Nodup→ ∀a∈l,l.find? (fun x=>f x==f a)=some a:=by
 intro l h a i
 cases hq:l.find? (fun x=>f x==f a)with
 |none=>
  have:=List.find?_eq_none.1 hq a i
  simp at this
 |some b=>
  have r:=List.mem_of_find?_eq_some hq
  have D:=List.find?_some hq
  rw[XM h b r a i (by simpa using D)]
def zo0:Zo:=⟨[],0,[]⟩
def GP(t:Tt)(s:List Nat):Zo:=match t.ap.find? fun u=>u.cd==s with
 |some u=>(t.zo.find? fun z=>z.nm==u.zn).getD zo0
 |none=>zo0
theorem XN{t:Tt}(ht:uD t=0){u:Ap}{z:Zo}{s:List Nat}(i:u∈t.ap)(hz:z∈t.zo)(r:u.cd=s)(D:z.nm=u.zn):GP t s=z:=by
 obtain⟨F,_,H,_⟩:=Xo t ht
 subst r
 unfold GP
 rw[PC H u i]
 simp only
 rw[←D,PC F z hz];rfl
theorem ajv{t:Tt}(ht:uD t=0){s:List Nat}(hs:s∈t.ap.map Ap.cd): ∃u∈t.ap,u.cd=s∧ ∃z∈t.zo,z.nm=u.zn∧GP t s=z:=by
 obtain⟨_,F,_,_⟩:=CF t ht
 obtain⟨u,i,r⟩:=List.mem_map.1 hs
 obtain⟨z,hz,D⟩:=List.mem_map.1 (F u i)
 exact⟨u,i,r,z,hz,D,XN ht i hz r D⟩
theorem H8{t:Tt}(ht:uD t=0){s:List Nat}(hs:s∈t.ap.map Ap.cd):oK (GP t s)=0:=by
 obtain⟨u,_,_,z,hz,_,h⟩:=ajv ht hs
 rw[h];exact(CF t ht).1 z hz
theorem azV{t:Tt}(ht:uD t=0){q:List (List Nat×List T)}(hq:Sf t.zo t.ap q)(i:q.map Prod.fst=t.ap.map Ap.cd){s:List Nat}(hs:s∈t.ap.map Ap.cd): ∃a,iJ q s=some (Fg (GP t s) a)∧ZoT (GP t s) a:=by
 obtain⟨v,hv⟩:=A6 (by rw[i];exact hs)
 obtain⟨u,r,D,z,hz,F,H⟩:=hq _ (zH hv)
 rw[XN ht r hz D F]
 obtain⟨a,I,e,J,K⟩:=H
 simp only at e
 subst e
 exact⟨a,hv,I,J,K⟩
theorem tc{t:Tt}(ht:uD t=0){f:Fl}(hf:f∈t.fl):f.fr∈t.ap.map Ap.cd∧f.to∈t.ap.map Ap.cd:=by
 have h:=(CF t ht).2.2.1 f hf
 unfold K3 at h
 split at h
 ·cases h
 split at h
 ·cases h
 split at h
 ·cases h
 rename_i q
 split at h
 ·cases h
 rename_i r
 exact⟨by simpa using q,by simpa using r⟩
theorem acQ{c:Ct}(h:mK c=0):0≤c.nf∧c.nf≤1439∧0≤c.nt∧c.nt≤1439:=by
 unfold mK at h
 split at h
 ·rename_i q;exact absurd h q
 rename_i g
 have g:m5 c=0:=by omega
 unfold m5 at g
 split at g
 ·cases g
 rename_i r
 have r:qe c=true:=by simpa using r
 unfold qe at r
 simp only[Bool.and_eq_true,Pr]at r
 omega
def Ae(c:Ct)(f:Fl):Int:=f.dp-c.rp
def Af(c:Ct)(g:Fl):Int:=g.ar+c.rl
def Ss(t:Tt)(c:Ct)(f g:Fl):Int:=if Ae c f<Af c g then(GP t f.fr).bandM (Ae c f) (Af c g) c.nf c.nt else 0
def Su(t:Tt)(c:Ct)(f g:Fl):Int:=max ((GP t f.fr).off (Ae c f)-(GP t g.to).off (Af c g)) ((GP t g.to).off (Af c g)-(GP t f.fr).off (Ae c f))
def XO(t:Tt)(c:Ct)(f:Fl):Int:=(GP t f.fr).clk (Ae c f)
def XP(t:Tt)(c:Ct)(g:Fl):Int:=(GP t g.to).clk (Af c g)
theorem XQ{c:Ct}(hc:mK c=0){f g:Fl}(hf:A2 f)(i:A2 g):(1440≤Ae c f∧Ae c f≤52593120)∧(2880≤Af c g∧Af c g≤52594560)∧wr .i64 (f.dp-c.rp)=Ae c f∧wr .i64 (g.ar+c.rl)=Af c g∧wr .i64 (Af c g-Ae c f)=Af c g-Ae c f:=by
 obtain⟨_,D,F,H,I⟩:=hf
 obtain⟨_,J,K,g3,N⟩:=i
 have r:=XA c hc
 unfold Ae Af
 refine⟨by omega,by omega,js (by omega),js (by omega),js (by omega)⟩
theorem PD{x:Int}(h:0≤x∧x<52596000):A4 x=true:=by unfold A4;simp[h]
section
variable(t:Tt)(c:Ct)(zT aT fT a7 a8 a9 iv iy iw:T)(vs:List T)(hT:sZ t zT aT fT)(hC:tp c a7 a8 a9 iv iy iw)(hV:H2 t c vs)(ht:uD t=0)(hc:mK c=0)
theorem PE(hV:H2 t c vs)(ht:uD t=0){s:List Nat}(hs:s∈t.ap.map Ap.cd): ∃a,be pE 115 [stV c zT aT fT a7 a8 a9 iv iy iw vs,.s s] []=some (.agg (Fg (GP t s) a),[])∧ZoT (GP t s) a:=by
 obtain⟨q,I,J,K,N,O,U,cr,V,rfl,hq,F,_⟩:=hV
 obtain⟨a,hv,D⟩:=azV ht hq F hs
 refine⟨a, ?_,D⟩
 have r:=Pl (kT:=sK) (vT:=T.agg) FQ (fun _=>rfl) q s (.agg [.s [],.i .i64 0,.nilsl])
 rw[hv]at r
 change nI _ _ _ (.s s) _ _=_ at r
 obtain⟨W,H,X⟩:=D
 unfold Fg at*
 unfold stV jB
 simp only[List.cons_append,List.nil_append]
 rw[il aek (by simp[T4])]
 simp only[qA,seval,T4,r,H.froz1]
theorem vg(hT:sZ t zT aT fT)(i:Nat)(hi:i<t.fl.length): ∃r,be pE 73 [stV c zT aT fT a7 a8 a9 iv iy iw vs,.i .i64 (i:Int)] []=some (.vp (.s t.fl[i].nu:: .s t.fl[i].fr:: .s t.fl[i].to:: .i .i64 t.fl[i].dp:: .i .i64 t.fl[i].ar:: .s t.fl[i].ty:: .i .i64 t.fl[i].n0:: .i .i64 t.fl[i].n1:: .i .i64 t.fl[i].n2::r),[]):=by
 obtain⟨D,F,H⟩:=hT.f
 exact Nt zT aT fT (jB c a7 a8 a9 iv iy iw++vs) D t.fl F H i hi
theorem Lh(hT:sZ t zT aT fT)(ht:uD t=0)(hc:mK c=0)(i j:Nat)(hi:i<t.fl.length)(r:j<t.fl.length):be pE 76 [stV c zT aT fT a7 a8 a9 iv iy iw vs,.i .i64 (i:Int),.i .i64 (j:Int)] []=some (.agg [.i .i64 (Ae c t.fl[i]),.i .i64 (Af c t.fl[j])],[]):=by
 obtain⟨J,D⟩:=vg t c zT aT fT a7 a8 a9 iv iy iw vs hT i hi
 obtain⟨K,F⟩:=vg t c zT aT fT a7 a8 a9 iv iy iw vs hT j r
 obtain⟨_,_,H,I,_⟩:=XQ hc ((sj t ht).1 _ (List.getElem_mem hi)) ((sj t ht).1 _ (List.getElem_mem r))
 generalize t.fl[i]=f at*
 generalize t.fl[j]=g at*
 generalize Ae c f=S at*
 generalize Af c g=E at*
 unfold stV jB at*
 simp only[List.cons_append,List.nil_append]at*
 rw[il ahq (by simp[c76])]
 simp only[qA,seval,jI,iE,c76,D,F,H,I,Fu,ap7]
theorem XS(hT:sZ t zT aT fT)(hV:H2 t c vs)(ht:uD t=0)(hc:mK c=0)(i j:Nat)(hi:i<t.fl.length)(V:j<t.fl.length)(x0 x1 x2 x3 x4 x5 x6 x7 x8 x9 W:T):
  be pE 75 [stV c zT aT fT a7 a8 a9 iv iy iw vs,.isl .S 0 1 0 11 1,.i .i64 (i:Int),.i .i64 (j:Int)] [⟨1,.cells [x0,x1,x2,x3,x4,x5,x6,x7,x8,x9,W] 0 false⟩]=some (.tup [],[⟨1,.cells [x0,x1,x2,x3,.i .i64 (Af c t.fl[j]-Ae c t.fl[i]),.i .i64 (Ss t c t.fl[i] t.fl[j]),x6,x7,.i .i64 (Su t c t.fl[i] t.fl[j]),.i .i64 (XO t c t.fl[i]),.i .i64 (XP t c t.fl[j])] 0 false⟩]):=by
 have F:=Lh t c zT aT fT a7 a8 a9 iv iy iw vs hT ht hc i j hi V
 obtain⟨r1,h1⟩:=vg t c zT aT fT a7 a8 a9 iv iy iw vs hT i hi
 obtain⟨r2,h2⟩:=vg t c zT aT fT a7 a8 a9 iv iy iw vs hT j V
 have hf:=List.getElem_mem hi
 have X:=List.getElem_mem V
 obtain⟨b1,b2,_,_,w3⟩:=XQ hc ((sj t ht).1 _ hf) ((sj t ht).1 _ X)
 obtain⟨Y,H,r⟩:=PE t c zT aT fT a7 a8 a9 iv iy iw vs hV ht (tc ht hf).1
 obtain⟨zb,I,D⟩:=PE t c zT aT fT a7 a8 a9 iv iy iw vs hV ht (tc ht X).2
 have U:=H8 ht (tc ht hf).1
 have Z:=H8 ht (tc ht X).2
 have nf:=acQ hc
 have i1:=PD (x:=Ae c t.fl[i]) (by omega)
 have i2:=PD (x:=Af c t.fl[j]) (by omega)
 have o1:=xG _ Y r U _ i1
 have o2:=xG _ zb D Z _ i2
 have l1:=La _ Y r U _ i1
 have l2:=La _ zb D Z _ i2
 have d1:=Zo.off_bd U (Ae c t.fl[i])
 have d2:=Zo.off_bd Z (Af c t.fl[j])
 have bm:Ae c t.fl[i]<Af c t.fl[j]→_:=fun h=>aju _ Y r U (Ae c t.fl[i]) (Af c t.fl[j]) c.nf c.nt ⟨by omega,by omega,by omega,by omega,by omega,by omega,by omega⟩
 have J:=r.choose_spec.1.froz1
 have K:=D.choose_spec.1.froz1
 have ca:=r.choose_spec.1.cells
 have cb:=D.choose_spec.1.cells
 unfold Ss Su XO XP
 generalize t.fl[i]=f at*
 generalize t.fl[j]=g at*
 generalize Ae c f=S at*
 generalize Af c g=E at*
 generalize GP t f.fr=N at*
 generalize GP t g.to=O at*
 have w4:wr .i64 (N.off S-O.off E)=N.off S-O.off E:=js (by omega)
 have w5:wr .i64 (O.off E-N.off S)=O.off E-N.off S:=js (by omega)
 generalize N.off S=p1 at*
 generalize O.off E=p2 at*
 have Lj:=u9 c zT aT fT a7 a8 a9 iv iy iw vs
 have hkv:kept (stV c zT aT fT a7 a8 a9 iv iy iw vs)=true:=nr rfl
 unfold Fg at*
 rw[il ahp (by simp[c75])]
 by_cases oF:S<E
 ·have bm:=bm oF
  have xo:0<E-S:=by omega
  rw[if_pos oF]
  unfold stV jB at*
  simp only[List.cons_append,List.nil_append]at*
  simp only[qA,seval,jI,iE,jl,c75,F,h1,h2,H,I,w3,w4,w5,xo,bm,o1,o2,l1,l2,zE,zF,J,K,BP,pT,lE,Fu,ahr,ael,aem,aen,UQ,aeq]
  rfl
 ·have xo: ¬0<E-S:=by omega
  rw[if_neg oF]
  unfold stV jB at*
  simp only[List.cons_append,List.nil_append]at*
  simp only[qA,seval,jI,iE,jl,c75,F,h1,h2,H,I,w3,w4,w5,xo,o1,o2,l1,l2,zE,zF,J,K,Fu,ahr,ael,aem,aen,UQ,aeq]
  rfl
end
end Go.Proofs.YtcpceiclnbmgiaaGreat
namespace Go.Ev
open Go
theorem PF{E:Env}{call:qa}{n:Nat}{fr:Fr}{lh:iq b8}{sh:List b8}{i:List dy}{d bytes:Nat}{z:List T}{x:iF}(r:d<n):eb E call n (⟨some d,.mksl z bytes x true,none⟩::i) ⟨fr,lh,sh⟩=
  (MY (rd fr x) bytes).bind fun m=>eb E call n i ⟨kg fr d (.isl .S sh.length 1 0 m z.length),lh,iH sh sh.length ⟨1,.cells (repl z m) 0 (U4 z)⟩⟩:=by
 rw[pL (by rfl) (show Fe n (some d)from r)]
 unfold one MY
 simp only[jk]
 cases asNat (rd fr x)with
 |none=>rfl
 |some m=>
  simp only[Bool.and_eq_true,decide_eq_true_eq]
  split <;> rfl
end Go.Ev
namespace Go.Proofs.YtcpceiclnbmgiaaGreat
open Go Go.Ev
structure Cn where
 lg:Int
 hd:Int
 bk:Int
 lo:Int
 so:Int
 ks:List (List Nat)
def cn0:Cn:=⟨0,0,0,0,1440,[]⟩
def adK(s:List Nat)(l:List (List Nat)):List (List Nat):=if s∈l then l else l++ [s]
def cnT(f:Fl)(h:Bool)(s:Cn):Cn:=if h=true then{s with hd:=s.hd+1}else{s with lg:=s.lg+1,bk:=s.bk+(f.ar-f.dp),ks:=adK f.ty s.ks}
def cnG(g f:Fl)(s:Cn):Cn:={s with lo:=max s.lo (f.dp-g.ar),so:=min s.so (f.dp-g.ar)}
def tkG(d:List (Int×Bool))(k:Nat):Int×Bool:=d.getD k (0,false)
def mA(i:List Fl)(d:List (Int×Bool))(k:Nat):Fl:=flG i (tkG d k).1
def BT(i:List Fl)(d:List (Int×Bool)):Nat→Cn
 |0=>cn0
 |k+1=>if k=0 then cnT (mA i d k) (tkG d k).2 (BT i d k)else cnG (mA i d (k-1)) (mA i d k) (cnT (mA i d k) (tkG d k).2 (BT i d k))
def H9(k:Nat)(s:Cn):Prop:=(0≤s.lg∧s.lg≤k)∧(0≤s.hd∧s.hd≤k)∧(0≤s.bk∧s.bk≤1440*k)∧(0≤s.lo∧s.lo≤52593120)∧(-52593120≤s.so∧s.so≤1440)∧s.ks.length≤k
theorem ajw:H9 0 cn0:=by unfold H9 cn0;simp
theorem XT{f:Fl}(hf:A2 f){h:Bool}{k:Nat}{s:Cn}(hs:H9 k s):H9 (k+1) (cnT f h s):=by
 obtain⟨_,i,r,D,F⟩:=hf
 grind [adK,H9,cnT]
theorem XU{f g:Fl}(hf:A2 f)(i:A2 g): -52593120≤f.dp-g.ar∧f.dp-g.ar≤52593120:=by
 obtain⟨_,r,D,F,H⟩:=hf
 obtain⟨_,I,J,g3,K⟩:=i
 omega
theorem ajx{f g:Fl}(hf:A2 f)(i:A2 g){k:Nat}{s:Cn}(hs:H9 k s):H9 k (cnG g f s):=by
 have:=XU hf i
 grind [H9,cnG]
theorem XV{d:List (Int×Bool)}{k:Nat}(hk:k<d.length):tkG d k=d[k]:=by grind [tkG]
theorem sq{r:List Fl}(F: ∀f∈r,A2 f){d:List (Int×Bool)}(D: ∀k∈d,rS r.length k.1=true){k:Nat}(hk:k<d.length): ∃i:Nat,∃hi:i<r.length,d[k].1=i∧mA r d k=r[i]∧A2 (mA r d k):=by
 obtain⟨i,hi,e⟩:=sk (D _ (List.getElem_mem hk))
 grind [mA,XV,ajn]
theorem ND{i:List Fl}(r: ∀f∈i,A2 f){d:List (Int×Bool)}(D: ∀k∈d,rS i.length k.1=true): ∀k,k≤d.length→H9 k (BT i d k)
 |0,_=>ajw
 |k+1,h=>by
  have ih:=ND r D k (by omega)
  obtain⟨_,_,_,_,F⟩:=sq r D (k:=k) (by omega)
  rw[BT]
  split
  ·exact XT F ih
  ·obtain⟨_,_,_,_,H⟩:=sq r D (k:=k-1) (by omega)
   exact ajx F H (XT F ih)
theorem atC(s:List Nat)(l:List (List Nat))(a:T)(N:IsSl a l.length (l.map T.s))(hlen:l.length≤1000)(r:Int)(hr:r=ixA s l 0)(o:Out)(ho:o=if r<0 then .ext 0 else .ret)(fr:Fr)(lh:iq b8)(sh:List b8)(F:an fr 0=a)(H:an fr 1= .s s)(D:an fr 7= .i .i64 (l.length:Int))(I:an fr 8= .i .i64 0):
  wS 19 vH fr lh sh o∧
  ((¬r<0→an (tO pE 19 vH fr lh sh) 4= .i .i64 r)∧oH pE 19 vH fr lh sh=sh):=by
 refine nH (fun k st=> ∃(fr:Fr) (lh:iq b8),st=⟨fr,lh,sh⟩∧r=ixA s (l.drop k) k∧an fr 0=a∧an fr 1= .s s∧an fr 7= .i .i64 (l.length:Int)∧an fr 8= .i .i64 (k:Int))
  (fun O X U=>(¬r<0→an O 4= .i .i64 r)∧U=sh) _ l.length ?_ ?_ fr lh sh ⟨fr,lh,rfl,hr,F,H,D,I⟩
 ·rintro k _ hk ⟨fr,lh,rfl,hr,F,H,D,I⟩
  have V:(k:Int)<l.length:=by omega
  have W:=iN (k:=k) (by omega)
  have J: ∃K,∀kk,lY a (.i kk (k:Int)) 1=some (.vp (.s l[k]::K)):=by
   refine⟨(l.map T.s).drop (k+1),fun kk=> ?_⟩
   rw[N.ia (sz:=1) (by simp) hk,Nat.mul_one,List.drop_eq_getElem_cons (by simpa using hk),List.getElem_map]
  obtain⟨K,J⟩:=J
  rw[List.drop_eq_getElem_cons hk,ixA]at hr
  generalize l[k]=y at*
  simp only[qB,seval,vH,F,H,D,I,V,J,W]
  refine Ed (fun h=> ?_) (fun h=> ?_)
  ·rw[if_pos h.symm]at hr
   exact AY ⟨by rw[ho,if_neg (by omega)],fun _=>(by simp only[qA,seval,hr]),rfl⟩
  ·rw[if_neg (fun e=>h e.symm)]at hr
   exact mW ⟨_,_,rfl,hr,by simp only[qA,seval,F],by simp only[qA,seval,H],by simp only[qA,seval,D],by simp only[qA,seval]⟩
 ·rintro _ ⟨fr,lh,rfl,hr,F,H,D,I⟩
  rw[List.drop_length,ixA]at hr
  simp only[qA,seval,vH,D,I,Int.lt_irrefl]
  grind [oZ]
theorem Ia(s:List Nat)(l:List (List Nat))(a:T)(r:IsSl a l.length (l.map T.s))(hlen:l.length≤1000):be pE 74 [a,.s s] []=some (.b (decide (s∈l)),[]):=by
 have hL:=fun fr lh sh H I J K=>atC s l a r hlen _ rfl _ rfl fr lh sh H I J K
 have D:=XW s l 0
 have KU:=PG s l 0
 have F:be pE 114 [a,.s s] []=some (.i .i64 (ixA s l 0),[]):=by
  rw[il aej (by simp[QK])]
  generalize ixA s l 0=v at*
  by_cases h:v<0
  ·have e:=D h
   subst e
   simp only[qA,seval,QK,hL,r.lenI]
  ·simp only[h,if_false,not_false_eq_true,forall_const]at hL
   simp only[qA,seval,QK,hL,r.lenI]
 have N:decide (s∈l)=decide (0≤ixA s l 0):=by
  grind
 rw[N]
 rw[il ap8 (by simp[c74])]
 generalize ixA s l 0=v at*
 simp only[qA,seval,c74,F,r.froz,aqF]
end Go.Proofs.YtcpceiclnbmgiaaGreat
