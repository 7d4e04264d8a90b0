/- Walks of functions of the program and of the reference, and their plain laws, part 17. Conditions: the theorems' own. -/
import Derived.Test.YtcpceiclnbmgiaaGreatGS
import Derived.Test.YtcpceiclnbmgiaaGreatM6
import Derived.Test.YtcpceiclnbmgiaaGreatM16
import Derived.KernelRfl
set_option maxRecDepth 100000
set_option linter.unusedSimpArgs false
set_option linter.unusedVariables false
set_option maxHeartbeats 16000000
namespace Go.Proofs.YtcpceiclnbmgiaaGreat
open Go Go.Ev
def KS(l:List (Int×Int)):List T:=l.flatMap fun x=> [.i .i64 x.1,.i .i64 x.2]
theorem OI(a b:List (Int×Int)):KS (a++b)=KS a++KS b:=by grind [KS]
theorem Aa(l:List (Int×Int)):(KS l).length=l.length*2:=jA (sz:=2) (fun _=>rfl) l
def iB(l:List (Int×Int)):Int:=(l.map fun x=>x.2-x.1).sum
theorem mj(a b:List (Int×Int)):iB (a++b)=iB a+iB b:=by grind [iB]
theorem ml(x:Int×Int):iB [x]=x.2-x.1:=by simp[iB]
def yJ(lh:aB ah)(v:T)(R:List (Int×Int)):Prop:=
 (R= []∧v= .nilsl)∨ ∃R' x g,R=R'++ [x]∧v= .isl .L 109 g 0 (R'.length+1) 2∧ab lh 109=⟨g,.cells (KS R'++ [.i .i64 x.1,.i .i64 x.2]) 0 false⟩
def vI(R:List (Int×Int)):Prop:= ∀x∈R,0≤x.1∧x.1≤x.2∧x.2≤52596000
theorem amU(R:List (Int×Int))(a b:T):(KS R++ [a,b])[R.length*2+1]? =some b:=by
 grind [Aa]
theorem Ml(R:List (Int×Int))(a b c:T):splice (KS R++ [a,b]) (R.length*2+1) [c]=KS R++ [a,c]:=by
 have r: ∀(cs:List T),splice (cs++ [a,b]) (cs.length+1) [c]=cs++ [a,c]:=by
  intro cs
  induction cs with
  |nil=>rfl
  |cons x cs ih=>rw[List.cons_append,List.length_cons,splice,ih];rfl
 grind [Aa]
theorem OJ(R:List (Int×Int))(a b:T):(KS R++ [a,b]).length=R.length*2+2:=by rw[List.length_append,Aa];rfl
theorem afs{n:Nat}:((n+1)*2=n*2+2)=True:=by simp;omega
section
variable(f t o p q:Int)(hf:0≤f∧f<1440)(hl:1≤cZ f t∧cZ f t<1440)(ho: -840≤o∧o≤840)(hp:0≤p)(hq:p<q∧q≤52596000)
include hf hl ho hp hq
theorem aGj(R0:List (Int×Int))(hB0:vI R0)(HI:R0.length≤1000000)(lo:Int)(N:Nat)(hlo: -10≤lo)(hN:lo+N≤40000)(g:Nat)(fr:Fr)(lh:aB ah)(sh:List ah)(h2:aa fr 2= .i .i64 f)(r:aa fr 10= .i .i64 (cZ f t))(D:yJ lh (aa fr 11) R0)(I:aa fr 13= .ptr .L 13 g 0)(H:aa fr 16= .i .i64 (lo+N-1))(O:aa fr 18= .i .i64 lo)(RQ:ab lh 13=⟨g,.cells [.i .i64 p,.i .i64 q,.i .i64 o] 0 true⟩):
  mI 113 iu fr lh sh (.ext 2)∧
  (∃R,yJ (iy pE 113 iu fr lh sh) (aa (kR pE 113 iu fr lh sh) 11) R∧vI R∧iB R=iB R0+re (f-o) (cZ f t) p q lo N∧R.length≤R0.length+N∧iF pE 113 iu fr lh sh=sh):=by
 refine dJ (fun k st=> ∃(fr:Fr) (lh:aB ah) (R:List (Int×Int)),st=⟨fr,lh,sh⟩∧yJ lh (aa fr 11) R∧vI R∧iB R=iB R0+re (f-o) (cZ f t) p q lo k∧R.length≤R0.length+k∧aa fr 2= .i .i64 f∧aa fr 10= .i .i64 (cZ f t)∧aa fr 13= .ptr .L 13 g 0∧aa fr 16= .i .i64 (lo+N-1)∧aa fr 18= .i .i64 (lo+k)∧ab lh 13=⟨g,.cells [.i .i64 p,.i .i64 q,.i .i64 o] 0 true⟩)
  (fun bE aZ aY=> ∃R,yJ aZ (aa bE 11) R∧vI R∧iB R=iB R0+re (f-o) (cZ f t) p q lo N∧R.length≤R0.length+N∧aY=sh) _ N ?_ ?_ fr lh sh ⟨fr,lh,R0,rfl,D,hB0,by simp[re],by omega,h2,r,I,H,by rw[O];simp,RQ⟩
 ·rintro k _ hk ⟨fr,lh,R,rfl,hR,V,hs,F,h2,r,I,H,O,RQ⟩
  have W:lo+k≤lo+N-1:=zO
  have gn:re (f-o) (cZ f t) p q lo (k+1)=re (f-o) (cZ f t) p q lo k+Mi (f-o) (cZ f t) p q (lo+k):=rfl
  have w1:wr .i64 (lo+k+1)=lo+((k+1:Nat):Int):=by rw[bo zO];omega
  have w2:wr .i64 ((lo+k)*1440)=1440*(lo+k):=by rw[bo zO];omega
  have w3:wr .i64 (1440*(lo+k)+f)=1440*(lo+k)+f:=bo zO
  have w4:wr .i64 (1440*(lo+k)+f-o)=1440*(lo+k)+(f-o):=by rw[bo zO];omega
  have w5:wr .i64 (1440*(lo+k)+(f-o)+cZ f t)=1440*(lo+k)+(f-o)+cZ f t:=bo zO
  rw[gn]
  unfold Mi
  generalize cZ f t=len at*
  generalize lo+(k:Int)=d at*
  generalize hS:1440*d+(f-o)=S at*
  have hA:0≤max S p:=zO
  have hE:min (S+len) q≤52596000:=zO
  generalize J:max S p=a at*
  generalize NC:min (S+len) q=e at*
  by_cases K:e≤a
  ·rw[if_neg zO,Int.add_zero]
   simp only[qA,seval,iu,h2,r,I,H,O,RQ,W,w1,w2,w3,w4,w5,J,NC,oC,rf,K]
   exact cS ⟨_,_,R,rfl,by simp only[qA,seval];exact hR,V,hs,by omega,by simp only[qA,seval,h2],by simp only[qA,seval,r],by simp only[qA,seval,I],by simp only[qA,seval,H],by simp only[qA,seval],RQ⟩
  ·have aGl:a<e:=zO
   rw[if_pos aGl]
   have X:(R.length+1)*16≤roomy:=by unfold roomy;omega
   rcases hR with⟨rfl,D⟩|⟨R',x,g',rfl,D,ayN⟩
   ·have X:16≤roomy:=by unfold roomy;omega
    simp only[qA,seval,appW,repl,iu,h2,r,D,I,H,O,RQ,W,w1,w2,w3,w4,w5,J,NC,oC,rf,K,Int.lt_irrefl,X]
    refine cS ⟨_,_,[(a,e)],rfl,.inr ⟨[],(a,e),(ab lh 109).g+1,rfl,by simp only[qA,seval],by simp only[qA,seval];rfl⟩, ?_, ?_,by simp;omega,by simp only[qA,seval,h2],by simp only[qA,seval,r],by simp only[qA,seval,I],by simp only[qA,seval,H],by simp only[qA,seval],by simp only[qA,seval,RQ]⟩
    ·intro y hy
     grind
    grind [ml,iB]
   ·rw[List.length_append]at X F
    simp only[List.length_cons,List.length_nil,Nat.zero_add]at X F
    have wJ:(0:Int)<((R'.length+1:Nat):Int):=zO
    have Y:wr .i64 (((R'.length+1:Nat):Int)-1)=(R'.length:Int):=by rw[bo zO];omega
    have dO:=amU R' (.i .i64 x.1) (.i .i64 x.2)
    have jY:=OJ R' (.i .i64 x.1) (.i .i64 x.2)
    have Z:=Ml R' (.i .i64 x.1) (.i .i64 x.2) (.i .i64 e)
    have hx:=V x xv
    rw[mj,ml]at hs
    by_cases U:x.2=a
    ·rw[U]at dO jY Z
     simp only[qA,seval,appW,repl,iu,h2,r,D,I,H,O,RQ,ayN,W,w1,w2,w3,w4,w5,J,NC,oC,rf,K,wJ,Y,dO,U,jY,Z,Nat.lt_succ_self,Int.natCast_nonneg]
     refine cS ⟨_,_,R'++ [(x.1,e)],rfl,.inr ⟨R',(x.1,e),g',rfl,by simp only[qA,seval,D],by simp only[qA,seval]⟩, ?_, ?_,by simp;omega,by simp only[qA,seval,h2],by simp only[qA,seval,r],by simp only[qA,seval,I],by simp only[qA,seval,H],by simp only[qA,seval],by simp only[qA,seval,RQ]⟩
     ·intro y hy
      rcases List.mem_append.1 hy with hy|hy
      ·exact V y (by simp[hy])
      ·grind
     ·rw[mj,ml];simp only;omega
    ·simp only[qA,seval,appW,repl,iu,h2,r,D,I,H,O,RQ,ayN,W,w1,w2,w3,w4,w5,J,NC,oC,rf,K,wJ,Y,dO,U,jY,Nat.lt_succ_self,Int.natCast_nonneg,afs,X]
     refine cS ?_
     refine⟨_,_,R'++ [x]++ [(a,e)],rfl,.inr ⟨R'++ [x],(a,e),g'+1,rfl,by simp only[qA,seval];simp,by simp only[qA,seval];rw[OI];rfl⟩, ?_, ?_,by simp;omega,by simp only[qA,seval,h2],by simp only[qA,seval,r],by simp only[qA,seval,I],by simp only[qA,seval,H],by simp only[qA,seval],by simp only[qA,seval,RQ]⟩
     ·intro y hy
      rcases List.mem_append.1 hy with hy|hy
      ·exact V y hy
      ·rw[List.mem_singleton.1 hy];exact⟨hA,by show a≤e;omega,hE⟩
     ·rw[mj,mj,ml,ml];simp only;omega
 ·rintro _ ⟨fr,lh,R,rfl,hR,V,hs,F,h2,r,I,H,O,RQ⟩
  have W: ¬lo+(N:Int)≤lo+N-1:=zO
  simp only[qA,seval,iu,H,O,W]
  exact eL ⟨rfl,R,by simp only[qA,seval];exact hR,V,hs,F,rfl⟩
end
theorem ayP{f t o p q:Int}{fr:Fr}{lh:aB ah}{sh:List ah}{D:Option (Out×St)}(hf:0≤f∧f<1440)(hl:1≤cZ f t∧cZ f t<1440)(ho: -840≤o∧o≤840)(hp:0≤p)(hq:p<q∧q≤52596000)(R0:List (Int×Int))(r:vI R0)(HI:R0.length≤1000000)(lo:Int)(N:Nat)(F: -10≤lo)(O:lo+N≤40000)(g:Nat)(U:DC pE 113 (.loop iu) ⟨fr,lh,sh⟩=D)(h2:aa fr 2= .i .i64 f)(H:aa fr 10= .i .i64 (cZ f t))(I:yJ lh (aa fr 11) R0)(V:aa fr 13= .ptr .L 13 g 0)(W:aa fr 16= .i .i64 (lo+N-1))(X:aa fr 18= .i .i64 lo)(RQ:ab lh 13=⟨g,.cells [.i .i64 p,.i .i64 q,.i .i64 o] 0 true⟩):
  ∃J K R,D=some (.ext 2,⟨J,K,sh⟩)∧yJ K (aa J 11) R∧vI R∧iB R=iB R0+re (f-o) (cZ f t) p q lo N∧R.length≤R0.length+N∧ ∀s,(jh (.loop iu)).contains s=false→aa J s=aa fr s:=by
 obtain⟨e,R,Y,Z,r3,r4,r5⟩:=aGj f t o p q hf hl ho hp hq R0 r HI lo N F O g fr lh sh h2 H I V W X RQ
 unfold mI at e;rw[r5]at e
 exact⟨_,_,R,U.symm.trans e,Y,Z,r3,r4,fun s hs=>dY e s hs⟩
def Y3(x:Int×Int×Int):Prop:=0≤x.1∧x.1<x.2.1∧x.2.1≤52596000∧ -840≤x.2.2∧x.2.2≤840
theorem OK{a b o:Int}(r:0≤a)(D:b≤52596000)(ho: -840≤o∧o≤840): ∀x∈vH a b o,Y3 x:=by
 intro x hx
 unfold vH at hx
 split at hx
 ·rw[List.mem_singleton.1 hx]
  exact⟨r,by assumption,D,ho⟩
 ·cases hx
theorem OL{o:Int}(h:qW o=true): -840≤o∧o≤840:=by
 grind [qW]
theorem OM{A B:Int}(D:0≤A)(F:B≤52596000): ∀(l:List (Int×Int)) (fr o:Int),(-840≤o∧o≤840)→(∀s∈l,qW s.2=true)→ ∀x∈jF A B fr o l,Y3 x
 | [],fr,o,ho,hl,x,hx=>by
   rw[jF]at hx
   exact OK zO zO ho x hx
 |s::r,fr,o,ho,hl,x,hx=>by
  rw[jF,List.mem_append]at hx
  rcases hx with hx|hx
  ·exact OK zO zO ho x hx
  ·exact OM D F r s.1 s.2 (OL (hl s xv)) (fun y H=>hl y (by simp[H])) x hx
theorem afu{f t:Int}(hf:0≤f∧f<1440)(ht:0≤t∧t<1440)(hl:cZ f t≠0){p q o:Int}(h:p<q):re (f-o) (cZ f t) p q ((p+o)/1440-1) ((q-1+o)/1440-((p+o)/1440-1)+1).toNat=q9 (fun x=>dQ ((x+o)%1440) f t) p q:=by
 have h1:=JG (o:=o) (p:=p) hf ht hl ((p+o)/1440-1) ((q-1+o)/1440-((p+o)/1440-1)+1).toNat (Int.le_refl _) (q-p).toNat (by
  rw[show p+((q-p).toNat:Int)=q by omega]
  omega)
 rw[show p+((q-p).toNat:Int)=q by omega]at h1
 rw[h1];rfl
theorem rl1{r k n:Nat}(h:r≤40000*k)(hk:k<n)(D:n≤17):r≤1000000:=zO
theorem rl2{r s N k:Nat}(h:s≤r+N)(h1:r≤40000*k)(h2:N≤40000):s≤40000*(k+1):=zO
theorem rl3{r n:Nat}(h:r≤40000*n)(D:n≤17):r≤1000000:=zO
theorem amW{p q o:Int}(h:Y3 (p,q,o)): -2≤(p+o)/1440∧(q-1+o)/1440≤36527∧(p+o)/1440≤(q-1+o)/1440:=by
 obtain⟨h1,h2,h3,h4,h5⟩:=h
 grind
theorem ayQ(L:List (Int×Int×Int))(j:Nat)(F:j<L.length): ∃r,∀kk,dV (cE L.length (yq L)) (.i kk (j:Int)) 3=some (.vp (.i .i64 L[j].1:: .i .i64 L[j].2.1:: .i .i64 L[j].2.2::r)):=by
 have hs:IsSl (cE L.length (yq L)) L.length (yq L):=hZ fun h=>by rw[List.length_eq_zero_iff.1 h];rfl
 have D:(yq L).length=L.length*3:=jA (sz:=3) (fun _=>rfl) L
 refine⟨yq (L.drop (j+1)),fun kk=> ?_⟩
 rw[hs.ia D F]
 have:yq L=yq (L.take j)++yq (L.drop j):=by rw[←OG,List.take_append_drop]
 have KH:(yq (L.take j)).length=j*3:=by rw[show(yq (L.take j)).length=(L.take j).length*3 from jA (sz:=3) (fun _=>rfl) _,List.length_take,Nat.min_eq_left zO]
 rw[this,List.drop_append,KH,Nat.sub_self,List.drop_zero,List.drop_eq_nil_of_le zO,List.nil_append,List.drop_eq_getElem_cons F]
 rfl
section
variable(f t A B:Int)(hs:SpB A B f t)(hl:cZ f t≠0)(L:List (Int×Int×Int))(hL: ∀x∈L,Y3 x)(hLl:L.length≤17)
include hs hl hL hLl
theorem aGn(fr:Fr)(lh:aB ah)(sh:List ah)(h2:aa fr 2= .i .i64 f)(F:aa fr 10= .i .i64 (cZ f t))(O:aa fr 11= .nilsl)(I:aa fr 32=cE L.length (yq L))(BU:aa fr 33= .i .i64 (L.length:Int))(Gz:aa fr 34= .i .i64 0):
  mI 113 j6 fr lh sh (.ext 0)∧
  (∃R,yJ (iy pE 113 j6 fr lh sh) (aa (kR pE 113 j6 fr lh sh) 11) R∧vI R∧iB R=tL (fun x=>dQ ((x.1+x.2)%1440) f t) L∧R.length≤1000000∧iF pE 113 j6 fr lh sh=sh):=by
 obtain⟨s1,s2,s3,f1,f2,t1,t2⟩:=hs
 have hb:1≤cZ f t∧cZ f t<1440:=by unfold cZ at hl ⊢; omega
 refine dJ (fun k st=> ∃(fr:Fr) (lh:aB ah) (R:List (Int×Int)),st=⟨fr,lh,sh⟩∧yJ lh (aa fr 11) R∧vI R∧iB R=tL (fun x=>dQ ((x.1+x.2)%1440) f t) (L.take k)∧R.length≤40000*k∧aa fr 2= .i .i64 f∧aa fr 10= .i .i64 (cZ f t)∧aa fr 32=cE L.length (yq L)∧aa fr 33= .i .i64 (L.length:Int)∧aa fr 34= .i .i64 (k:Int))
  (fun H aZ aY=> ∃R,yJ aZ (aa H 11) R∧vI R∧iB R=tL (fun x=>dQ ((x.1+x.2)%1440) f t) L∧R.length≤1000000∧aY=sh) _ L.length ?_ ?_ fr lh sh ⟨fr,lh,[],rfl,.inl ⟨rfl,O⟩,(fun x hx=>by cases hx),rfl,by simp,h2,F,I,BU,Gz⟩
 ·rintro k _ hk ⟨fr,lh,R,rfl,U,V,K,r,h2,F,I,BU,Gz⟩
  have aN:(k:Int)<L.length:=zO
  have hw:=aI (k:=k) zO
  obtain⟨rr,aQ⟩:=ayQ L k hk
  have hx:=hL _ (List.getElem_mem hk)
  have fO:tL (fun x=>dQ ((x.1+x.2)%1440) f t) (L.take (k+1))=tL (fun x=>dQ ((x.1+x.2)%1440) f t) (L.take k)+q9 (fun x=>dQ ((x+L[k].2.2)%1440) f t) L[k].1 L[k].2.1:=by
   rw[List.take_succ_eq_append_getElem hk,JH];simp[tL]
  rw[fO]
  generalize L[k]=x at*
  obtain⟨p,q,o⟩:=x
  obtain⟨b1,b2,b3⟩:=amW hx
  obtain⟨x1,x2,x3,x4⟩:=hx
  simp only at x1 x2 x3 x4 aQ ⊢
  have W:=afu (o:=o) ⟨f1,f2⟩ ⟨t1,t2⟩ hl x2
  have w1:wr .i64 (p+o)=p+o:=bo zO
  have w2:wr .i64 (q-1)=q-1:=bo zO
  have w3:wr .i64 (q-1+o)=q-1+o:=bo zO
  have q1:=xk (p+o) (by unfold yp;omega)
  have q2:=xk (q-1+o) (by unfold yp;omega)
  generalize (p+o)/1440=d1 at*
  generalize (q-1+o)/1440=d2 at*
  have w4:wr .i64 (d1-1)=d1-1:=bo zO
  have X:d2=d1-1+((d2-(d1-1)+1).toNat:Int)-1:=zO
  have Y:d1-1+((d2-(d1-1)+1).toNat:Int)≤40000:=zO
  generalize (d2-(d1-1)+1).toNat=N at*
  have Z:N≤40000:=zO
  generalize (p+o)%1440=e1 at*
  generalize (q-1+o)%1440=e2 at*
  simp only[qA,seval,j6,I,BU,Gz,aN,aQ,w1,w2,w3,w4,q1,q2,ahz]
  generalize hD:DC pE 113 (.loop iu) _=D
  obtain⟨H,aZ,R',rfl,r1,r2,r3,r4,J⟩:=ayP ⟨f1,f2⟩ hb ⟨x4.1,x4.2⟩ x1 ⟨x2,x3⟩ R V (rl1 r hk hLl) (d1-1) N zO Y ((ab lh 13).g+1) hD (by simp only[qA,seval,h2]) (by simp only[qA,seval,F]) (by
   rcases U with⟨e1,e2⟩|⟨R1,y,g',e1,e2,e3⟩
   ·exact .inl ⟨e1,by simp only[qA,seval,e2]⟩
   ·exact .inr ⟨R1,y,g',e1,by simp only[qA,seval,e2],by simp only[qA,seval,e3]⟩) wL (by simp only[qA,seval,←X]) wL wL
  have g2:aa H 2= .i .i64 f:=by rw[J 2 yv];simp only[qA,seval,h2]
  have g10:aa H 10= .i .i64 (cZ f t):=by rw[J 10 yv];simp only[qA,seval,F]
  have g32:aa H 32=cE L.length (yq L):=by rw[J 32 yv];simp only[qA,seval,I]
  have g33:aa H 33= .i .i64 (L.length:Int):=by rw[J 33 yv];simp only[qA,seval,BU]
  have g34:aa H 34= .i .i64 (k:Int):=by rw[J 34 yv];simp only[qA,seval,Gz]
  rw[W]at r3
  simp only[qA,seval,g34,hw]
  refine cS ⟨_,_,R',rfl,by simp only[qA,seval];exact r1,r2,by rw[r3,K],rl2 r4 r Z,by simp only[qA,seval,g2],by simp only[qA,seval,g10],by simp only[qA,seval,g32],by simp only[qA,seval,g33],by simp only[qA,seval]⟩
 ·rintro _ ⟨fr,lh,R,rfl,U,V,K,r,h2,F,I,BU,Gz⟩
  rw[List.take_length]at K
  simp only[qA,seval,j6,BU,Gz,Int.lt_irrefl]
  exact eL ⟨rfl,R,by simp only[qA,seval];exact U,V,K,rl3 r hLl,rfl⟩
end
theorem Mm{z:Zo}{A B f t:Int}(hf:0≤f∧f<1440)(ht:0≤t∧t<1440)(h:cZ f t=0):z.bandM A B f t=0:=by
 have r: ∀n,kQ (fun x=>dQ (z.clk x) f t) A n=0:=by
  intro n
  induction n with
  |zero=>rfl
  |succ n ih=>
   rw[kQ,ih]
   have e:dQ (z.clk (A+n)) f t=false:=by
    have:=JF (m:=A+n+z.off (A+n)) hf ht
    rw[show(A+n+z.off (A+n))%1440=z.clk (A+n)from rfl,h]at this
    grind
   simp[e]
 exact r _
theorem ayT{v:T}{R:List (Int×Int)}(h:IsSl v R.length (KS R))(j:Nat)(D:j<R.length): ∃r,∀kk,dV v (.i kk (j:Int)) 2=some (.vp (.i .i64 R[j].1:: .i .i64 R[j].2::r)):=by
 refine⟨KS (R.drop (j+1)),fun kk=> ?_⟩
 rw[h.ia (Aa R) D]
 simp_all[KS,wV]
theorem GA: ∀{R:List (Int×Int)},vI R→0≤iB R
 | [],_=>by simp[iB]
 |x::R,h=>by
  have h1:=h x xv
  have h2:=GA (R:=R) fun y r=>h y (by simp[r])
  grind [iB]
theorem RR{R:List (Int×Int)}(h:vI R)(k:Nat):0≤iB (R.take k)∧iB (R.take k)≤iB R:=by
 have e:iB R=iB (R.take k)+iB (R.drop k):=by rw[←mj,List.take_append_drop]
 have h1:=GA (R:=R.take k) fun y r=>h y (List.mem_of_mem_take r)
 have h2:=GA (R:=R.drop k) fun y r=>h y (List.mem_of_mem_drop r)
 omega
theorem yJ.fz{lh:aB ah}{sh:List ah}{v:T}{R:List (Int×Int)}{m:Nat}(h:yJ lh v R): ∃w u,Ev.fzW m lh sh false v=some (w,u)∧IsSl w R.length (KS R)∧BI sh u=sh:=by
 rcases h with⟨rfl,rfl⟩|⟨R',x,g,rfl,rfl,h⟩
 ·exact⟨.nilsl,[],wW rfl,.inl ⟨rfl,rfl,rfl⟩,rfl⟩
 ·have hl:=OJ R' (.i .i64 x.1) (.i .i64 x.2)
  refine⟨_,_,by rw[F5,h,po,if_pos ⟨rfl,by rw[hl];omega⟩],.inr ⟨false, ?_⟩,rfl⟩
  rw[List.drop_zero,List.take_of_length_le (by rw[hl];omega),OI,List.length_append];rfl
theorem ayU{f t A B:Int}{fr:Fr}{lh:aB ah}{sh:List ah}{D:Option (Out×St)}(hs:SpB A B f t)(hl:cZ f t≠0)(L:List (Int×Int×Int))(hL: ∀x∈L,Y3 x)(hLl:L.length≤17)(J:DC pE 113 (.loop j6) ⟨fr,lh,sh⟩=D)(h2:aa fr 2= .i .i64 f)(r:aa fr 10= .i .i64 (cZ f t))(F:aa fr 11= .nilsl)(K:aa fr 32=cE L.length (yq L))(BU:aa fr 33= .i .i64 (L.length:Int))(Gz:aa fr 34= .i .i64 0):
  ∃H I R,D=some (.ext 0,⟨H,I,sh⟩)∧yJ I (aa H 11) R∧vI R∧iB R=tL (fun x=>dQ ((x.1+x.2)%1440) f t) L∧R.length≤1000000∧ ∀s,(jh (.loop j6)).contains s=false→aa H s=aa fr s:=by
 obtain⟨e,R,N,O,U,V,W⟩:=aGn f t A B hs hl L hL hLl fr lh sh h2 r F K BU Gz
 unfold mI at e;rw[W]at e
 exact⟨_,_,R,J.symm.trans e,N,O,U,V,fun s hs=>dY e s hs⟩
section
variable(z:Zo)(a:T)(hz:ZoT z a)(hv:iG z=0)(A B f t:Int)(hs:SpB A B f t)
include hz hv hs
theorem Y4: ∃v R s,ae pE 165 [.agg (mK z a),.agg [.i .i64 A,.i .i64 B],.i .i64 f,.i .i64 t] []=some (.tup [v,.i .i64 (cZ f t)],s)∧IsSl v R.length (KS R)∧vI R∧iB R=z.bandM A B f t∧R.length≤1000000:=by
 have H:=Y1 z a hz (ja hv).2.1 A B _ rfl
 have LC:=hs
 obtain⟨K,s2,s3,N,O,U,V⟩:=LC
 have W:=Mj (f:=f) (t:=t) hv K s3
 have X:=OM K s3 z.sh 0 z.o (OL (ja hv).1) (fun s q=>(zY (ja hv).2.2 s q).2)
 have I:(jF A B 0 z.o z.sh).length≤17:=by
  have Y: ∀(l:List (Int×Int)) (fr o:Int),(jF A B fr o l).length≤l.length+1:=by
   have Z: ∀p q o:Int,(vH p q o).length≤1:=fun p q o=>by unfold vH;split <;> simp
   intro l
   induction l with
   |nil=>grind [jF]
   |cons s r ih=>grind [jF,List.length_append,List.length_cons]
  grind [ja]
 have dm:lenI (cE (jF A B 0 z.o z.sh).length (yq (jF A B 0 z.o z.sh)))=some (.i .i64 ((jF A B 0 z.o z.sh).length:Int)):=(hZ (cs:=yq (jF A B 0 z.o z.sh)) fun h=>by rw[List.length_eq_zero_iff.1 h];rfl).lenI
 have Dl:wr .i64 (t-f)=t-f:=bo zO
 have Gw:wr .i64 (t-f+1440)=t-f+1440:=bo zO
 have F:(t-f+1440).tmod 1440=cZ f t:=by unfold cZ;exact Int.tmod_eq_emod_of_nonneg zO
 generalize jF A B 0 z.o z.sh=L at*
 obtain⟨cc,ha,hc⟩:=hz
 unfold mK at H ⊢
 rw[an ahv (by simp[PT])]
 by_cases hl:cZ f t=0
 ·refine⟨.nilsl,[],[], ?_,.inl ⟨rfl,rfl,rfl⟩,(fun x hx=>by cases hx), ?_,by simp⟩
  ·rw[hl]at F
   simp only[qA,seval,PT,Dl,Gw,F,hl]
  ·rw[Mm ⟨N,O⟩ ⟨U,V⟩ hl];rfl
 ·simp only[qA,seval,PT,Dl,Gw,F,hl,H,avO,dm,ha.froz1]
  generalize hD:DC pE 113 (.loop j6) _=D
  obtain⟨bE,aZ,R,rfl,r1,r2,r3,r4,pr⟩:=ayU hs hl L X I hD wL wL wL wL wL wL
  have J:aa bE 10= .i .i64 (cZ f t):=by rw[pr 10 yv];simp only[qA,seval]
  obtain⟨w,u,q1,q2,q3⟩:=r1.fz (sh:= []) (m:=6)
  simp only[qA,seval,J,q1]
  grind
omit hz hv hs in
theorem aGo(v:T)(R:List (Int×Int))(I:IsSl v R.length (KS R))(F:vI R)(hs:iB R≤52596000)(H:R.length≤1000000)(fr:Fr)(lh:aB ah)(sh:List ah)(r:aa fr 13= .i .i64 0)(D:aa fr 32=v)(BU:aa fr 33= .i .i64 (R.length:Int))(Gz:aa fr 34= .i .i64 0):
  mI 47 rH fr lh sh (.ext 0)∧
  (aa (kR pE 47 rH fr lh sh) 13= .i .i64 (iB R)∧iF pE 47 rH fr lh sh=sh):=by
 refine dJ (fun k st=> ∃(fr:Fr) (lh:aB ah),st=⟨fr,lh,sh⟩∧aa fr 13= .i .i64 (iB (R.take k))∧aa fr 32=v∧aa fr 33= .i .i64 (R.length:Int)∧aa fr 34= .i .i64 (k:Int))
  (fun J Y K=>aa J 13= .i .i64 (iB R)∧K=sh) _ R.length ?_ ?_ fr lh sh ⟨fr,lh,rfl,r,D,BU,Gz⟩
 ·rintro k _ hk ⟨fr,lh,rfl,r,D,BU,Gz⟩
  have N:(k:Int)<R.length:=zO
  have O:=JJ (k:=k) zO
  obtain⟨Z,U⟩:=ayT I k hk
  have V:=RR F (k+1)
  have hx:=F _ (List.getElem_mem hk)
  rw[List.take_succ_eq_append_getElem hk,mj,ml]at V
  rw[List.take_succ_eq_append_getElem hk,mj,ml]
  generalize R[k]=x at*
  generalize iB (R.take k)=q at*
  have W:wr .i64 (x.2-x.1)=x.2-x.1:=bo zO
  have X:wr .i64 (q+(x.2-x.1))=q+(x.2-x.1):=bo zO
  simp only[qA,seval,rH,r,D,BU,Gz,N,U,O,W,X]
  exact cS ⟨_,_,rfl,by simp only[qA,seval],by simp only[qA,seval,D],by simp only[qA,seval,BU],by simp only[qA,seval]⟩
 ·rintro _ ⟨fr,lh,rfl,r,D,BU,Gz⟩
  rw[List.take_length]at r
  simp only[qA,seval,rH,BU,Gz,Int.lt_irrefl]
  exact eL ⟨rfl,by simp only[qA,seval,r],rfl⟩
theorem amX:ae pE 116 [.agg (mK z a),.agg [.i .i64 A,.i .i64 B],.i .i64 f,.i .i64 t] []=some (.tup [.i .i64 (z.bandM A B f t),.i .i64 0],[]):=by
 have h1:=afr z a hz hv A B f t hs
 obtain⟨v,R,s,h2,h3,h4,h5,h6⟩:=Y4 z a hz hv A B f t hs
 have r:z.bandM A B f t≤52596000:=by
  obtain⟨J,s2,s3,_⟩:=hs
  have:=zZ (fun x=>dQ (z.clk x) f t) A (B-A).toNat
  unfold Zo.bandM q9
  omega
 have hL:=fun fr lh sh D F BU Gz=>aGo v R h3 h4 (by rw[h5];exact r) h6 fr lh sh D F BU Gz
 rw[h5]at hL
 have H:=h3.lenI
 obtain⟨K,I,hc⟩:=hz
 unfold mK at h1 h2 ⊢
 rw[an UL (by simp[Tp])]
 simp only[qA,seval,Tp,h1,h2,H,hL,I.froz1,avD,avE]
end
theorem Y5{α:Type}{f:α→List Nat}: ∀{l:List α},(l.map f).Nodup→ ∀a∈l,∀b∈l,f a=f b→a=b
 | [],_,a,r,_,_,_=>by cases r
 |x::l,h,a,r,b,D,e=>by
  rw[List.map_cons,List.nodup_cons]at h
  rcases List.mem_cons.1 r with p|p <;> rcases List.mem_cons.1 D with q|q
  ·rw[p,q]
  ·exact absurd (List.mem_map.2 ⟨b,q,by rw[←e,p]⟩) h.1
  ·exact absurd (List.mem_map.2 ⟨a,p,by rw[e,q]⟩) h.1
  ·exact Y5 h.2 a p b q e
theorem ON{α:Type}{f:α→List Nat}: ∀{l:List α},(l.map f).Nodup→ ∀a∈l,l.find? (fun x=>f x==f a)=some a:=by
 intro l h a r
 cases hq:l.find? (fun x=>f x==f a)with
 |none=>
  have:=List.find?_eq_none.1 hq a r
  simp at this
 |some b=>
  have h1:=List.mem_of_find?_eq_some hq
  have h2:=List.find?_some hq
  rw[Y5 h b h1 a r (by simpa using h2)]
def zo0:Zo:=⟨[],0,[]⟩
def yK(t:Tt)(s:List Nat):Zo:=match t.ap.find? fun u=>u.cd==s with
 |some u=>(t.zo.find? fun z=>z.nm==u.zn).getD zo0
 |none=>zo0
theorem Mn{t:Tt}(ht:ou t=0){u:Ap}{z:Zo}{s:List Nat}(r:u∈t.ap)(hz:z∈t.zo)(h1:u.cd=s)(h2:z.nm=u.zn):yK t s=z:=by
 obtain⟨D,_,F,_⟩:=Mc t ht
 subst h1
 unfold yK
 rw[ON F u r]
 simp only
 rw[←h2,ON D z hz];rfl
theorem amY{t:Tt}(ht:ou t=0){s:List Nat}(hs:s∈t.ap.map Ap.cd): ∃u∈t.ap,u.cd=s∧ ∃z∈t.zo,z.nm=u.zn∧yK t s=z:=by
 obtain⟨_,h2,_,_⟩:=vF t ht
 obtain⟨u,r,h1⟩:=List.mem_map.1 hs
 obtain⟨z,hz,h3⟩:=List.mem_map.1 (h2 u r)
 exact⟨u,r,h1,z,hz,h3,Mn ht r hz h1 h3⟩
theorem xm{t:Tt}(ht:ou t=0){s:List Nat}(hs:s∈t.ap.map Ap.cd):iG (yK t s)=0:=by
 obtain⟨u,_,_,z,hz,_,h⟩:=amY ht hs
 rw[h];exact(vF t ht).1 z hz
theorem aGp{t:Tt}(ht:ou t=0){q:List (List Nat×List T)}(hq:RI t.zo t.ap q)(r:q.map Prod.fst=t.ap.map Ap.cd){s:List Nat}(hs:s∈t.ap.map Ap.cd): ∃a,aU q s=some (mK (yK t s) a)∧ZoT (yK t s) a:=by
 obtain⟨v,hv⟩:=xf (by rw[r];exact hs)
 obtain⟨u,D,h1,z,hz,h2,h3⟩:=hq _ (vw hv)
 rw[Mn ht D hz h1 h2]
 obtain⟨a,F,e,h4,h5⟩:=h3
 simp only at e
 subst e
 exact⟨a,hv,F,h4,h5⟩
theorem iY{t:Tt}(ht:ou t=0){f:Fl}(hf:f∈t.fl):f.fr∈t.ap.map Ap.cd∧f.to∈t.ap.map Ap.cd:=by
 have h:=(vF t ht).2.2.1 f hf
 unfold Jl at h
 split at h
 ·cases h
 split at h
 ·cases h
 split at h
 ·cases h
 rename_i q
 split at h
 ·cases h
 rename_i r
 exact⟨by simpa using q,by simpa using r⟩
theorem OO{c:Ct}(h:fI c=0):0≤c.nf∧c.nf≤1439∧0≤c.nt∧c.nt≤1439:=by
 unfold fI at h
 split at h
 ·rename_i q;exact absurd h q
 rename_i g
 have g:fR c=0:=zO
 unfold fR at g
 split at g
 ·cases g
 rename_i r
 have r:jD c=true:=by simpa using r
 unfold jD at r
 simp only[Bool.and_eq_true,OB]at r
 omega
def oD(c:Ct)(f:Fl):Int:=f.dp-c.rp
def oE(c:Ct)(g:Fl):Int:=g.ar+c.rl
def GB(t:Tt)(c:Ct)(f g:Fl):Int:=if oD c f<oE c g then(yK t f.fr).bandM (oD c f) (oE c g) c.nf c.nt else 0
def JK(t:Tt)(c:Ct)(f g:Fl):Int:=max ((yK t f.fr).off (oD c f)-(yK t g.to).off (oE c g)) ((yK t g.to).off (oE c g)-(yK t f.fr).off (oD c f))
def Mo(t:Tt)(c:Ct)(f:Fl):Int:=(yK t f.fr).clk (oD c f)
def Mp(t:Tt)(c:Ct)(g:Fl):Int:=(yK t g.to).clk (oE c g)
theorem JL{c:Ct}(hc:fI c=0){f g:Fl}(hf:xi f)(D:xi g):(1440≤oD c f∧oD c f≤52593120)∧(2880≤oE c g∧oE c g≤52594560)∧wr .i64 (f.dp-c.rp)=oD c f∧wr .i64 (g.ar+c.rl)=oE c g∧wr .i64 (oE c g-oD c f)=oE c g-oD c f:=by
 obtain⟨_,F,H,I,J⟩:=hf
 obtain⟨_,K,N,g3,O⟩:=D
 have r:=YR c hc
 unfold oD oE
 refine⟨by omega,by omega,bo zO,bo zO,bo zO⟩
theorem Ab{x:Int}(h:0≤x∧x<52596000):oq x=true:=by unfold oq;simp[h]
section
variable(t:Tt)(c:Ct)(zT aT fT a7 a8 a9 a10 aw av:T)(vs:List T)(hT:ow t zT aT fT)(hC:oP c a7 a8 a9 a10 aw av)(hV:Jz t c vs)(ht:ou t=0)(hc:fI c=0)
theorem OP(hV:Jz t c vs)(ht:ou t=0){s:List Nat}(hs:s∈t.ap.map Ap.cd): ∃a,ae pE 115 [stV c zT aT fT a7 a8 a9 a10 aw av vs,.s s] []=some (.agg (mK (yK t s) a),[])∧ZoT (yK t s) a:=by
 obtain⟨q,H,I,J,K,N,O,cr,U,rfl,hq,F,_⟩:=hV
 obtain⟨a,hv,D⟩:=aGp ht hq F hs
 refine⟨a, ?_,D⟩
 have r:=Og (kT:=sK) (vT:=T.agg) Dj (fun _=>rfl) q s (.agg [.s [],.i .i64 0,.nilsl])
 rw[hv]at r
 change jb _ _ _ (.s s) _ _=_ at r
 obtain⟨V,h1,h2⟩:=D
 unfold mK at*
 unfold stV aR
 simp only[List.cons_append,List.nil_append]
 rw[an agN (by simp[To])]
 simp only[qA,seval,To,r,h1.froz1]
theorem ri(hT:ow t zT aT fT)(i:Nat)(hi:i<t.fl.length): ∃r,ae pE 73 [stV c zT aT fT a7 a8 a9 a10 aw av vs,.i .i64 (i:Int)] []=some (.vp (.s t.fl[i].nu:: .s t.fl[i].fr:: .s t.fl[i].to:: .i .i64 t.fl[i].dp:: .i .i64 t.fl[i].ar:: .s t.fl[i].ty:: .i .i64 t.fl[i].n0:: .i .i64 t.fl[i].n1:: .i .i64 t.fl[i].n2::r),[]):=by
 obtain⟨D,F,H⟩:=hT.f
 exact Me zT aT fT (aR c a7 a8 a9 a10 aw av++vs) D t.fl F H i hi
theorem JM(hT:ow t zT aT fT)(ht:ou t=0)(hc:fI c=0)(i j:Nat)(hi:i<t.fl.length)(r:j<t.fl.length):ae pE 76 [stV c zT aT fT a7 a8 a9 a10 aw av vs,.i .i64 (i:Int),.i .i64 (j:Int)] []=some (.agg [.i .i64 (oD c t.fl[i]),.i .i64 (oE c t.fl[j])],[]):=by
 obtain⟨H,h1⟩:=ri t c zT aT fT a7 a8 a9 a10 aw av vs hT i hi
 obtain⟨I,h2⟩:=ri t c zT aT fT a7 a8 a9 a10 aw av vs hT j r
 obtain⟨_,_,D,F,_⟩:=JL hc ((im t ht).1 _ (List.getElem_mem hi)) ((im t ht).1 _ (List.getElem_mem r))
 generalize t.fl[i]=f at*
 generalize t.fl[j]=g at*
 generalize oD c f=S at*
 generalize oE c g=E at*
 unfold stV aR at*
 simp only[List.cons_append,List.nil_append]at*
 rw[an akw (by simp[c76])]
 simp only[qA,seval,bp,aJ,c76,h1,h2,D,F,CZ,auD]
theorem Y6(hT:ow t zT aT fT)(hV:Jz t c vs)(ht:ou t=0)(hc:fI c=0)(i j:Nat)(hi:i<t.fl.length)(U:j<t.fl.length)(x0 x1 x2 x3 x4 x5 x6 x7 x8 x9 V:T):
  ae pE 75 [stV c zT aT fT a7 a8 a9 a10 aw av vs,.isl .S 0 1 0 11 1,.i .i64 (i:Int),.i .i64 (j:Int)] [⟨1,.cells [x0,x1,x2,x3,x4,x5,x6,x7,x8,x9,V] 0 false⟩]=some (.tup [],[⟨1,.cells [x0,x1,x2,x3,.i .i64 (oE c t.fl[j]-oD c t.fl[i]),.i .i64 (GB t c t.fl[i] t.fl[j]),x6,x7,.i .i64 (JK t c t.fl[i] t.fl[j]),.i .i64 (Mo t c t.fl[i]),.i .i64 (Mp t c t.fl[j])] 0 false⟩]):=by
 have D:=JM t c zT aT fT a7 a8 a9 a10 aw av vs hT ht hc i j hi U
 obtain⟨r1,h1⟩:=ri t c zT aT fT a7 a8 a9 a10 aw av vs hT i hi
 obtain⟨r2,h2⟩:=ri t c zT aT fT a7 a8 a9 a10 aw av vs hT j U
 have hf:=List.getElem_mem hi
 have W:=List.getElem_mem U
 obtain⟨b1,b2,_,_,w3⟩:=JL hc ((im t ht).1 _ hf) ((im t ht).1 _ W)
 obtain⟨X,F,KI⟩:=OP t c zT aT fT a7 a8 a9 a10 aw av vs hV ht (iY ht hf).1
 obtain⟨zb,H,r⟩:=OP t c zT aT fT a7 a8 a9 a10 aw av vs hV ht (iY ht W).2
 have O:=xm ht (iY ht hf).1
 have Y:=xm ht (iY ht W).2
 have nf:=OO hc
 have i1:=Ab (x:=oD c t.fl[i]) zO
 have i2:=Ab (x:=oE c t.fl[j]) zO
 have o1:=tJ _ X KI O _ i1
 have o2:=tJ _ zb r Y _ i2
 have l1:=JD _ X KI O _ i1
 have l2:=JD _ zb r Y _ i2
 have d1:=Zo.off_bd O (oD c t.fl[i])
 have d2:=Zo.off_bd Y (oE c t.fl[j])
 have Z:oD c t.fl[i]<oE c t.fl[j]→_:=fun h=>amX _ X KI O (oD c t.fl[i]) (oE c t.fl[j]) c.nf c.nt ⟨by omega,by omega,by omega,by omega,by omega,by omega,by omega⟩
 have I:=KI.choose_spec.1.froz1
 have J:=r.choose_spec.1.froz1
 have ca:=KI.choose_spec.1.cells
 have cb:=r.choose_spec.1.cells
 unfold GB JK Mo Mp
 generalize t.fl[i]=f at*
 generalize t.fl[j]=g at*
 generalize oD c f=S at*
 generalize oE c g=E at*
 generalize yK t f.fr=K at*
 generalize yK t g.to=N at*
 have w4:wr .i64 (K.off S-N.off E)=K.off S-N.off E:=bo zO
 have w5:wr .i64 (N.off E-K.off S)=N.off E-K.off S:=bo zO
 generalize K.off S=p1 at*
 generalize N.off E=p2 at*
 have S3:=xj c zT aT fT a7 a8 a9 a10 aw av vs
 have hkv:kept (stV c zT aT fT a7 a8 a9 a10 aw av vs)=true:=nr rfl
 unfold mK at*
 rw[an akv (by simp[c75])]
 by_cases ft:S<E
 ·have Z:=Z ft
  have wJ:0<E-S:=zO
  rw[if_pos ft]
  unfold stV aR at*
  simp only[List.cons_append,List.nil_append]at*
  simp only[qA,seval,bp,aJ,eh,c75,D,h1,h2,F,H,w3,w4,w5,wJ,Z,o1,o2,l1,l2,oC,rf,I,J,qZ,il,eN,CZ,akx,agO,agP,agQ,UM,agT]
  rfl
 ·have wJ: ¬0<E-S:=zO
  rw[if_neg ft]
  unfold stV aR at*
  simp only[List.cons_append,List.nil_append]at*
  simp only[qA,seval,bp,aJ,eh,c75,D,h1,h2,F,H,w3,w4,w5,wJ,o1,o2,l1,l2,oC,rf,I,J,CZ,akx,agO,agP,agQ,UM,agT]
  rfl
end
end Go.Proofs.YtcpceiclnbmgiaaGreat
namespace Go.Ev
open Go
theorem vK{E:Env}{call:kg}{n:Nat}{fr:Fr}{lh:aB ah}{sh:List ah}{r:List aF}{d bytes:Nat}{z:List T}{x:aX}(D:d<n):aj E call n (⟨some d,.mksl z bytes x true,none⟩::r) ⟨fr,lh,sh⟩=
  (Qw (rd fr x) bytes).bind fun m=>aj E call n r ⟨cQ fr d (.isl .S sh.length 1 0 m z.length),lh,aK sh sh.length ⟨1,.cells (repl z m) 0 (SN z)⟩⟩:=by
 rw[kJ (by rfl) (show CU n (some d)from D)]
 unfold one Qw
 simp only[bC]
 cases asNat (rd fr x)with
 |none=>rfl
 |some m=>
  simp only[Bool.and_eq_true,decide_eq_true_eq]
  split <;> rfl
end Go.Ev
namespace Go.Proofs.YtcpceiclnbmgiaaGreat
open Go Go.Ev
structure Cn where
 lg:Int
 hd:Int
 bk:Int
 lo:Int
 so:Int
 ks:List (List Nat)
def cn0:Cn:=⟨0,0,0,0,1440,[]⟩
def adK(s:List Nat)(l:List (List Nat)):List (List Nat):=if s∈l then l else l++ [s]
def S4(f:Fl)(h:Bool)(s:Cn):Cn:=if h=true then{s with hd:=s.hd+1}else{s with lg:=s.lg+1,bk:=s.bk+(f.ar-f.dp),ks:=adK f.ty s.ks}
def cnG(g f:Fl)(s:Cn):Cn:={s with lo:=max s.lo (f.dp-g.ar),so:=min s.so (f.dp-g.ar)}
def tkG(d:List (Int×Bool))(k:Nat):Int×Bool:=d.getD k (0,false)
def dt(r:List Fl)(d:List (Int×Bool))(k:Nat):Fl:=flG r (tkG d k).1
def mE(r:List Fl)(d:List (Int×Bool)):Nat→Cn
 |0=>cn0
 |k+1=>if k=0 then S4 (dt r d k) (tkG d k).2 (mE r d k)else cnG (dt r d (k-1)) (dt r d k) (S4 (dt r d k) (tkG d k).2 (mE r d k))
def GC(k:Nat)(s:Cn):Prop:=(0≤s.lg∧s.lg≤k)∧(0≤s.hd∧s.hd≤k)∧(0≤s.bk∧s.bk≤1440*k)∧(0≤s.lo∧s.lo≤52593120)∧(-52593120≤s.so∧s.so≤1440)∧s.ks.length≤k
theorem am0:GC 0 cn0:=by unfold GC cn0;simp
theorem Y7{f:Fl}(hf:xi f){h:Bool}{k:Nat}{s:Cn}(hs:GC k s):GC (k+1) (S4 f h s):=by
 obtain⟨_,r,D,F,H⟩:=hf
 grind [adK,GC,S4]
theorem Mq{f g:Fl}(hf:xi f)(r:xi g): -52593120≤f.dp-g.ar∧f.dp-g.ar≤52593120:=by
 obtain⟨_,D,F,H,I⟩:=hf
 obtain⟨_,J,K,g3,N⟩:=r
 omega
theorem am1{f g:Fl}(hf:xi f)(r:xi g){k:Nat}{s:Cn}(hs:GC k s):GC k (cnG g f s):=by
 have:=Mq hf r
 grind [GC,cnG]
theorem Mr{d:List (Int×Bool)}{k:Nat}(hk:k<d.length):tkG d k=d[k]:=by grind [tkG]
theorem iO{r:List Fl}(F: ∀f∈r,xi f){d:List (Int×Bool)}(D: ∀k∈d,sW r.length k.1=true){k:Nat}(hk:k<d.length): ∃i:Nat,∃hi:i<r.length,d[k].1=i∧dt r d k=r[i]∧xi (dt r d k):=by
 obtain⟨i,hi,e⟩:=Gx (D _ (List.getElem_mem hk))
 grind [dt,Mr,amQ]
theorem GD{r:List Fl}(D: ∀f∈r,xi f){d:List (Int×Bool)}(F: ∀k∈d,sW r.length k.1=true): ∀k,k≤d.length→GC k (mE r d k)
 |0,_=>am0
 |k+1,h=>by
  have ih:=GD D F k zO
  obtain⟨_,_,_,_,h1⟩:=iO D F (k:=k) zO
  rw[mE]
  split
  ·exact Y7 h1 ih
  ·obtain⟨_,_,_,_,h2⟩:=iO D F (k:=k-1) zO
   exact am1 h1 h2 (Y7 h1 ih)
theorem ay0(s:List Nat)(l:List (List Nat))(a:T)(K:IsSl a l.length (l.map T.s))(I:l.length≤1000)(r:Int)(hr:r=ixA s l 0)(o:Out)(ho:o=if r<0 then .ext 0 else .ret)(fr:Fr)(lh:aB ah)(sh:List ah)(h0:aa fr 0=a)(h1:aa fr 1= .s s)(D:aa fr 7= .i .i64 (l.length:Int))(F:aa fr 8= .i .i64 0):
  mI 19 rG fr lh sh o∧
  ((¬r<0→aa (kR pE 19 rG fr lh sh) 4= .i .i64 r)∧iF pE 19 rG fr lh sh=sh):=by
 refine dJ (fun k st=> ∃(fr:Fr) (lh:aB ah),st=⟨fr,lh,sh⟩∧r=ixA s (l.drop k) k∧aa fr 0=a∧aa fr 1= .s s∧aa fr 7= .i .i64 (l.length:Int)∧aa fr 8= .i .i64 (k:Int))
  (fun N W O=>(¬r<0→aa N 4= .i .i64 r)∧O=sh) _ l.length ?_ ?_ fr lh sh ⟨fr,lh,rfl,hr,h0,h1,D,F⟩
 ·rintro k _ hk ⟨fr,lh,rfl,hr,h0,h1,D,F⟩
  have U:(k:Int)<l.length:=zO
  have V:=aI (k:=k) zO
  have H: ∃J,∀kk,dV a (.i kk (k:Int)) 1=some (.vp (.s l[k]::J)):=by
   refine⟨(l.map T.s).drop (k+1),fun kk=> ?_⟩
   rw[K.ia (sz:=1) xv hk,Nat.mul_one,List.drop_eq_getElem_cons (by simpa using hk),List.getElem_map]
  obtain⟨J,H⟩:=H
  rw[List.drop_eq_getElem_cons hk,ixA]at hr
  generalize l[k]=y at*
  simp only[qB,seval,rG,h0,h1,D,F,U,H,V]
  refine px (fun h=> ?_) (fun h=> ?_)
  ·rw[if_pos h.symm]at hr
   exact tz ⟨by rw[ho,if_neg zO],fun _=>(by simp only[qA,seval,hr]),rfl⟩
  ·rw[if_neg (fun e=>h e.symm)]at hr
   exact cS ⟨_,_,rfl,hr,by simp only[qA,seval,h0],by simp only[qA,seval,h1],by simp only[qA,seval,D],by simp only[qA,seval]⟩
 ·rintro _ ⟨fr,lh,rfl,hr,h0,h1,D,F⟩
  rw[List.drop_length,ixA]at hr
  simp only[qA,seval,rG,D,F,Int.lt_irrefl]
  grind [eL]
theorem GF(s:List Nat)(l:List (List Nat))(a:T)(D:IsSl a l.length (l.map T.s))(r:l.length≤1000):ae pE 74 [a,.s s] []=some (.b (decide (s∈l)),[]):=by
 have hL:=fun fr lh sh h0 h1 H I=>ay0 s l a D r _ rfl _ rfl fr lh sh h0 h1 H I
 have Yw:=BZ s l 0
 have J:=zQ s l 0
 have F:ae pE 114 [a,.s s] []=some (.i .i64 (ixA s l 0),[]):=by
  rw[an agM (by simp[PK])]
  generalize ixA s l 0=v at*
  by_cases h:v<0
  ·have e:=Yw h
   subst e
   simp only[qA,seval,PK,hL,D.lenI]
  ·simp only[h,if_false,not_false_eq_true,forall_const]at hL
   simp only[qA,seval,PK,hL,D.lenI]
 have K:decide (s∈l)=decide (0≤ixA s l 0):=by
  grind
 rw[K]
 rw[an auE (by simp[c74])]
 generalize ixA s l 0=v at*
 simp only[qA,seval,c74,F,D.froz,ave]
def dvC(s:Cn):List T:= [.i .i64 s.lg,.i .i64 s.hd,.i .i64 0,.i .i64 s.bk,.i .i64 0,.i .i64 0,.i .i64 s.lo,.i .i64 s.so,.i .i64 0,.i .i64 0,.i .i64 0]
theorem ajh{n:Nat}(h:n≤1000):(n+1)*16≤roomy:=by unfold roomy;omega
section
variable(t:Tt)(c:Ct)(zT aT fT a7 a8 a9 a10 aw av:T)(vs:List T)(hT:ow t zT aT fT)(ht:ou t=0)
include hT ht
theorem aGq(d:List (Int×Bool))(O:T)(hd:Dq d O)(hlen:d.length≤100)(U: ∀k∈d,sW t.fl.length k.1=true)(fr:Fr)(lh:aB ah)(sh:List ah)(fU:sh= [⟨1,.cells (dvC cn0) 0 false⟩])(h0:aa fr 0=stV c zT aT fT a7 a8 a9 a10 aw av vs)(h1:aa fr 1=O)(h5:aa fr 5= .isl .S 0 1 0 11 1)(h6:aa fr 6= .nilsl)(cH:aa fr 14=O)(V:aa fr 15= .i .i64 (d.length:Int))(F:aa fr 16= .i .i64 0):
  Lp pE 117 Ay fr lh sh (.ext 0) fun f l s=>bt l (aa f 6) 64 1 (mE t.fl d d.length).ks.length ((mE t.fl d d.length).ks.map T.s)∧s= [⟨1,.cells (dvC (mE t.fl d d.length)) 0 false⟩]:=by
 refine bV Ce (fun k f l s=>aa f 16= .i .i64 (k:Int)∧bt l (aa f 6) 64 1 (mE t.fl d k).ks.length ((mE t.fl d k).ks.map T.s)∧s= [⟨1,.cells (dvC (mE t.fl d k)) 0 false⟩]) d.length ⟨F,by rw[h6];exact bt.nil,fU⟩ ?_ ?_
 ·rintro k H l _ hk N ⟨F,r,rfl⟩
  have aN:(k:Int)<d.length:=zO
  have hw:=aI (k:=k) zO
  have W:=(im t ht).1
  obtain⟨rr,X⟩:=qd hd k hk
  obtain⟨i,hi,ei,ef,I⟩:=iO W U hk
  obtain⟨r2,Y⟩:=ri t c zT aT fT a7 a8 a9 a10 aw av vs hT i hi
  rw[←ef]at Y
  obtain⟨c1,c2,c3,c4,c5,c6⟩:=GD W U k zO
  have fO:mE t.fl d (k+1)=if k=0 then S4 (dt t.fl d k) d[k].2 (mE t.fl d k)else cnG (dt t.fl d (k-1)) (dt t.fl d k) (S4 (dt t.fl d k) d[k].2 (mE t.fl d k)):=by rw[mE,Mr hk]
  have J:=GF (dt t.fl d k).ty (mE t.fl d k).ks (cE (mE t.fl d k).ks.length ((mE t.fl d k).ks.map T.s)) r.isl zO
  have D:=fun(Z:aB ah) (aY:List ah) (keep:Bool) (e:ab Z 64=ab l 64)=>(r.congr e).fzV (sh:=aY) (keep:=keep)
  have fS:=fun(Z:aB ah) (aY:List ah) (e:ab Z 64=ab l 64)=>fk (sh:=aY) (r.congr e) [.s (dt t.fl d k).ty] rfl (bytes:=16) (ajh zO) true
  have qe:=r.notS
  rw[ei]at X
  obtain⟨_,f1,f2,f3,f4⟩:=id I
  generalize S5:aa H 6=v6 at r D fS qe
  generalize mE t.fl d k=s at*
  have w1:wr .i64 (s.lg+1)=s.lg+1:=bo zO
  have w2:wr .i64 (s.hd+1)=s.hd+1:=bo zO
  have w3:wr .i64 ((dt t.fl d k).ar-(dt t.fl d k).dp)=(dt t.fl d k).ar-(dt t.fl d k).dp:=bo zO
  have w4:wr .i64 (s.bk+((dt t.fl d k).ar-(dt t.fl d k).dp))=s.bk+((dt t.fl d k).ar-(dt t.fl d k).dp):=bo zO
  have S3:=xj c zT aT fT a7 a8 a9 a10 aw av vs
  have K:adK (dt t.fl d k).ty s.ks=if(dt t.fl d k).ty∈s.ks then s.ks else s.ks++ [(dt t.fl d k).ty]:=rfl
  by_cases wZ:k=0
  ·have JN: ¬(0:Int)<(k:Int):=zO
   rw[fO,if_pos wZ]
   generalize dt t.fl d k=f at*
   generalize d[k].2=b at*
   cases b <;> by_cases hm:f.ty∈s.ks <;> simp only[qA,seval,gd,repl,bp,aJ,eh,Ay,Ce,N,h0,h1,h5,S5,cH,V,F,aN,hw,X,Y,w1,w2,w3,w4,S3,qZ,il,eN,JN,qe,D,fS,J,hm,fg,r,K,S4,dvC,List.length_append,List.map_append,CZ,auF]
  ·have JN:(0:Int)<(k:Int):=zO
   have Dl:=iA (k:=k) zO zO
   obtain⟨r3,tN⟩:=qd hd (k-1) zO
   obtain⟨j,hj,ej,eg,gok⟩:=iO W U (k:=k-1) zO
   obtain⟨r4,wQ⟩:=ri t c zT aT fT a7 a8 a9 a10 aw av vs hT j hj
   rw[←eg]at wQ
   rw[ej]at tN
   have gap:=Mq I gok
   have w5:wr .i64 ((dt t.fl d k).dp-(dt t.fl d (k-1)).ar)=(dt t.fl d k).dp-(dt t.fl d (k-1)).ar:=bo zO
   rw[fO,if_neg wZ]
   generalize dt t.fl d k=f at*
   generalize dt t.fl d (k-1)=g at*
   generalize d[k].2=b at*
   cases b <;> by_cases hm:f.ty∈s.ks <;> simp only[qA,seval,gd,repl,bp,aJ,eh,Ay,Ce,N,h0,h1,h5,S5,cH,V,F,aN,hw,X,Y,w1,w2,w3,w4,S3,qZ,il,eN,JN,qe,D,fS,J,hm,fg,r,K,S4,dvC,List.length_append,List.map_append,CZ,auD,auF,cnG,oC,rf,tN,wQ,Dl,w5]
 ·rintro H l _ N ⟨F,r,rfl⟩
  simp only[qA,seval,gd,Ay,N,V,F,r,Int.lt_irrefl]
end
theorem RS{k g o n s:Nat}:kept (.isl .S k g o n s)=true:=nr rfl
def de(t:Tt)(c:Ct)(d:List (Int×Bool)):List Int:=
 [(mE t.fl d d.length).lg,(mE t.fl d d.length).hd,(mE t.fl d d.length).ks.length,(mE t.fl d d.length).bk,oE c (dt t.fl d (d.length-1))-oD c (dt t.fl d 0),GB t c (dt t.fl d 0) (dt t.fl d (d.length-1)),(mE t.fl d d.length).lo,(mE t.fl d d.length).so,JK t c (dt t.fl d 0) (dt t.fl d (d.length-1)),Mo t c (dt t.fl d 0),Mp t c (dt t.fl d (d.length-1))]
section
variable(t:Tt)(c:Ct)(zT aT fT a7 a8 a9 a10 aw av:T)(vs:List T)(hT:ow t zT aT fT)(hV:Jz t c vs)(ht:ou t=0)(hc:fI c=0)
include hT hV ht hc
theorem am2(d:List (Int×Bool))(D:T)(F:Dq d D)(h1:1≤d.length)(r:d.length≤100)(H: ∀k∈d,sW t.fl.length k.1=true): ∃s,ae pE 42 [stV c zT aT fT a7 a8 a9 a10 aw av vs,D] []=some (.sl (ints (de t c d)) 11 false,s):=by
 have hL:=fun fr lh sh I h0 h1 h5 h6 J K N=>aGq t c zT aT fT a7 a8 a9 a10 aw av vs hT ht d D F r H fr lh sh I h0 h1 h5 h6 J K N
 have Z:=fun fr lh sh I h0 h1 h5 h6 J K N=>(hL fr lh sh I h0 h1 h5 h6 J K N).2.1.lenI
 obtain⟨i,hi,ei,ef,_⟩:=iO (im t ht).1 H (k:=0) zO
 obtain⟨j,hj,ej,eg,_⟩:=iO (im t ht).1 H (k:=d.length-1) zO
 obtain⟨r1,X⟩:=qd F 0 zO
 obtain⟨r2,Y⟩:=qd F (d.length-1) zO
 have hw:=iA (k:=d.length) zO zO
 have O:=F.choose_spec.1.lenI
 have U:kept (stV c zT aT fT a7 a8 a9 a10 aw av vs)=true:=nr rfl
 have DP:=Y6 t c zT aT fT a7 a8 a9 a10 aw av vs hT hV ht hc i j hi hj
 rw[←ef,←eg]at DP
 rw[ei]at X
 rw[ej]at Y
 have V: ∀kk,dV D (.i kk 0) 2=_:=X
 have W:(11:Nat)*8≤roomy∧(11:Nat)≤roomy:=by unfold roomy;omega
 unfold de
 generalize mE t.fl d d.length=s at*
 generalize dt t.fl d 0=f at*
 generalize dt t.fl d (d.length-1)=g at*
 rw[an aue (by simp[c42])]
 unfold dvC cn0 at*
 simp only[qA,seval,repl,bp,aJ,eh,dL,c42,Ce,vK,W,hL,Z,V,Y,hw,O,U,RS,DP,aDl,aDm]
 exact⟨_,rfl⟩
end
theorem Ms{scope:Int}{s:List Nat}{i:Nat}(h:KQ scope s=some i):(S6 scope)[i]? =some s:=by
 unfold KQ eu at h
 have:=vw h
 rw[List.take_length]at this
 exact List.mk_mem_zipIdx_iff_getElem?.1 this
def JO(A:List Int):Prop:=A.length=11∧ ∀i s,bG[i]? =some s→Cf (lu s) (A.getD i 0)
theorem Y8(l:Cs){A:List Int}(h:JO A):Mt (OQ (Gq l) 1) (qp (gf l) 1 A):=by
 intro s t hs
 unfold OQ at hs
 by_cases hz:dZ 1 s≠0
 ·rw[if_pos hz]at hs
  injection hs with hs _
  subst hs
  unfold qp
  cases hp:KQ 1 s with
  |none=>exact absurd ((mn 1 s).1 hp) hz
  |some i=>exact h.2 i s (Ms hp)
 ·rw[if_neg hz]at hs
  have hp:=(mn 1 s).2 (by simpa using hz)
  unfold qp
  rw[hp]
  exact GG l s t hs
theorem Cg{k k' v:Int}(h:k=k')(hv:Cf k' v):Cf k v:=h▸hv
theorem am3{v:Int}(h:bd v):Cf 1 v:= .inl ⟨.inl rfl,h⟩
theorem RT{v:Int}(h:bd v):Cf 2 v:= .inl ⟨.inr rfl,h⟩
theorem ay4{v:Int}(h:0≤v∧v≤1439):Cf 3 v:= .inr (.inl ⟨rfl,h⟩)
theorem bdE{v:Int}(h: -1000000000≤v∧v≤1000000000):bd v:=by unfold bd;omega
theorem Y9(z:Zo)(x:Int):0≤z.clk x∧z.clk x≤1439:=by unfold Zo.clk;omega
theorem Za{z:Zo}{A B f t:Int}(h1:0≤A)(h2:B≤52596000):0≤z.bandM A B f t∧z.bandM A B f t≤52596000:=by
 have:=zZ (fun x=>dQ (z.clk x) f t) A (B-A).toNat
 unfold Zo.bandM q9
 omega
theorem Ch{t:Tt}{c:Ct}(ht:ou t=0)(hc:fI c=0){d:List (Int×Bool)}(h1:1≤d.length)(I:d.length≤100)(H: ∀k∈d,sW t.fl.length k.1=true):JO (de t c d):=by
 have F:=(im t ht).1
 obtain⟨c1,c2,c3,c4,c5,c6⟩:=GD F H d.length (Nat.le_refl _)
 obtain⟨i,hi,V,J,r⟩:=iO F H (k:=0) zO
 obtain⟨j,K,W,N,D⟩:=iO F H (k:=d.length-1) zO
 obtain⟨b1,b2,_,_,_⟩:=JL hc r D
 have O:iG (yK t (dt t.fl d 0).fr)=0:=by rw[J];exact xm ht (iY ht (List.getElem_mem hi)).1
 have U:iG (yK t (dt t.fl d (d.length-1)).to)=0:=by rw[N];exact xm ht (iY ht (List.getElem_mem K)).2
 have e1:=Zo.off_bd O (oD c (dt t.fl d 0))
 have e2:=Zo.off_bd U (oE c (dt t.fl d (d.length-1)))
 have X: -1000000000≤GB t c (dt t.fl d 0) (dt t.fl d (d.length-1))∧GB t c (dt t.fl d 0) (dt t.fl d (d.length-1))≤1000000000:=by
  unfold GB
  split
  ·have:=Za (z:=yK t (dt t.fl d 0).fr) (A:=oD c (dt t.fl d 0)) (B:=oE c (dt t.fl d (d.length-1))) (f:=c.nf) (t:=c.nt) zO zO
   omega
  ·omega
 have Y: -1000000000≤JK t c (dt t.fl d 0) (dt t.fl d (d.length-1))∧JK t c (dt t.fl d 0) (dt t.fl d (d.length-1))≤1000000000:=by
  unfold JK;omega
 have Z:0≤Mo t c (dt t.fl d 0)∧Mo t c (dt t.fl d 0)≤1439:=Y9 _ _
 have k2:0≤Mp t c (dt t.fl d (d.length-1))∧Mp t c (dt t.fl d (d.length-1))≤1439:=Y9 _ _
 refine⟨rfl,fun i s h=> ?_⟩
 unfold de
 generalize mE t.fl d d.length=q at*
 clear e1 e2 O U V J W N hi K r D F
 match i,h with
 |0,h=>cases h;exact Cg yv (am3 (bdE (by show _≤q.lg∧q.lg≤_;omega)))
 |1,h=>cases h;exact Cg yv (am3 (bdE (by show _≤q.hd∧q.hd≤_;omega)))
 |2,h=>cases h;exact Cg yv (am3 (bdE (by show _≤(q.ks.length:Int)∧(q.ks.length:Int)≤_;omega)))
 |3,h=>cases h;exact Cg yv (RT (bdE (by show _≤q.bk∧q.bk≤_;omega)))
 |4,h=>cases h;exact Cg yv (RT (bdE (by show _≤oE c (dt t.fl d (d.length-1))-oD c (dt t.fl d 0)∧oE c (dt t.fl d (d.length-1))-oD c (dt t.fl d 0)≤_;omega)))
 |5,h=>cases h;exact Cg yv (RT (bdE X))
 |6,h=>cases h;exact Cg yv (RT (bdE (by show _≤q.lo∧q.lo≤_;omega)))
 |7,h=>cases h;exact Cg yv (RT (bdE (by show _≤q.so∧q.so≤_;omega)))
 |8,h=>cases h;exact Cg yv (RT (bdE Y))
 |9,h=>cases h;exact Cg yv (ay4 Z)
 |10,h=>cases h;exact Cg yv (ay4 k2)
 |n+11,h=>cases h
def pN(l:Cs)(A:List Int)(x:Ex):Int:=x.val0 (qp (gf l) 1 A)
theorem RU{l:Cs}{A:List Int}(r:JO A){x:Ex}(hx:Jt l 1 x):Ep A (comp (gf l) 1 x)∧(comp (gf l) 1 x).val A=pN l A x∧ ∃k,Cf k (pN l A x):=by
 obtain⟨_,hv,k,hk⟩:=hx
 have D:=(jf hv).1
 have F:=x.nodes_eq
 obtain⟨h1,h2,h3⟩:=OR (Y8 l r) (show A.length=(S6 1).length from r.1) x k (iX hv) zO hk
 exact⟨h1,h2,k,h3⟩
end Go.Proofs.YtcpceiclnbmgiaaGreat
