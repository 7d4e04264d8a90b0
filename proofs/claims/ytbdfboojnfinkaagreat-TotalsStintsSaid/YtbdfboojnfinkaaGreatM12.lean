/- Walks of functions of the program and of the reference, and their plain laws, part 12. Conditions: the theorems' own. -/
import Derived.Test.YtbdfboojnfinkaaGreatM11
import Derived.KernelRfl
set_option maxRecDepth 100000
set_option linter.unusedSimpArgs false
set_option linter.unusedVariables false
set_option maxHeartbeats 16000000
namespace Go.Proofs.YtbdfboojnfinkaaGreat
open Go Go.Ev
theorem Zz(c f t:Int):hZ pE 128 [.i .i64 c,.i .i64 f,.i .i64 t] []=some (.b (kC c f t),[]):=by
 rw[im Sb (by simp[Fp])]
 unfold kC
 by_cases E:f≤t
 ·by_cases h:f≤c <;> by_cases D:c<t <;> simp only[qA,seval,Fp,E,h,D]
 ·by_cases h:f≤c <;> by_cases D:c<t <;> simp only[qA,seval,Fp,E,h,D,or_true,or_false,or_self]
def SpB(A B f t:Int):Prop:=0≤A∧A≤B∧B≤52596000∧0≤f∧f<1440∧0≤t∧t<1440
section
variable(z:Zo)(a:T)(hz:Zy z a)(hv:nh z=0)(A B f t:Int)(hs:SpB A B f t)
include hz hv hs
theorem ZA:hZ pE 162 [.agg (qK z a),.agg [.i .i64 A,.i .i64 B],.i .i64 f,.i .i64 t] []=some (.i .i64 0,[]):=by
 obtain⟨F,H,I,J,K,N,O⟩:=hs
 obtain⟨U,h,hc⟩:=hz
 have D:=CT z a U h hc
 rw[hv]at D
 have V:hZ pE 194 [.agg [.i .i64 A,.i .i64 B]] []=some (.b true,[]):=by
  rw[im abM (by simp[RE])]
  simp only[qA,seval,RE,F,H,I]
 have E: ∀x:Int,0≤x→x<1440→hZ pE 195 [.i .i64 x] []=some (.b true,[]):=by
  intro x W X
  rw[im abN (by simp[RF])]
  simp only[qA,seval,RF,W,X]
 have Y:=E f J K
 have Z:=E t N O
 unfold qK
 rw[im abk (by simp[Rt])]
 simp only[qA,seval,Rt,D,V,Y,Z,h.froz1,Xc,amu,amv]
theorem Va:hZ pE 126 [.agg (qK z a),.agg [.i .i64 A,.i .i64 B],.i .i64 f,.i .i64 t] []=some (.i .i64 0,[]):=by
 obtain⟨E,F,H,V,W,X,Y⟩:=hs
 obtain⟨I,h,hc⟩:=hz
 have D:=CU z a I h hc
 rw[hv]at D
 have J:hZ pE 168 [.agg [.i .i64 A,.i .i64 B]] []=some (.b true,[]):=by
  rw[im abr (by simp[Rx])]
  simp only[qA,seval,Rx,E,F,H]
 have K: ¬f<0:=by omega
 have N: ¬(1439:Int)<f:=by omega
 have O: ¬t<0:=by omega
 have U: ¬(1439:Int)<t:=by omega
 unfold qK
 rw[im aaS (by simp[Rg])]
 simp only[qA,seval,Rg,D,J,K,N,O,U,h.froz1,ad1,ame]
theorem avj(fr:Fr)(lh:iz ib)(sh:List ib)(J:an fr 2= .i .i64 f)(K:an fr 3= .i .i64 t)(N:an fr 4= .ptr .L 4 1 0)(F:an fr 5= .ptr .L 5 1 0)(h:an fr 11= .i .i64 0)(D:an fr 12= .i .i64 A)(H:a6 lh 4=⟨1,.cells (qK z a) 0 true⟩)(I:a6 lh 5=⟨1,.cells [.i .i64 A,.i .i64 B] 0 true⟩):
  rD 47 wu fr lh sh (.ext 0)∧
  (an (pw pE 47 wu fr lh sh) 11= .i .i64 (z.bandM A B f t)∧ng pE 47 wu fr lh sh=sh):=by
 obtain⟨s1,s2,s3,f1,f2,t1,t2⟩:=hs
 have O:=fun x=>tn z a hz (nE hv).2.1 hv x
 have U:froz1 a=true:=by obtain⟨cc,Z,_⟩:=hz;exact Z.froz1
 unfold qK at H O
 refine lQ (fun k st=> ∃(fr:Fr) (lh:iz ib),st=⟨fr,lh,sh⟩∧an fr 2= .i .i64 f∧an fr 3= .i .i64 t∧an fr 4= .ptr .L 4 1 0∧an fr 5= .ptr .L 5 1 0∧an fr 11= .i .i64 (pf (fun x=>kC (z.clk x) f t) A k)∧an fr 12= .i .i64 (A+k)∧a6 lh 4=⟨1,.cells [.s z.nm,.i .i64 z.o,a] 0 true⟩∧a6 lh 5=⟨1,.cells [.i .i64 A,.i .i64 B] 0 true⟩)
  (fun js iN jb=>an js 11= .i .i64 (z.bandM A B f t)∧jb=sh) _ (B-A).toNat ?_ ?_ fr lh sh ⟨fr,lh,rfl,J,K,N,F,h,by rw[D];simp,H,I⟩
 ·rintro k _ hk ⟨fr,lh,rfl,J,K,N,F,h,D,H,I⟩
  have W:A+k<B:=by omega
  have hi:sq (A+k)=true:=by unfold sq;simp only[Bool.and_eq_true,decide_eq_true_eq];omega
  obtain⟨w,nr⟩:=Lo z a hz hv (A+k) hi
  have E:=zH _ nr
  have X:=Zz (z.clk (A+k)) f t
  have tU:=A1 (fun x=>kC (z.clk x) f t) A k
  have DQ:wr .i64 (A+k+1)=A+((k+1:Nat):Int):=by rw[jw (by omega)];omega
  have MX:wr .i64 (pf (fun x=>kC (z.clk x) f t) A k+1)=pf (fun x=>kC (z.clk x) f t) A k+1:=jw (by omega)
  have pD:pf (fun x=>kC (z.clk x) f t) A (k+1)=pf (fun x=>kC (z.clk x) f t) A k+if kC (z.clk (A+k)) f t=true then 1 else 0:=rfl
  have V:=O (A+k)
  rw[show(A+k+z.off (A+k))%1440=z.clk (A+k)from rfl]at E
  generalize pf (fun x=>kC (z.clk x) f t) A k=q at*
  generalize z.clk (A+k)=cl at*
  generalize (A+k+z.off (A+k))/1440=dy at*
  generalize Y:A+k+z.off (A+k)=m at*
  generalize A+(k:Int)=x at*
  have aAh:=E
  rw[pD]
  cases hb:kC cl f t <;> rw[hb]at X
  ·simp only[qA,seval,wu,J,K,N,F,h,D,H,I,W,V,Y,w,E,X,DQ,U,RR,L7,Sc]
   exact k7 ⟨_,_,rfl,by simp only[qA,seval,J],by simp only[qA,seval,K],by simp only[qA,seval,N],by simp only[qA,seval,F],by simp only[qA,seval,h,Int.add_zero],by simp only[qA,seval],by simp only[H],by simp only[I]⟩
  ·simp only[qA,seval,wu,J,K,N,F,h,D,H,I,W,V,Y,w,E,X,DQ,MX,U,RR,L7,Sc]
   exact k7 ⟨_,_,rfl,by simp only[qA,seval,J],by simp only[qA,seval,K],by simp only[qA,seval,N],by simp only[qA,seval,F],by simp only[qA,seval],by simp only[qA,seval],by simp only[H],by simp only[I]⟩
 ·rintro _ ⟨fr,lh,rfl,J,K,N,F,h,D,H,I⟩
  have W: ¬A+(((B-A).toNat:Nat):Int)<B:=by omega
  simp only[qA,seval,wu,F,D,I,W]
  exact mI ⟨rfl,by simp only[qA,seval,h];rfl,rfl⟩
theorem afS:hZ pE 72 [.agg (qK z a),.agg [.i .i64 A,.i .i64 B],.i .i64 f,.i .i64 t] []=some (.tup [.i .i64 (z.bandM A B f t),.i .i64 0],[]):=by
 have hL:=fun fr lh sh F H I J h D K N=>avj z a hz hv A B f t hs fr lh sh F H I J h D K N
 have E:=Va z a hz hv A B f t hs
 obtain⟨U,O,hc⟩:=hz
 unfold qK at E hL ⊢
 rw[im aln (by simp[c72])]
 simp only[qA,seval,c72,E,hL,O.froz1,alU]
end
def J9(l:List (Int×Int)):List T:=l.flatMap fun x=> [.i .i64 x.1,.i .i64 x.2]
theorem Nc(a b:List (Int×Int)):J9 (a++b)=J9 a++J9 b:=by grind [J9]
theorem A2(l:List (Int×Int)):(J9 l).length=l.length*2:=r9 (sz:=2) (fun _=>rfl) l
def mY(l:List (Int×Int)):Int:=(l.map fun x=>x.2-x.1).sum
theorem qw(a b:List (Int×Int)):mY (a++b)=mY a+mY b:=by grind [mY]
theorem qx(x:Int×Int):mY [x]=x.2-x.1:=by simp[mY]
def AM(lh:iz ib)(v:T)(R:List (Int×Int)):Prop:=
 (R= []∧v= .nilsl)∨ ∃R' x g,R=R'++ [x]∧v= .isl .L 109 g 0 (R'.length+1) 2∧a6 lh 109=⟨g,.cells (J9 R'++ [.i .i64 x.1,.i .i64 x.2]) 0 false⟩
def ym(R:List (Int×Int)):Prop:= ∀x∈R,0≤x.1∧x.1≤x.2∧x.2≤52596000
theorem afT(R:List (Int×Int))(a b:T):(J9 R++ [a,b])[R.length*2+1]? =some b:=by
 grind [A2]
theorem Lt(R:List (Int×Int))(a b c:T):splice (J9 R++ [a,b]) (R.length*2+1) [c]=J9 R++ [a,c]:=by
 have h: ∀(cs:List T),splice (cs++ [a,b]) (cs.length+1) [c]=cs++ [a,c]:=by
  intro cs
  induction cs with
  |nil=>rfl
  |cons x cs ih=>rw[List.cons_append,List.length_cons,splice,ih];rfl
 grind [A2]
theorem Nd(R:List (Int×Int))(a b:T):(J9 R++ [a,b]).length=R.length*2+2:=by rw[List.length_append,A2];rfl
theorem ZB{n:Nat}:((n+1)*2=n*2+2)=True:=by simp;omega
section
variable(f t o p q:Int)(hf:0≤f∧f<1440)(hl:1≤jU f t∧jU f t<1440)(ho: -840≤o∧o≤840)(hp:0≤p)(hq:p<q∧q≤52596000)
include hf hl ho hp hq
theorem avk(R0:List (Int×Int))(hB0:ym R0)(Hb:R0.length≤1000000)(lo:Int)(N:Nat)(hlo: -10≤lo)(hN:lo+N≤40000)(g:Nat)(fr:Fr)(lh:iz ib)(sh:List ib)(H:an fr 2= .i .i64 f)(h:an fr 10= .i .i64 (jU f t))(D:AM lh (an fr 11) R0)(I:an fr 13= .ptr .L 13 g 0)(F:an fr 16= .i .i64 (lo+N-1))(U:an fr 18= .i .i64 lo)(PQ:a6 lh 13=⟨g,.cells [.i .i64 p,.i .i64 q,.i .i64 o] 0 true⟩):
  rD 113 mT fr lh sh (.ext 2)∧
  (∃R,AM (lZ pE 113 mT fr lh sh) (an (pw pE 113 mT fr lh sh) 11) R∧ym R∧mY R=mY R0+uH (f-o) (jU f t) p q lo N∧R.length≤R0.length+N∧ng pE 113 mT fr lh sh=sh):=by
 refine lQ (fun k st=> ∃(fr:Fr) (lh:iz ib) (R:List (Int×Int)),st=⟨fr,lh,sh⟩∧AM lh (an fr 11) R∧ym R∧mY R=mY R0+uH (f-o) (jU f t) p q lo k∧R.length≤R0.length+k∧an fr 2= .i .i64 f∧an fr 10= .i .i64 (jU f t)∧an fr 13= .ptr .L 13 g 0∧an fr 16= .i .i64 (lo+N-1)∧an fr 18= .i .i64 (lo+k)∧a6 lh 13=⟨g,.cells [.i .i64 p,.i .i64 q,.i .i64 o] 0 true⟩)
  (fun js iN jb=> ∃R,AM iN (an js 11) R∧ym R∧mY R=mY R0+uH (f-o) (jU f t) p q lo N∧R.length≤R0.length+N∧jb=sh) _ N ?_ ?_ fr lh sh ⟨fr,lh,R0,rfl,D,hB0,by simp[uH],by omega,H,h,I,F,by rw[U];simp,PQ⟩
 ·rintro k _ hk ⟨fr,lh,R,rfl,hR,X,hs,E,H,h,I,F,U,PQ⟩
  have Y:lo+k≤lo+N-1:=by omega
  have hst:uH (f-o) (jU f t) p q lo (k+1)=uH (f-o) (jU f t) p q lo k+Lq (f-o) (jU f t) p q (lo+k):=rfl
  have w1:wr .i64 (lo+k+1)=lo+((k+1:Nat):Int):=by rw[jw (by omega)];omega
  have w2:wr .i64 ((lo+k)*1440)=1440*(lo+k):=by rw[jw (by omega)];omega
  have w3:wr .i64 (1440*(lo+k)+f)=1440*(lo+k)+f:=jw (by omega)
  have w4:wr .i64 (1440*(lo+k)+f-o)=1440*(lo+k)+(f-o):=by rw[jw (by omega)];omega
  have w5:wr .i64 (1440*(lo+k)+(f-o)+jU f t)=1440*(lo+k)+(f-o)+jU f t:=jw (by omega)
  rw[hst]
  unfold Lq
  generalize jU f t=len at*
  generalize lo+(k:Int)=d at*
  generalize hS:1440*d+(f-o)=S at*
  have hA:0≤max S p:=by omega
  have hE:min (S+len) q≤52596000:=by omega
  generalize K:max S p=a at*
  generalize Mt:min (S+len) q=e at*
  by_cases O:e≤a
  ·rw[if_neg (by omega),Int.add_zero]
   simp only[qA,seval,mT,H,h,I,F,U,PQ,Y,w1,w2,w3,w4,w5,K,Mt,su,qv,O]
   exact k7 ⟨_,_,R,rfl,by simp only[qA,seval];exact hR,X,hs,by omega,by simp only[qA,seval,H],by simp only[qA,seval,h],by simp only[qA,seval,I],by simp only[qA,seval,F],by simp only[qA,seval],PQ⟩
  ·have avm:a<e:=by omega
   rw[if_pos avm]
   have J:(R.length+1)*16≤roomy:=by unfold roomy;omega
   rcases hR with⟨rfl,D⟩|⟨R',x,g',rfl,D,aoN⟩
   ·have J:16≤roomy:=by unfold roomy;omega
    simp only[qA,seval,appW,repl,mT,H,h,D,I,F,U,PQ,Y,w1,w2,w3,w4,w5,K,Mt,su,qv,O,Int.lt_irrefl,J]
    refine k7 ⟨_,_,[(a,e)],rfl,.inr ⟨[],(a,e),(a6 lh 109).g+1,rfl,by simp only[qA,seval],by simp only[qA,seval];rfl⟩, ?_, ?_,by simp;omega,by simp only[qA,seval,H],by simp only[qA,seval,h],by simp only[qA,seval,I],by simp only[qA,seval,F],by simp only[qA,seval],by simp only[qA,seval,PQ]⟩
    ·intro y hy
     grind
    grind [qx,mY]
   ·rw[List.length_append]at J E
    simp only[List.length_cons,List.length_nil,Nat.zero_add]at J E
    have wy:(0:Int)<((R'.length+1:Nat):Int):=by omega
    have Z:wr .i64 (((R'.length+1:Nat):Int)-1)=(R'.length:Int):=by rw[jw (by omega)];omega
    have V:=afT R' (.i .i64 x.1) (.i .i64 x.2)
    have Dz:=Nd R' (.i .i64 x.1) (.i .i64 x.2)
    have aoO:=Lt R' (.i .i64 x.1) (.i .i64 x.2) (.i .i64 e)
    have hx:=X x (by simp)
    rw[qw,qx]at hs
    by_cases W:x.2=a
    ·rw[W]at V Dz aoO
     simp only[qA,seval,appW,repl,mT,H,h,D,I,F,U,PQ,aoN,Y,w1,w2,w3,w4,w5,K,Mt,su,qv,O,wy,Z,V,W,Dz,aoO,Nat.lt_succ_self,Int.natCast_nonneg]
     refine k7 ⟨_,_,R'++ [(x.1,e)],rfl,.inr ⟨R',(x.1,e),g',rfl,by simp only[qA,seval,D],by simp only[qA,seval]⟩, ?_, ?_,by simp;omega,by simp only[qA,seval,H],by simp only[qA,seval,h],by simp only[qA,seval,I],by simp only[qA,seval,F],by simp only[qA,seval],by simp only[qA,seval,PQ]⟩
     ·intro y hy
      rcases List.mem_append.1 hy with hy|hy
      ·exact X y (by simp[hy])
      ·grind
     ·rw[qw,qx];simp only;omega
    ·simp only[qA,seval,appW,repl,mT,H,h,D,I,F,U,PQ,aoN,Y,w1,w2,w3,w4,w5,K,Mt,su,qv,O,wy,Z,V,W,Dz,Nat.lt_succ_self,Int.natCast_nonneg,ZB,J]
     refine k7 ?_
     refine⟨_,_,R'++ [x]++ [(a,e)],rfl,.inr ⟨R'++ [x],(a,e),g'+1,rfl,by simp only[qA,seval];simp,by simp only[qA,seval];rw[Nc];rfl⟩, ?_, ?_,by simp;omega,by simp only[qA,seval,H],by simp only[qA,seval,h],by simp only[qA,seval,I],by simp only[qA,seval,F],by simp only[qA,seval],by simp only[qA,seval,PQ]⟩
     ·intro y hy
      rcases List.mem_append.1 hy with hy|hy
      ·exact X y hy
      ·rw[List.mem_singleton.1 hy];exact⟨hA,by show a≤e;omega,hE⟩
     ·rw[qw,qw,qx,qx];simp only;omega
 ·rintro _ ⟨fr,lh,R,rfl,hR,X,hs,E,H,h,I,F,U,PQ⟩
  have Y: ¬lo+(N:Int)≤lo+N-1:=by omega
  simp only[qA,seval,mT,F,U,Y]
  exact mI ⟨rfl,R,by simp only[qA,seval];exact hR,X,hs,E,rfl⟩
end
theorem aoP{f t o p q:Int}{fr:Fr}{lh:iz ib}{sh:List ib}{D:Option (Out×St)}(hf:0≤f∧f<1440)(hl:1≤jU f t∧jU f t<1440)(ho: -840≤o∧o≤840)(hp:0≤p)(hq:p<q∧q≤52596000)(R0:List (Int×Int))(h:ym R0)(Hb:R0.length≤1000000)(lo:Int)(N:Nat)(E: -10≤lo)(K:lo+N≤40000)(g:Nat)(O:DC pE 113 (.loop mT) ⟨fr,lh,sh⟩=D)(U:an fr 2= .i .i64 f)(F:an fr 10= .i .i64 (jU f t))(H:AM lh (an fr 11) R0)(V:an fr 13= .ptr .L 13 g 0)(W:an fr 16= .i .i64 (lo+N-1))(X:an fr 18= .i .i64 lo)(PQ:a6 lh 13=⟨g,.cells [.i .i64 p,.i .i64 q,.i .i64 o] 0 true⟩):
  ∃I J R,D=some (.ext 2,⟨I,J,sh⟩)∧AM J (an I 11) R∧ym R∧mY R=mY R0+uH (f-o) (jU f t) p q lo N∧R.length≤R0.length+N∧ ∀s,(jV (.loop mT)).contains s=false→an I s=an fr s:=by
 obtain⟨e,R,Y,Z,r3,r4,r5⟩:=avk f t o p q hf hl ho hp hq R0 h Hb lo N E K g fr lh sh U F H V W X PQ
 unfold rD at e;rw[r5]at e
 exact⟨_,_,R,O.symm.trans e,Y,Z,r3,r4,fun s hs=>nC e s hs⟩
def Vb(x:Int×Int×Int):Prop:=0≤x.1∧x.1<x.2.1∧x.2.1≤52596000∧ -840≤x.2.2∧x.2.2≤840
theorem Nf{a b o:Int}(D:0≤a)(E:b≤52596000)(ho: -840≤o∧o≤840): ∀x∈yl a b o,Vb x:=by
 intro x h
 unfold yl at h
 split at h
 ·rw[List.mem_singleton.1 h]
  exact⟨D,by assumption,E,ho⟩
 ·cases h
theorem Ng{o:Int}(h:uF o=true): -840≤o∧o≤840:=by
 grind [uF]
theorem Nh{A B:Int}(h:0≤A)(D:B≤52596000): ∀(l:List (Int×Int)) (fr o:Int),(-840≤o∧o≤840)→(∀s∈l,uF s.2=true)→ ∀x∈oc A B fr o l,Vb x
 | [],fr,o,ho,hl,x,hx=>by
   rw[oc]at hx
   exact Nf (by omega) (by omega) ho x hx
 |s::r,fr,o,ho,hl,x,hx=>by
  rw[oc,List.mem_append]at hx
  rcases hx with hx|hx
  ·exact Nf (by omega) (by omega) ho x hx
  ·exact Nh h D r s.1 s.2 (Ng (hl s (by simp))) (fun y E=>hl y (by simp[E])) x hx
theorem ZC{f t:Int}(hf:0≤f∧f<1440)(ht:0≤t∧t<1440)(hl:jU f t≠0){p q o:Int}(h:p<q):uH (f-o) (jU f t) p q ((p+o)/1440-1) ((q-1+o)/1440-((p+o)/1440-1)+1).toNat=uG (fun x=>kC ((x+o)%1440) f t) p q:=by
 have D:=Jb (o:=o) (p:=p) hf ht hl ((p+o)/1440-1) ((q-1+o)/1440-((p+o)/1440-1)+1).toNat (Int.le_refl _) (q-p).toNat (by
  rw[show p+((q-p).toNat:Int)=q by omega]
  omega)
 rw[show p+((q-p).toNat:Int)=q by omega]at D
 rw[D];rfl
theorem rl1{r k n:Nat}(h:r≤40000*k)(D:k<n)(E:n≤17):r≤1000000:=by omega
theorem rl2{r s N k:Nat}(h:s≤r+N)(D:r≤40000*k)(E:N≤40000):s≤40000*(k+1):=by omega
theorem rl3{r n:Nat}(h:r≤40000*n)(D:n≤17):r≤1000000:=by omega
theorem afU{p q o:Int}(h:Vb (p,q,o)): -2≤(p+o)/1440∧(q-1+o)/1440≤36527∧(p+o)/1440≤(q-1+o)/1440:=by
 obtain⟨D,E,F,H,I⟩:=h
 grind
theorem aoQ(L:List (Int×Int×Int))(j:Nat)(E:j<L.length): ∃r,∀kk,pv (kz L.length (Aw L)) (.i kk (j:Int)) 3=some (.vp (.i .i64 L[j].1:: .i .i64 L[j].2.1:: .i .i64 L[j].2.2::r)):=by
 have hs:IsSl (kz L.length (Aw L)) L.length (Aw L):=mg fun h=>by rw[List.length_eq_zero_iff.1 h];rfl
 have D:(Aw L).length=L.length*3:=r9 (sz:=3) (fun _=>rfl) L
 refine⟨Aw (L.drop (j+1)),fun kk=> ?_⟩
 rw[hs.ia D E]
 have:Aw L=Aw (L.take j)++Aw (L.drop j):=by rw[←Na,List.take_append_drop]
 have Qu:(Aw (L.take j)).length=j*3:=by rw[show(Aw (L.take j)).length=(L.take j).length*3 from r9 (sz:=3) (fun _=>rfl) _,List.length_take,Nat.min_eq_left (by omega)]
 rw[this,List.drop_append,Qu,Nat.sub_self,List.drop_zero,List.drop_eq_nil_of_le (by omega),List.nil_append,List.drop_eq_getElem_cons E]
 rfl
section
variable(f t A B:Int)(hs:SpB A B f t)(hl:jU f t≠0)(L:List (Int×Int×Int))(hL: ∀x∈L,Vb x)(hLl:L.length≤17)
include hs hl hL hLl
theorem avo(fr:Fr)(lh:iz ib)(sh:List ib)(H:an fr 2= .i .i64 f)(E:an fr 10= .i .i64 (jU f t))(O:an fr 11= .nilsl)(A3:an fr 32=kz L.length (Aw L))(CW:an fr 33= .i .i64 (L.length:Int))(Ka:an fr 34= .i .i64 0):
  rD 113 oL fr lh sh (.ext 0)∧
  (∃R,AM (lZ pE 113 oL fr lh sh) (an (pw pE 113 oL fr lh sh) 11) R∧ym R∧mY R=wJ (fun x=>kC ((x.1+x.2)%1440) f t) L∧R.length≤1000000∧ng pE 113 oL fr lh sh=sh):=by
 obtain⟨s1,s2,s3,f1,f2,t1,t2⟩:=hs
 have hb:1≤jU f t∧jU f t<1440:=by unfold jU at hl ⊢; omega
 refine lQ (fun k st=> ∃(fr:Fr) (lh:iz ib) (R:List (Int×Int)),st=⟨fr,lh,sh⟩∧AM lh (an fr 11) R∧ym R∧mY R=wJ (fun x=>kC ((x.1+x.2)%1440) f t) (L.take k)∧R.length≤40000*k∧an fr 2= .i .i64 f∧an fr 10= .i .i64 (jU f t)∧an fr 32=kz L.length (Aw L)∧an fr 33= .i .i64 (L.length:Int)∧an fr 34= .i .i64 (k:Int))
  (fun F iN jb=> ∃R,AM iN (an F 11) R∧ym R∧mY R=wJ (fun x=>kC ((x.1+x.2)%1440) f t) L∧R.length≤1000000∧jb=sh) _ L.length ?_ ?_ fr lh sh ⟨fr,lh,[],rfl,.inl ⟨rfl,O⟩,(fun x J=>by cases J),rfl,by simp,H,E,A3,CW,Ka⟩
 ·rintro k _ K ⟨fr,lh,R,rfl,U,V,DS,h,H,E,A3,CW,Ka⟩
  have iR:(k:Int)<L.length:=by omega
  have hw:=iM (k:=k) (by omega)
  obtain⟨rr,iS⟩:=aoQ L k K
  have J:=hL _ (List.getElem_mem K)
  have pD:wJ (fun x=>kC ((x.1+x.2)%1440) f t) (L.take (k+1))=wJ (fun x=>kC ((x.1+x.2)%1440) f t) (L.take k)+uG (fun x=>kC ((x+L[k].2.2)%1440) f t) L[k].1 L[k].2.1:=by
   rw[List.take_succ_eq_append_getElem K,Jc];simp[wJ]
  rw[pD]
  generalize L[k]=x at*
  obtain⟨p,q,o⟩:=x
  obtain⟨b1,b2,b3⟩:=afU J
  obtain⟨x1,W,x3,X⟩:=J
  simp only at x1 W x3 X iS ⊢
  have XH:=ZC (o:=o) ⟨f1,f2⟩ ⟨t1,t2⟩ hl W
  have w1:wr .i64 (p+o)=p+o:=jw (by omega)
  have w2:wr .i64 (q-1)=q-1:=jw (by omega)
  have w3:wr .i64 (q-1+o)=q-1+o:=jw (by omega)
  have q1:=zG (p+o) (by unfold Av;omega)
  have q2:=zG (q-1+o) (by unfold Av;omega)
  generalize (p+o)/1440=d1 at*
  generalize (q-1+o)/1440=d2 at*
  have w4:wr .i64 (d1-1)=d1-1:=jw (by omega)
  have Y:d2=d1-1+((d2-(d1-1)+1).toNat:Int)-1:=by omega
  have Z:d1-1+((d2-(d1-1)+1).toNat:Int)≤40000:=by omega
  generalize (d2-(d1-1)+1).toNat=N at*
  have hN3:N≤40000:=by omega
  generalize (p+o)%1440=e1 at*
  generalize (q-1+o)%1440=e2 at*
  simp only[qA,seval,oL,A3,CW,Ka,iR,iS,w1,w2,w3,w4,q1,q2,aaZ]
  generalize hD:DC pE 113 (.loop mT) _=D
  obtain⟨F,iN,R',rfl,r1,r2,r3,r4,I⟩:=aoP ⟨f1,f2⟩ hb ⟨X.1,X.2⟩ x1 ⟨W,x3⟩ R V (rl1 h K hLl) (d1-1) N (by omega) Z ((a6 lh 13).g+1) hD (by simp only[qA,seval,H]) (by simp only[qA,seval,E]) (by
   rcases U with⟨e1,e2⟩|⟨R1,y,g',e1,e2,e3⟩
   ·exact .inl ⟨e1,by simp only[qA,seval,e2]⟩
   ·exact .inr ⟨R1,y,g',e1,by simp only[qA,seval,e2],by simp only[qA,seval,e3]⟩) (by simp only[qA,seval]) (by simp only[qA,seval,←Y]) (by simp only[qA,seval]) (by simp only[qA,seval])
  have g2:an F 2= .i .i64 f:=by rw[I 2 (by decide)];simp only[qA,seval,H]
  have g10:an F 10= .i .i64 (jU f t):=by rw[I 10 (by decide)];simp only[qA,seval,E]
  have g32:an F 32=kz L.length (Aw L):=by rw[I 32 (by decide)];simp only[qA,seval,A3]
  have g33:an F 33= .i .i64 (L.length:Int):=by rw[I 33 (by decide)];simp only[qA,seval,CW]
  have g34:an F 34= .i .i64 (k:Int):=by rw[I 34 (by decide)];simp only[qA,seval,Ka]
  rw[XH]at r3
  simp only[qA,seval,g34,hw]
  refine k7 ⟨_,_,R',rfl,by simp only[qA,seval];exact r1,r2,by rw[r3,DS],rl2 r4 h hN3,by simp only[qA,seval,g2],by simp only[qA,seval,g10],by simp only[qA,seval,g32],by simp only[qA,seval,g33],by simp only[qA,seval]⟩
 ·rintro _ ⟨fr,lh,R,rfl,U,V,DS,h,H,E,A3,CW,Ka⟩
  rw[List.take_length]at DS
  simp only[qA,seval,oL,CW,Ka,Int.lt_irrefl]
  exact mI ⟨rfl,R,by simp only[qA,seval];exact U,V,DS,rl3 h hLl,rfl⟩
end
theorem Lu{z:Zo}{A B f t:Int}(hf:0≤f∧f<1440)(ht:0≤t∧t<1440)(h:jU f t=0):z.bandM A B f t=0:=by
 have D: ∀n,pf (fun x=>kC (z.clk x) f t) A n=0:=by
  intro n
  induction n with
  |zero=>rfl
  |succ n ih=>
   rw[pf,ih]
   have e:kC (z.clk (A+n)) f t=false:=by
    have:=Ja (m:=A+n+z.off (A+n)) hf ht
    rw[show(A+n+z.off (A+n))%1440=z.clk (A+n)from rfl,h]at this
    grind
   simp[e]
 exact D _
theorem aoS{v:T}{R:List (Int×Int)}(h:IsSl v R.length (J9 R))(j:Nat)(D:j<R.length): ∃r,∀kk,pv v (.i kk (j:Int)) 2=some (.vp (.i .i64 R[j].1:: .i .i64 R[j].2::r)):=by
 refine⟨J9 (R.drop (j+1)),fun kk=> ?_⟩
 rw[h.ia (A2 R) D]
 simp_all[J9,zw]
theorem Gk: ∀{R:List (Int×Int)},ym R→0≤mY R
 | [],_=>by simp[mY]
 |x::R,h=>by
  have E:=h x (by simp)
  have F:=Gk (R:=R) fun y D=>h y (by simp[D])
  grind [mY]
theorem PR{R:List (Int×Int)}(h:ym R)(k:Nat):0≤mY (R.take k)∧mY (R.take k)≤mY R:=by
 have e:mY R=mY (R.take k)+mY (R.drop k):=by rw[←qw,List.take_append_drop]
 have E:=Gk (R:=R.take k) fun y D=>h y (List.mem_of_mem_take D)
 have F:=Gk (R:=R.drop k) fun y D=>h y (List.mem_of_mem_drop D)
 omega
theorem AM.fz{lh:iz ib}{sh:List ib}{v:T}{R:List (Int×Int)}{m:Nat}(h:AM lh v R): ∃w u,Ev.fzW m lh sh false v=some (w,u)∧IsSl w R.length (J9 R)∧F9 sh u=sh:=by
 rcases h with⟨rfl,rfl⟩|⟨R',x,g,rfl,rfl,h⟩
 ·exact⟨.nilsl,[],vt rfl,.inl ⟨rfl,rfl,rfl⟩,rfl⟩
 ·have hl:=Nd R' (.i .i64 x.1) (.i .i64 x.2)
  refine⟨_,_,by rw[AV,h,tg,if_pos ⟨rfl,by rw[hl];omega⟩],.inr ⟨false, ?_⟩,rfl⟩
  rw[List.drop_zero,List.take_of_length_le (by rw[hl];omega),Nc,List.length_append];rfl
theorem aoT{f t A B:Int}{fr:Fr}{lh:iz ib}{sh:List ib}{D:Option (Out×St)}(hs:SpB A B f t)(hl:jU f t≠0)(L:List (Int×Int×Int))(hL: ∀x∈L,Vb x)(hLl:L.length≤17)(I:DC pE 113 (.loop oL) ⟨fr,lh,sh⟩=D)(J:an fr 2= .i .i64 f)(h:an fr 10= .i .i64 (jU f t))(E:an fr 11= .nilsl)(A3:an fr 32=kz L.length (Aw L))(CW:an fr 33= .i .i64 (L.length:Int))(Ka:an fr 34= .i .i64 0):
  ∃F H R,D=some (.ext 0,⟨F,H,sh⟩)∧AM H (an F 11) R∧ym R∧mY R=wJ (fun x=>kC ((x.1+x.2)%1440) f t) L∧R.length≤1000000∧ ∀s,(jV (.loop oL)).contains s=false→an F s=an fr s:=by
 obtain⟨e,R,K,N,O,U,V⟩:=avo f t A B hs hl L hL hLl fr lh sh J h E A3 CW Ka
 unfold rD at e;rw[V]at e
 exact⟨_,_,R,I.symm.trans e,K,N,O,U,fun s hs=>nC e s hs⟩
section
variable(z:Zo)(a:T)(hz:Zy z a)(hv:nh z=0)(A B f t:Int)(hs:SpB A B f t)
include hz hv hs
theorem Vc: ∃v R s,hZ pE 163 [.agg (qK z a),.agg [.i .i64 A,.i .i64 B],.i .i64 f,.i .i64 t] []=some (.tup [v,.i .i64 (jU f t)],s)∧IsSl v R.length (J9 R)∧ym R∧mY R=z.bandM A B f t∧R.length≤1000000:=by
 have F:=U9 z a hz (nE hv).2.1 A B _ rfl
 have J:=hs
 obtain⟨N,s2,O,U,V,W,X⟩:=J
 have XH:=Lr (f:=f) (t:=t) hv N O
 have Y:=Nh N O z.sh 0 z.o (Ng (nE hv).1) (fun s q=>(A0 (nE hv).2.2 s q).2)
 have H:(oc A B 0 z.o z.sh).length≤17:=by
  have Z: ∀(l:List (Int×Int)) (fr o:Int),(oc A B fr o l).length≤l.length+1:=by
   have I: ∀p q o:Int,(yl p q o).length≤1:=fun p q o=>by unfold yl;split <;> simp
   intro l
   induction l with
   |nil=>grind [oc]
   |cons s r ih=>grind [oc,List.length_append,List.length_cons]
  grind [nE]
 have pX:lenI (kz (oc A B 0 z.o z.sh).length (Aw (oc A B 0 z.o z.sh)))=some (.i .i64 ((oc A B 0 z.o z.sh).length:Int)):=(mg (cs:=Aw (oc A B 0 z.o z.sh)) fun h=>by rw[List.length_eq_zero_iff.1 h];rfl).lenI
 have DQ:wr .i64 (t-f)=t-f:=jw (by omega)
 have MX:wr .i64 (t-f+1440)=t-f+1440:=jw (by omega)
 have E:(t-f+1440).tmod 1440=jU f t:=by unfold jU;exact Int.tmod_eq_emod_of_nonneg (by omega)
 generalize oc A B 0 z.o z.sh=L at*
 obtain⟨cc,ha,hc⟩:=hz
 unfold qK at F ⊢
 rw[im abl (by simp[Ol])]
 by_cases hl:jU f t=0
 ·refine⟨.nilsl,[],[], ?_,.inl ⟨rfl,rfl,rfl⟩,(fun x hx=>by cases hx), ?_,by simp⟩
  ·rw[hl]at E
   simp only[qA,seval,Ol,DQ,MX,E,hl]
  ·rw[Lu ⟨U,V⟩ ⟨W,X⟩ hl];rfl
 ·simp only[qA,seval,Ol,DQ,MX,E,hl,F,amw,pX,ha.froz1]
  generalize hD:DC pE 113 (.loop oL) _=D
  obtain⟨js,iN,R,rfl,r1,r2,r3,r4,pr⟩:=aoT hs hl L Y H hD (by simp only[qA,seval]) (by simp only[qA,seval]) (by simp only[qA,seval]) (by simp only[qA,seval]) (by simp only[qA,seval]) (by simp only[qA,seval])
  have K:an js 10= .i .i64 (jU f t):=by rw[pr 10 (by decide)];simp only[qA,seval]
  obtain⟨w,u,q1,q2,q3⟩:=r1.fz (sh:= []) (m:=6)
  simp only[qA,seval,K,q1]
  grind
omit hz hv hs in
theorem avq(v:T)(R:List (Int×Int))(H:IsSl v R.length (J9 R))(E:ym R)(hs:mY R≤52596000)(F:R.length≤1000000)(fr:Fr)(lh:iz ib)(sh:List ib)(h:an fr 13= .i .i64 0)(A3:an fr 32=v)(CW:an fr 33= .i .i64 (R.length:Int))(Ka:an fr 34= .i .i64 0):
  rD 47 uX fr lh sh (.ext 0)∧
  (an (pw pE 47 uX fr lh sh) 13= .i .i64 (mY R)∧ng pE 47 uX fr lh sh=sh):=by
 refine lQ (fun k st=> ∃(fr:Fr) (lh:iz ib),st=⟨fr,lh,sh⟩∧an fr 13= .i .i64 (mY (R.take k))∧an fr 32=v∧an fr 33= .i .i64 (R.length:Int)∧an fr 34= .i .i64 (k:Int))
  (fun I X J=>an I 13= .i .i64 (mY R)∧J=sh) _ R.length ?_ ?_ fr lh sh ⟨fr,lh,rfl,h,A3,CW,Ka⟩
 ·rintro k _ D ⟨fr,lh,rfl,h,A3,CW,Ka⟩
  have K:(k:Int)<R.length:=by omega
  have N:=pd (k:=k) (by omega)
  obtain⟨Y,O⟩:=aoS H k D
  have U:=PR E (k+1)
  have Z:=E _ (List.getElem_mem D)
  rw[List.take_succ_eq_append_getElem D,qw,qx]at U
  rw[List.take_succ_eq_append_getElem D,qw,qx]
  generalize R[k]=x at*
  generalize mY (R.take k)=q at*
  have V:wr .i64 (x.2-x.1)=x.2-x.1:=jw (by omega)
  have W:wr .i64 (q+(x.2-x.1))=q+(x.2-x.1):=jw (by omega)
  simp only[qA,seval,uX,h,A3,CW,Ka,K,O,N,V,W]
  exact k7 ⟨_,_,rfl,by simp only[qA,seval],by simp only[qA,seval,A3],by simp only[qA,seval,CW],by simp only[qA,seval]⟩
 ·rintro _ ⟨fr,lh,rfl,h,A3,CW,Ka⟩
  rw[List.take_length]at h
  simp only[qA,seval,uX,CW,Ka,Int.lt_irrefl]
  exact mI ⟨rfl,by simp only[qA,seval,h],rfl⟩
theorem afV:hZ pE 119 [.agg (qK z a),.agg [.i .i64 A,.i .i64 B],.i .i64 f,.i .i64 t] []=some (.tup [.i .i64 (z.bandM A B f t),.i .i64 0],[]):=by
 have h:=ZA z a hz hv A B f t hs
 obtain⟨v,R,s,D,E,H,F,I⟩:=Vc z a hz hv A B f t hs
 have J:z.bandM A B f t≤52596000:=by
  obtain⟨U,V,W,_⟩:=hs
  have:=A1 (fun x=>kC (z.clk x) f t) A (B-A).toNat
  unfold Zo.bandM uG
  omega
 have hL:=fun fr lh sh K A3 CW Ka=>avq v R E H (by rw[F];exact J) I fr lh sh K A3 CW Ka
 rw[F]at hL
 have N:=E.lenI
 obtain⟨X,O,hc⟩:=hz
 unfold qK at h D ⊢
 rw[im R5 (by simp[Rb])]
 simp only[qA,seval,Rb,h,D,N,hL,O.froz1,ama,amb]
end
theorem Vd{α:Type}{f:α→List Nat}: ∀{l:List α},(l.map f).Nodup→ ∀a∈l,∀b∈l,f a=f b→a=b
 | [],_,a,D,_,_,_=>by cases D
 |x::l,h,a,D,b,E,e=>by
  rw[List.map_cons,List.nodup_cons]at h
  rcases List.mem_cons.1 D with p|p <;> rcases List.mem_cons.1 E with q|q
  ·rw[p,q]
  ·exact absurd (List.mem_map.2 ⟨b,q,by rw[←e,p]⟩) h.1
  ·exact absurd (List.mem_map.2 ⟨a,p,by rw[e,q]⟩) h.1
  ·exact Vd h.2 a p b q e
theorem Ni{α:Type}{f:α→List Nat}: ∀{l:List α},(l.map f).Nodup→ ∀a∈l,l.find? (fun x=>f x==f a)=some a:=by
 intro l h a D
 cases hq:l.find? (fun x=>f x==f a)with
 |none=>
  have:=List.find?_eq_none.1 hq a D
  simp at this
 |some b=>
  have E:=List.mem_of_find?_eq_some hq
  have F:=List.find?_some hq
  rw[Vd h b E a D (by simpa using F)]
def zo0:Zo:=⟨[],0,[]⟩
def AN(t:Tt)(s:List Nat):Zo:=match t.ap.find? fun u=>u.cd==s with
 |some u=>(t.zo.find? fun z=>z.nm==u.zn).getD zo0
 |none=>zo0
theorem Lv{t:Tt}(ht:rL t=0){u:Ap}{z:Zo}{s:List Nat}(h:u∈t.ap)(hz:z∈t.zo)(D:u.cd=s)(E:z.nm=u.zn):AN t s=z:=by
 obtain⟨F,_,H,_⟩:=Ld t ht
 subst D
 unfold AN
 rw[Ni H u h]
 simp only
 rw[←E,Ni F z hz];rfl
theorem afW{t:Tt}(ht:rL t=0){s:List Nat}(hs:s∈t.ap.map Ap.cd): ∃u∈t.ap,u.cd=s∧ ∃z∈t.zo,z.nm=u.zn∧AN t s=z:=by
 obtain⟨_,F,_,_⟩:=yf t ht
 obtain⟨u,h,D⟩:=List.mem_map.1 hs
 obtain⟨z,hz,E⟩:=List.mem_map.1 (F u h)
 exact⟨u,h,D,z,hz,E,Lv ht h hz D E⟩
theorem zI{t:Tt}(ht:rL t=0){s:List Nat}(hs:s∈t.ap.map Ap.cd):nh (AN t s)=0:=by
 obtain⟨u,_,_,z,hz,_,h⟩:=afW ht hs
 rw[h];exact(yf t ht).1 z hz
theorem avr{t:Tt}(ht:rL t=0){q:List (List Nat×List T)}(hq:PG t.zo t.ap q)(h:q.map Prod.fst=t.ap.map Ap.cd){s:List Nat}(hs:s∈t.ap.map Ap.cd): ∃a,iH q s=some (qK (AN t s) a)∧Zy (AN t s) a:=by
 obtain⟨v,hv⟩:=zJ (by rw[h];exact hs)
 obtain⟨u,D,E,z,hz,F,H⟩:=hq _ (yn hv)
 rw[Lv ht D hz E F]
 obtain⟨a,I,e,J,K⟩:=H
 simp only at e
 subst e
 exact⟨a,hv,I,J,K⟩
theorem nB{t:Tt}(ht:rL t=0){f:Fl}(hf:f∈t.fl):f.fr∈t.ap.map Ap.cd∧f.to∈t.ap.map Ap.cd:=by
 have h:=(yf t ht).2.2.1 f hf
 unfold I5 at h
 split at h
 ·cases h
 split at h
 ·cases h
 split at h
 ·cases h
 rename_i q
 split at h
 ·cases h
 rename_i r
 exact⟨by simpa using q,by simpa using r⟩
theorem Nj{c:Ct}(h:l0 c=0):0≤c.nf∧c.nf≤1439∧0≤c.nt∧c.nt≤1439:=by
 unfold l0 at h
 split at h
 ·rename_i q;exact absurd h q
 rename_i g
 have g:mK c=0:=by omega
 unfold mK at g
 split at g
 ·cases g
 rename_i r
 have r:pz c=true:=by simpa using r
 unfold pz at r
 simp only[Bool.and_eq_true,M4]at r
 omega
def rj(c:Ct)(f:Fl):Int:=f.dp-c.rp
def rk(c:Ct)(g:Fl):Int:=g.ar+c.rl
def Gl(t:Tt)(c:Ct)(f g:Fl):Int:=if rj c f<rk c g then(AN t f.fr).bandM (rj c f) (rk c g) c.nf c.nt else 0
def Je(t:Tt)(c:Ct)(f g:Fl):Int:=max ((AN t f.fr).off (rj c f)-(AN t g.to).off (rk c g)) ((AN t g.to).off (rk c g)-(AN t f.fr).off (rj c f))
def Lw(t:Tt)(c:Ct)(f:Fl):Int:=(AN t f.fr).clk (rj c f)
def Lx(t:Tt)(c:Ct)(g:Fl):Int:=(AN t g.to).clk (rk c g)
theorem Jf{c:Ct}(hc:l0 c=0){f g:Fl}(hf:zE f)(h:zE g):(1440≤rj c f∧rj c f≤52593120)∧(2880≤rk c g∧rk c g≤52594560)∧wr .i64 (f.dp-c.rp)=rj c f∧wr .i64 (g.ar+c.rl)=rk c g∧wr .i64 (rk c g-rj c f)=rk c g-rj c f:=by
 obtain⟨_,D,E,F,H⟩:=hf
 obtain⟨_,I,J,K,N⟩:=h
 have r:=UY c hc
 unfold rj rk
 refine⟨by omega,by omega,jw (by omega),jw (by omega),jw (by omega)⟩
theorem A4{x:Int}(h:0≤x∧x<52596000):sq x=true:=by unfold sq;simp[h]
section
variable(t:Tt)(c:Ct)(zT aT fT a7 a8 a9 iv iw iy:T)(vs:List T)(hT:sI t zT aT fT)(hC:tZ c a7 a8 a9 iv iw iy)(hV:Gg t c vs)(ht:rL t=0)(hc:l0 c=0)
theorem Nk(hV:Gg t c vs)(ht:rL t=0){s:List Nat}(hs:s∈t.ap.map Ap.cd): ∃a,hZ pE 118 [pg c zT aT fT a7 a8 a9 iv iw iy vs,.s s] []=some (.agg (qK (AN t s) a),[])∧Zy (AN t s) a:=by
 obtain⟨q,H,I,J,K,N,O,U,V,rfl,hq,E,_⟩:=hV
 obtain⟨a,hv,D⟩:=avr ht hq E hs
 refine⟨a, ?_,D⟩
 have h:=MS (kT:=sK) (vT:=T.agg) DT (fun _=>rfl) q s (.agg [.s [],.i .i64 0,.nilsl])
 rw[hv]at h
 change nF _ _ _ (.s s) _ _=_ at h
 obtain⟨W,F,X⟩:=D
 unfold qK at*
 unfold pg jf
 simp only[List.cons_append,List.nil_append]
 rw[im aaL (by simp[Ra])]
 simp only[qA,seval,Ra,h,F.froz1]
theorem zK(hT:sI t zT aT fT)(i:Nat)(hi:i<t.fl.length): ∃r,hZ pE 66 [pg c zT aT fT a7 a8 a9 iv iw iy vs,.i .i64 (i:Int)] []=some (.vp (.s t.fl[i].nu:: .s t.fl[i].fr:: .s t.fl[i].to:: .i .i64 t.fl[i].dp:: .i .i64 t.fl[i].ar:: .s t.fl[i].ty:: .i .i64 t.fl[i].n0:: .i .i64 t.fl[i].n1:: .i .i64 t.fl[i].n2::r),[]):=by
 obtain⟨h,D,E⟩:=hT.f
 exact Lm zT aT fT (jf c a7 a8 a9 iv iw iy++vs) h t.fl D E i hi
theorem Jg(hT:sI t zT aT fT)(ht:rL t=0)(hc:l0 c=0)(i j:Nat)(hi:i<t.fl.length)(h:j<t.fl.length):hZ pE 69 [pg c zT aT fT a7 a8 a9 iv iw iy vs,.i .i64 (i:Int),.i .i64 (j:Int)] []=some (.agg [.i .i64 (rj c t.fl[i]),.i .i64 (rk c t.fl[j])],[]):=by
 obtain⟨J,D⟩:=zK t c zT aT fT a7 a8 a9 iv iw iy vs hT i hi
 obtain⟨K,F⟩:=zK t c zT aT fT a7 a8 a9 iv iw iy vs hT j h
 obtain⟨_,_,H,I,_⟩:=Jf hc ((mL t ht).1 _ (List.getElem_mem hi)) ((mL t ht).1 _ (List.getElem_mem h))
 generalize t.fl[i]=f at*
 generalize t.fl[j]=g at*
 generalize rj c f=S at*
 generalize rk c g=E at*
 unfold pg jf at*
 simp only[List.cons_append,List.nil_append]at*
 rw[im adU (by simp[c69])]
 simp only[qA,seval,iY,iC,c69,D,F,H,I,HW,alg]
theorem Ve(hT:sI t zT aT fT)(hV:Gg t c vs)(ht:rL t=0)(hc:l0 c=0)(i j:Nat)(hi:i<t.fl.length)(V:j<t.fl.length)(x0 x1 x2 x3 x4 x5 x6 x7 x8 x9 DU:T):
  hZ pE 68 [pg c zT aT fT a7 a8 a9 iv iw iy vs,.isl .S 0 1 0 11 1,.i .i64 (i:Int),.i .i64 (j:Int)] [⟨1,.cells [x0,x1,x2,x3,x4,x5,x6,x7,x8,x9,DU] 0 false⟩]=some (.tup [],[⟨1,.cells [x0,x1,x2,x3,.i .i64 (rk c t.fl[j]-rj c t.fl[i]),.i .i64 (Gl t c t.fl[i] t.fl[j]),x6,x7,.i .i64 (Je t c t.fl[i] t.fl[j]),.i .i64 (Lw t c t.fl[i]),.i .i64 (Lx t c t.fl[j])] 0 false⟩]):=by
 have F:=Jg t c zT aT fT a7 a8 a9 iv iw iy vs hT ht hc i j hi V
 obtain⟨r1,h1⟩:=zK t c zT aT fT a7 a8 a9 iv iw iy vs hT i hi
 obtain⟨r2,h2⟩:=zK t c zT aT fT a7 a8 a9 iv iw iy vs hT j V
 have hf:=List.getElem_mem hi
 have W:=List.getElem_mem V
 obtain⟨b1,b2,_,_,w3⟩:=Jf hc ((mL t ht).1 _ hf) ((mL t ht).1 _ W)
 obtain⟨X,H,OJ⟩:=Nk t c zT aT fT a7 a8 a9 iv iw iy vs hV ht (nB ht hf).1
 obtain⟨zb,I,ZD⟩:=Nk t c zT aT fT a7 a8 a9 iv iw iy vs hV ht (nB ht W).2
 have U:=zI ht (nB ht hf).1
 have Y:=zI ht (nB ht W).2
 have nf:=Nj hc
 have i1:=A4 (x:=rj c t.fl[i]) (by omega)
 have i2:=A4 (x:=rk c t.fl[j]) (by omega)
 have o1:=wH _ X OJ U _ i1
 have o2:=wH _ zb ZD Y _ i2
 have l1:=I8 _ X OJ U _ i1
 have l2:=I8 _ zb ZD Y _ i2
 have d1:=Zo.off_bd U (rj c t.fl[i])
 have d2:=Zo.off_bd Y (rk c t.fl[j])
 have Z:rj c t.fl[i]<rk c t.fl[j]→_:=fun h=>afV _ X OJ U (rj c t.fl[i]) (rk c t.fl[j]) c.nf c.nt ⟨by omega,by omega,by omega,by omega,by omega,by omega,by omega⟩
 have J:=OJ.choose_spec.1.froz1
 have K:=ZD.choose_spec.1.froz1
 have ca:=OJ.choose_spec.1.cells
 have cb:=ZD.choose_spec.1.cells
 unfold Gl Je Lw Lx
 generalize t.fl[i]=f at*
 generalize t.fl[j]=g at*
 generalize rj c f=S at*
 generalize rk c g=E at*
 generalize AN t f.fr=N at*
 generalize AN t g.to=O at*
 have w4:wr .i64 (N.off S-O.off E)=N.off S-O.off E:=jw (by omega)
 have w5:wr .i64 (O.off E-N.off S)=O.off E-N.off S:=jw (by omega)
 generalize N.off S=p1 at*
 generalize O.off E=p2 at*
 have Nl:=zF c zT aT fT a7 a8 a9 iv iw iy vs
 have hkv:kept (pg c zT aT fT a7 a8 a9 iv iw iy vs)=true:=nr rfl
 unfold qK at*
 rw[im adT (by simp[c68])]
 by_cases D:S<E
 ·have Z:=Z D
  have wy:0<E-S:=by omega
  rw[if_pos D]
  unfold pg jf at*
  simp only[List.cons_append,List.nil_append]at*
  simp only[qA,seval,iY,iC,nl,c68,F,h1,h2,H,I,w3,w4,w5,wy,Z,o1,o2,l1,l2,su,qv,J,K,Jh,uK,uL,HW,adV,aaM,aaN,aaO,R6,alv]
  rfl
 ·have wy: ¬0<E-S:=by omega
  rw[if_neg D]
  unfold pg jf at*
  simp only[List.cons_append,List.nil_append]at*
  simp only[qA,seval,iY,iC,nl,c68,F,h1,h2,H,I,w3,w4,w5,wy,o1,o2,l1,l2,su,qv,J,K,HW,adV,aaM,aaN,aaO,R6,alv]
  rfl
end
end Go.Proofs.YtbdfboojnfinkaaGreat
namespace Go.Ev
open Go
theorem ZE{E:Env}{h:p7}{n:Nat}{fr:Fr}{lh:iz ib}{sh:List ib}{D:List be}{d bytes:Nat}{z:List T}{x:iD}(F:d<n):ij E h n (⟨some d,.mksl z bytes x true,none⟩::D) ⟨fr,lh,sh⟩=
  (KM (rd fr x) bytes).bind fun m=>ij E h n D ⟨j3 fr d (.isl .S sh.length 1 0 m z.length),lh,jO sh sh.length ⟨1,.cells (repl z m) 0 (Xg z)⟩⟩:=by
 rw[pG (by rfl) (show DH n (some d)from F)]
 unfold one KM
 simp only[jk]
 cases asNat (rd fr x)with
 |none=>rfl
 |some m=>
  simp only[Bool.and_eq_true,decide_eq_true_eq]
  split <;> rfl
end Go.Ev
namespace Go.Proofs.YtbdfboojnfinkaaGreat
open Go Go.Ev
structure Cn where
 lg:Int
 hd:Int
 bk:Int
 lo:Int
 so:Int
 ks:List (List Nat)
def cn0:Cn:=⟨0,0,0,0,1440,[]⟩
def adK(s:List Nat)(l:List (List Nat)):List (List Nat):=if s∈l then l else l++ [s]
def QB(f:Fl)(h:Bool)(s:Cn):Cn:=if h=true then{s with hd:=s.hd+1}else{s with lg:=s.lg+1,bk:=s.bk+(f.ar-f.dp),ks:=adK f.ty s.ks}
def cnG(g f:Fl)(s:Cn):Cn:={s with lo:=max s.lo (f.dp-g.ar),so:=min s.so (f.dp-g.ar)}
def tkG(d:List (Int×Bool))(k:Nat):Int×Bool:=d.getD k (0,false)
def kb(h:List Fl)(d:List (Int×Bool))(k:Nat):Fl:=flG h (tkG d k).1
def qG(h:List Fl)(d:List (Int×Bool)):Nat→Cn
 |0=>cn0
 |k+1=>if k=0 then QB (kb h d k) (tkG d k).2 (qG h d k)else cnG (kb h d (k-1)) (kb h d k) (QB (kb h d k) (tkG d k).2 (qG h d k))
def Gm(k:Nat)(s:Cn):Prop:=(0≤s.lg∧s.lg≤k)∧(0≤s.hd∧s.hd≤k)∧(0≤s.bk∧s.bk≤1440*k)∧(0≤s.lo∧s.lo≤52593120)∧(-52593120≤s.so∧s.so≤1440)∧s.ks.length≤k
theorem afY:Gm 0 cn0:=by unfold Gm cn0;simp
theorem Vf{f:Fl}(hf:zE f){h:Bool}{k:Nat}{s:Cn}(hs:Gm k s):Gm (k+1) (QB f h s):=by
 obtain⟨_,D,E,F,H⟩:=hf
 grind [adK,Gm,QB]
theorem Ly{f g:Fl}(hf:zE f)(h:zE g): -52593120≤f.dp-g.ar∧f.dp-g.ar≤52593120:=by
 obtain⟨_,D,E,F,H⟩:=hf
 obtain⟨_,I,J,K,N⟩:=h
 omega
theorem afZ{f g:Fl}(hf:zE f)(h:zE g){k:Nat}{s:Cn}(hs:Gm k s):Gm k (cnG g f s):=by
 have:=Ly hf h
 grind [Gm,cnG]
theorem Lz{d:List (Int×Bool)}{k:Nat}(h:k<d.length):tkG d k=d[k]:=by grind [tkG]
theorem nq{h:List Fl}(F: ∀f∈h,zE f){d:List (Int×Bool)}(D: ∀k∈d,yh h.length k.1=true){k:Nat}(E:k<d.length): ∃i:Nat,∃hi:i<h.length,d[k].1=i∧kb h d k=h[i]∧zE (kb h d k):=by
 obtain⟨i,hi,e⟩:=CM (D _ (List.getElem_mem E))
 grind [kb,Lz,afP]
theorem Gn{D:List Fl}(E: ∀f∈D,zE f){d:List (Int×Bool)}(F: ∀k∈d,yh D.length k.1=true): ∀k,k≤d.length→Gm k (qG D d k)
 |0,_=>afY
 |k+1,h=>by
  have ih:=Gn E F k (by omega)
  obtain⟨_,_,_,_,H⟩:=nq E F (k:=k) (by omega)
  rw[qG]
  split
  ·exact Vf H ih
  ·obtain⟨_,_,_,_,I⟩:=nq E F (k:=k-1) (by omega)
   exact afZ H I (Vf H ih)
theorem acC(s:List Nat)(l:List (List Nat))(a:T)(U:IsSl a l.length (l.map T.s))(N:l.length≤1000)(r:Int)(D:r=ixA s l 0)(o:Out)(ho:o=if r<0 then .ext 0 else .ret)(fr:Fr)(lh:iz ib)(sh:List ib)(F:an fr 0=a)(H:an fr 1= .s s)(E:an fr 7= .i .i64 (l.length:Int))(I:an fr 8= .i .i64 0):
  rD 19 yQ fr lh sh o∧
  ((¬r<0→an (pw pE 19 yQ fr lh sh) 4= .i .i64 r)∧ng pE 19 yQ fr lh sh=sh):=by
 refine lQ (fun k st=> ∃(fr:Fr) (lh:iz ib),st=⟨fr,lh,sh⟩∧r=ixA s (l.drop k) k∧an fr 0=a∧an fr 1= .s s∧an fr 7= .i .i64 (l.length:Int)∧an fr 8= .i .i64 (k:Int))
  (fun V Z W=>(¬r<0→an V 4= .i .i64 r)∧W=sh) _ l.length ?_ ?_ fr lh sh ⟨fr,lh,rfl,D,F,H,E,I⟩
 ·rintro k _ J ⟨fr,lh,rfl,D,F,H,E,I⟩
  have X:(k:Int)<l.length:=by omega
  have Y:=iM (k:=k) (by omega)
  have K: ∃O,∀kk,pv a (.i kk (k:Int)) 1=some (.vp (.s l[k]::O)):=by
   refine⟨(l.map T.s).drop (k+1),fun kk=> ?_⟩
   rw[U.ia (sz:=1) (by simp) J,Nat.mul_one,List.drop_eq_getElem_cons (by simpa using J),List.getElem_map]
  obtain⟨O,K⟩:=K
  rw[List.drop_eq_getElem_cons J,ixA]at D
  generalize l[k]=y at*
  simp only[qB,seval,yQ,F,H,E,I,X,K,Y]
  refine wD (fun h=> ?_) (fun h=> ?_)
  ·rw[if_pos h.symm]at D
   exact uD ⟨by rw[ho,if_neg (by omega)],fun _=>(by simp only[qA,seval,D]),rfl⟩
  ·rw[if_neg (fun e=>h e.symm)]at D
   exact k7 ⟨_,_,rfl,D,by simp only[qA,seval,F],by simp only[qA,seval,H],by simp only[qA,seval,E],by simp only[qA,seval]⟩
 ·rintro _ ⟨fr,lh,rfl,D,F,H,E,I⟩
  rw[List.drop_length,ixA]at D
  simp only[qA,seval,yQ,E,I,Int.lt_irrefl]
  grind [mI]
theorem Gp(s:List Nat)(l:List (List Nat))(a:T)(E:IsSl a l.length (l.map T.s))(D:l.length≤1000):hZ pE 67 [a,.s s] []=some (.b (decide (s∈l)),[]):=by
 have hL:=fun fr lh sh H I J K=>acC s l a E D _ rfl _ rfl fr lh sh H I J K
 have Gq:=zL s l 0
 have IX:=A5 s l 0
 have F:hZ pE 40 [a,.s s] []=some (.i .i64 (ixA s l 0),[]):=by
  rw[im Xa (by simp[WY])]
  generalize ixA s l 0=v at*
  by_cases h:v<0
  ·have e:=Gq h
   subst e
   simp only[qA,seval,WY,hL,E.lenI]
  ·simp only[h,if_false,not_false_eq_true,forall_const]at hL
   simp only[qA,seval,WY,hL,E.lenI]
 have N:decide (s∈l)=decide (0≤ixA s l 0):=by
  grind
 rw[N]
 rw[im alh (by simp[c67])]
 generalize ixA s l 0=v at*
 simp only[qA,seval,c67,F,E.froz,akU]
def dvC(s:Cn):List T:= [.i .i64 s.lg,.i .i64 s.hd,.i .i64 0,.i .i64 s.bk,.i .i64 0,.i .i64 0,.i .i64 s.lo,.i .i64 s.so,.i .i64 0,.i .i64 0,.i .i64 0]
theorem acD{n:Nat}(h:n≤1000):(n+1)*16≤roomy:=by unfold roomy;omega
section
variable(t:Tt)(c:Ct)(zT aT fT a7 a8 a9 iv iw iy:T)(vs:List T)(hT:sI t zT aT fT)(ht:rL t=0)
include hT ht
theorem avs(d:List (Int×Bool))(U:T)(hd:CJ d U)(hlen:d.length≤100)(h: ∀k∈d,yh t.fl.length k.1=true)(fr:Fr)(lh:iz ib)(sh:List ib)(lC:sh= [⟨1,.cells (dvC cn0) 0 false⟩])(h0:an fr 0=pg c zT aT fT a7 a8 a9 iv iw iy vs)(h1:an fr 1=U)(h5:an fr 5= .isl .S 0 1 0 11 1)(h6:an fr 6= .nilsl)(jN:an fr 14=U)(Ar:an fr 15= .i .i64 (d.length:Int))(H:an fr 16= .i .i64 0):
  Lp pE 117 yO fr lh sh (.ext 0) fun f l s=>iP l (an f 6) 64 1 (qG t.fl d d.length).ks.length ((qG t.fl d d.length).ks.map T.s)∧s= [⟨1,.cells (dvC (qG t.fl d d.length)) 0 false⟩]:=by
 refine px wU (fun k f l s=>an f 16= .i .i64 (k:Int)∧iP l (an f 6) 64 1 (qG t.fl d k).ks.length ((qG t.fl d k).ks.map T.s)∧s= [⟨1,.cells (dvC (qG t.fl d k)) 0 false⟩]) d.length ⟨H,by rw[h6];exact iP.nil,lC⟩ ?_ ?_
 ·rintro k I l _ V O ⟨H,D,rfl⟩
  have iR:(k:Int)<d.length:=by omega
  have hw:=iM (k:=k) (by omega)
  have W:=(mL t ht).1
  obtain⟨rr,X⟩:=rh hd k V
  obtain⟨i,hi,ei,ef,WS⟩:=nq W h V
  obtain⟨r2,Y⟩:=zK t c zT aT fT a7 a8 a9 iv iw iy vs hT i hi
  rw[←ef]at Y
  obtain⟨c1,c2,c3,c4,c5,c6⟩:=Gn W h k (by omega)
  have pD:qG t.fl d (k+1)=if k=0 then QB (kb t.fl d k) d[k].2 (qG t.fl d k)else cnG (kb t.fl d (k-1)) (kb t.fl d k) (QB (kb t.fl d k) d[k].2 (qG t.fl d k)):=by rw[qG,Lz V]
  have J:=Gp (kb t.fl d k).ty (qG t.fl d k).ks (kz (qG t.fl d k).ks.length ((qG t.fl d k).ks.map T.s)) D.isl (by omega)
  have E:=fun(Z:iz ib) (jb:List ib) (keep:Bool) (e:a6 Z 64=a6 l 64)=>(D.congr e).fzV (sh:=jb) (keep:=keep)
  have mw:=fun(Z:iz ib) (jb:List ib) (e:a6 Z 64=a6 l 64)=>uI (sh:=jb) (D.congr e) [.s (kb t.fl d k).ty] rfl (bytes:=16) (acD (by omega)) true
  have AO:=D.notS
  rw[ei]at X
  obtain⟨_,f1,f2,f3,f4⟩:=id WS
  generalize K:an I 6=v6 at D E mw AO
  generalize qG t.fl d k=s at*
  have w1:wr .i64 (s.lg+1)=s.lg+1:=jw (by omega)
  have w2:wr .i64 (s.hd+1)=s.hd+1:=jw (by omega)
  have w3:wr .i64 ((kb t.fl d k).ar-(kb t.fl d k).dp)=(kb t.fl d k).ar-(kb t.fl d k).dp:=jw (by omega)
  have w4:wr .i64 (s.bk+((kb t.fl d k).ar-(kb t.fl d k).dp))=s.bk+((kb t.fl d k).ar-(kb t.fl d k).dp):=jw (by omega)
  have Nl:=zF c zT aT fT a7 a8 a9 iv iw iy vs
  have N:adK (kb t.fl d k).ty s.ks=if(kb t.fl d k).ty∈s.ks then s.ks else s.ks++ [(kb t.fl d k).ty]:=rfl
  by_cases DV:k=0
  ·have F: ¬(0:Int)<(k:Int):=by omega
   rw[pD,if_pos DV]
   generalize kb t.fl d k=f at*
   generalize d[k].2=b at*
   cases b <;> by_cases hm:f.ty∈s.ks <;> simp only[qA,seval,gd,repl,iY,iC,nl,yO,wU,O,h0,h1,h5,K,jN,Ar,H,iR,hw,X,Y,w1,w2,w3,w4,Nl,Jh,uK,uL,F,AO,E,mw,J,hm,lz,D,N,QB,dvC,List.length_append,List.map_append,HW,ali]
  ·have F:(0:Int)<(k:Int):=by omega
   have DQ:=pQ (k:=k) (by omega) (by omega)
   obtain⟨r3,PS⟩:=rh hd (k-1) (by omega)
   obtain⟨j,hj,ej,eg,gok⟩:=nq W h (k:=k-1) (by omega)
   obtain⟨r4,zp⟩:=zK t c zT aT fT a7 a8 a9 iv iw iy vs hT j hj
   rw[←eg]at zp
   rw[ej]at PS
   have gap:=Ly WS gok
   have w5:wr .i64 ((kb t.fl d k).dp-(kb t.fl d (k-1)).ar)=(kb t.fl d k).dp-(kb t.fl d (k-1)).ar:=jw (by omega)
   rw[pD,if_neg DV]
   generalize kb t.fl d k=f at*
   generalize kb t.fl d (k-1)=g at*
   generalize d[k].2=b at*
   cases b <;> by_cases hm:f.ty∈s.ks <;> simp only[qA,seval,gd,repl,iY,iC,nl,yO,wU,O,h0,h1,h5,K,jN,Ar,H,iR,hw,X,Y,w1,w2,w3,w4,Nl,Jh,uK,uL,F,AO,E,mw,J,hm,lz,D,N,QB,dvC,List.length_append,List.map_append,HW,alg,ali,cnG,su,qv,PS,zp,DQ,w5]
 ·rintro I l _ O ⟨H,D,rfl⟩
  simp only[qA,seval,gd,yO,O,Ar,H,D,Int.lt_irrefl]
end
theorem PT{k g o n s:Nat}:kept (.isl .S k g o n s)=true:=nr rfl
def k9(t:Tt)(c:Ct)(d:List (Int×Bool)):List Int:=
 [(qG t.fl d d.length).lg,(qG t.fl d d.length).hd,(qG t.fl d d.length).ks.length,(qG t.fl d d.length).bk,rk c (kb t.fl d (d.length-1))-rj c (kb t.fl d 0),Gl t c (kb t.fl d 0) (kb t.fl d (d.length-1)),(qG t.fl d d.length).lo,(qG t.fl d d.length).so,Je t c (kb t.fl d 0) (kb t.fl d (d.length-1)),Lw t c (kb t.fl d 0),Lx t c (kb t.fl d (d.length-1))]
section
variable(t:Tt)(c:Ct)(zT aT fT a7 a8 a9 iv iw iy:T)(vs:List T)(hT:sI t zT aT fT)(hV:Gg t c vs)(ht:rL t=0)(hc:l0 c=0)
include hT hV ht hc
theorem af1(d:List (Int×Bool))(E:T)(F:CJ d E)(H:1≤d.length)(D:d.length≤100)(h: ∀k∈d,yh t.fl.length k.1=true): ∃s,hZ pE 36 [pg c zT aT fT a7 a8 a9 iv iw iy vs,E] []=some (.sl (ints (k9 t c d)) 11 false,s):=by
 have hL:=fun fr lh sh I J H K N O Ar U=>avs t c zT aT fT a7 a8 a9 iv iw iy vs hT ht d E F D h fr lh sh I J H K N O Ar U
 have pX:=fun fr lh sh I J H K N O Ar U=>(hL fr lh sh I J H K N O Ar U).2.1.lenI
 obtain⟨i,hi,ei,ef,_⟩:=nq (mL t ht).1 h (k:=0) (by omega)
 obtain⟨j,hj,ej,eg,_⟩:=nq (mL t ht).1 h (k:=d.length-1) (by omega)
 obtain⟨r1,Z⟩:=rh F 0 (by omega)
 obtain⟨r2,hb⟩:=rh F (d.length-1) (by omega)
 have hw:=pQ (k:=d.length) (by omega) (by omega)
 have V:=F.choose_spec.1.lenI
 have W:kept (pg c zT aT fT a7 a8 a9 iv iw iy vs)=true:=nr rfl
 have Ej:=Ve t c zT aT fT a7 a8 a9 iv iw iy vs hT hV ht hc i j hi hj
 rw[←ef,←eg]at Ej
 rw[ei]at Z
 rw[ej]at hb
 have X: ∀kk,pv E (.i kk 0) 2=_:=Z
 have Y:(11:Nat)*8≤roomy∧(11:Nat)≤roomy:=by unfold roomy;omega
 unfold k9
 generalize qG t.fl d d.length=s at*
 generalize kb t.fl d 0=f at*
 generalize kb t.fl d (d.length-1)=g at*
 rw[im akS (by simp[c36])]
 unfold dvC cn0 at*
 simp only[qA,seval,repl,iY,iC,nl,kD,c36,wU,ZE,Y,hL,pX,X,hb,hw,V,W,PT,Ej,ato,atp]
 exact⟨_,rfl⟩
end
end Go.Proofs.YtbdfboojnfinkaaGreat
