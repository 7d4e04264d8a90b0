/- Walks of functions of the program and of the reference, and their plain laws, part 32. Conditions: the theorems' own. -/
import Derived.Test.YtnkgnjecmfkcfaaGreatGS
import Derived.Test.YtnkgnjecmfkcfaaGreatM13
import Derived.Test.YtnkgnjecmfkcfaaGreatM14
import Derived.Test.YtnkgnjecmfkcfaaGreatM15
import Derived.Test.YtnkgnjecmfkcfaaGreatM17
import Derived.Test.YtnkgnjecmfkcfaaGreatM18
import Derived.Test.YtnkgnjecmfkcfaaGreatM31
import Derived.KernelRfl
set_option maxRecDepth 100000
set_option linter.unusedSimpArgs false
set_option linter.unusedVariables false
set_option maxHeartbeats 16000000
namespace Go.Proofs.YtnkgnjecmfkcfaaGreat
open Go Go.Ev
def Y9(d:List (Int×Bool)):Nat:=(d.filter Prod.snd).length
theorem B3(k:Int×Bool)(d:List (Int×Bool)):Y9 (k::d)=(if k.2=true then 1 else 0)+Y9 d:=by
 unfold Y9
 rw[List.filter_cons]
 split <;> simp <;> omega
def aEQ(l:List Lg):Prop:=l.Pairwise fun a b=>aEt a.du b.du<0
section
variable(N:Nat)(J:Nat→Nat→Bool)(cg:Nat→Bool)(ok:List (Int×Bool)→Bool)(lg:List (Int×Bool)→Lg)(R6: ∀x,(lg x).du=x)
def TkF:Nat→List (Int×Bool)→Prop
 |_,[]=>False
 |f,[k]=>f<N∧k.1=(f:Int)∧(k.2=false→cg f=true)
 |f,k::l::r=>f<N∧k.1=(f:Int)∧(k.2=false→cg f=true)∧ ∃g,J f g=true∧TkF g (l::r)
include R6
theorem GF: ∀(n:Nat) (d:List (Int×Bool)) (f h:Nat),f<N→ ∀g,g∈ew N J cg ok lg n d f h↔ ∃y,TkF N J cg f y∧y.length≤n∧Y9 y≤h∧ok (d++y)=true∧g=lg (d++y)
 |0,d,f,h,V,g=>by
  have _:=R6
  rw[ew]
  constructor
  ·intro h;cases h
  ·rintro⟨y,h1,h2,_⟩
   cases y with
   |nil=>exact h1.elim
   |cons k r=>simp at h2
 |n+1,d,f,h,V,g=>by
  have one: ∀(b:Bool) (h:Nat),(b=false→cg f=true)→(g∈si N J ok lg (ew N J cg ok lg n) (d++ [((f:Int),b)]) f h↔ ∃y,TkF N J cg f (((f:Int),b)::y)∧y.length≤n∧Y9 y≤h∧ok (d++(((f:Int),b)::y))=true∧g=lg (d++(((f:Int),b)::y))):=by
   intro b h U
   unfold si
   rw[List.mem_append,List.mem_flatMap]
   constructor
   ·rintro(h1|⟨x,h1,h2⟩)
    ·split at h1
     ·rename_i h3
      rw[List.mem_singleton]at h1
      exact⟨[],⟨V,rfl,U⟩,Nat.zero_le _,Nat.zero_le _,h3,h1⟩
     ·cases h1
    ·obtain⟨h3,h4⟩:=List.mem_filter.1 h1
     obtain⟨y,D,O,K,F,I⟩:=(GF n _ x h (List.mem_range.1 h3) g).1 h2
     rw[List.append_assoc,List.singleton_append]at F I
     refine⟨y, ?_,O,K,F,I⟩
     cases y with
     |nil=>exact D.elim
     |cons l r=>exact⟨V,rfl,U,x,h4,D⟩
   ·rintro⟨y,D,O,K,F,I⟩
    cases y with
    |nil=>
     refine Or.inl ?_
     rw[if_pos F]
     exact List.mem_singleton.2 I
    |cons l r=>
     obtain⟨_,_,_,x,h4,D⟩:=D
     have hx:x<N:=by
      cases r with
      |nil=>exact D.1
      |cons _ _=>exact D.1
     refine Or.inr ⟨x,List.mem_filter.2 ⟨List.mem_range.2 hx,h4⟩,(GF n _ x h hx g).2 ⟨l::r,D,O,K, ?_, ?_⟩⟩
     ·rw[List.append_assoc,List.singleton_append];exact F
     ·rw[List.append_assoc,List.singleton_append];exact I
  have hd: ∀y,TkF N J cg f y→ ∃b W,y=((f:Int),b)::W∧(b=false→cg f=true):=by
   intro y X
   match y,X with
   | [(a,b)],⟨_,h1,h2⟩=>exact⟨b,[],by rw[←h1],h2⟩
   |(a,b)::l::r,⟨_,h1,h2,_⟩=>exact⟨b,l::r,by rw[←h1],h2⟩
  rw[ew,List.mem_append]
  constructor
  ·rintro(h1|h1)
   ·split at h1
    ·rename_i h2
     obtain⟨y,D,O,K,F,I⟩:=(one false h fun _=>h2).1 h1
     exact⟨_,D,by rw[List.length_cons];omega,by rw[B3];simpa using K,F,I⟩
    ·cases h1
   ·split at h1
    ·cases h1
    ·rename_i h2
     obtain⟨y,D,O,K,F,I⟩:=(one true (h-1) xv).1 h1
     exact⟨_,D,by rw[List.length_cons];omega,by rw[B3];simp;omega,F,I⟩
  ·rintro⟨y,D,O,K,F,I⟩
   obtain⟨b,y,rfl,U⟩:=hd y D
   rw[List.length_cons]at O
   rw[B3]at K
   cases b
   ·refine Or.inl ?_
    rw[if_pos (U rfl)]
    exact(one false h U).2 ⟨y,D,by omega,by simpa using K,F,I⟩
   ·refine Or.inr ?_
    simp at K
    rw[if_neg yv]
    exact(one true (h-1) U).2 ⟨y,D,by omega,by omega,F,I⟩
theorem ang(H:Nat)(g:Lg):g∈j6 N J cg ok lg H↔ ∃f y,f<N∧TkF N J cg f y∧y.length≤6∧Y9 y≤H∧ok y=true∧g=lg y:=by
 unfold j6
 rw[List.mem_flatMap]
 constructor
 ·rintro⟨f,h1,h2⟩
  obtain⟨y,r,D,F,I,K⟩:=(GF N J cg ok lg R6 6 [] f H (List.mem_range.1 h1) g).1 h2
  exact⟨f,y,List.mem_range.1 h1,r,D,F,I,K⟩
 ·rintro⟨f,y,O,r,D,F,I,K⟩
  exact⟨f,List.mem_range.2 O,(GF N J cg ok lg R6 6 [] f H O g).2 ⟨y,r,D,F,I,K⟩⟩
end
theorem Po{N:Nat}{J:Nat→Nat→Bool}{cg:Nat→Bool}: ∀{f:Nat} {y:List (Int×Bool)},TkF N J cg f y→1≤y.length∧(∀k∈y,lj N k.1=true)∧ ∀k∈y,k.2=false→cg k.1.toNat=true
 |_,[],h=>h.elim
 |f,[k],⟨h1,h2,h3⟩=>by
  refine⟨by simp, ?_, ?_⟩
  ·intro q hq
   rw[List.mem_singleton.1 hq,h2]
   unfold lj;rw[decide_eq_true_eq];omega
  ·intro q hq D
   rw[List.mem_singleton.1 hq]at D ⊢
   rw[h2];exact h3 D
 |f,k::l::r,⟨h1,h2,h3,g,h4,h5⟩=>by
  obtain⟨K,F,I⟩:=Po h5
  refine⟨by simp, ?_, ?_⟩
  ·intro q hq
   rcases List.mem_cons.1 hq with rfl|hq
   ·rw[h2];unfold lj;rw[decide_eq_true_eq];omega
   ·exact F q hq
  ·intro q hq D
   rcases List.mem_cons.1 hq with rfl|hq
   ·rw[h2];exact h3 D
   ·exact I q hq D
theorem Z9{N:Nat}{J:Nat→Nat→Bool}{cg:Nat→Bool}{f:Nat}{l:Int×Bool}{r:List (Int×Bool)}(h:TkF N J cg f (l::r)):l.1=(f:Int)∧f<N:=by
 cases r with
 |nil=>exact⟨h.2.1,h.1⟩
 |cons _ _=>exact⟨h.2.1,h.1⟩
theorem aaa(c:Ct)(fl:List Fl){cg:Nat→Bool}: ∀{f:Nat} {y:List (Int×Bool)},TkF fl.length (jn c fl) cg f y→qc c fl y=true
 |_,[],h=>h.elim
 |f,[k],h=>rfl
 |f,k::l::r,⟨h1,h2,h3,g,h4,h5⟩=>by
  obtain⟨e1,e2⟩:=Z9 h5
  rw[qc,aaa c fl h5,Bool.and_true,h2,e1,nX c fl h1 e2,←OY h1 e2]
  exact h4
theorem aab(c:Ct)(fl:List Fl){cg:Nat→Bool}: ∀(y:List (Int×Bool)),1≤y.length→(∀k∈y,lj fl.length k.1=true)→(∀k∈y,k.2=false→cg k.1.toNat=true)→qc c fl y=true→ ∃f,f<fl.length∧TkF fl.length (jn c fl) cg f y
 | [],h,_,_,_=>by simp at h
 | [k],_,h1,h2,_=>by
   obtain⟨f,D,F⟩:=na (h1 k xv)
   refine⟨f,D,D,F,fun I=> ?_⟩
   have:=h2 k xv I
   rw[F]at this
   exact this
 |k::l::r,_,h1,h2,h3=>by
  rw[qc,Bool.and_eq_true]at h3
  obtain⟨f,D,F⟩:=na (h1 k xv)
  obtain⟨g,U,O⟩:=aab c fl (l::r) xv (fun q K=>h1 q (List.mem_cons_of_mem _ K)) (fun q K=>h2 q (List.mem_cons_of_mem _ K)) h3.2
  obtain⟨e1,e2⟩:=Z9 O
  refine⟨f,D,D,F,fun I=> ?_,g, ?_,O⟩
  ·have:=h2 k xv I
   rw[F]at this
   exact this
  ·have:=h3.1
   rw[F,e1,nX c fl D e2]at this
   rw[OY D e2]
   exact this
section
variable(ops:List Int)(oT:T)(ho:IsSl oT ops.length (ints ops))(hlo:ops.length≤1000)(d:List (Int×Bool))(dv:T)(hd:IsSl dv d.length (l6 d))(hld:d.length≤1000)(rest:List T)(G:Nat)
include ho hlo hd hld
end
section
variable(t:Tt)(c:Ct)(zT aT fT a7 a8 a9 aw aA az:T)(hT:kN t zT aT fT)(hC:mG c a7 a8 a9 aw aA az)(hA:Hb c)(hk:eK t c=0)(ops:List Int)(oT:T)(ho:IsSl oT ops.length (ints ops))(hlo:ops.length≤1000)(H:Nat)(out:List Lg)(v:T)(hv:amo out v)(kg:out.length≤1000000000)
 (hg: ∀g∈out,ev c t.fl g.du=0∧iI t c g.du=true∧g=cz t c g.du∧Y9 g.du≤H∧ ∀k∈g.du,k.2=false→k.1∈ops) (ama:aEQ out)
include hT hC hA hk ho hlo hv kg hg ama
end
theorem afi{c:Ct}{fl:List Fl}{d:List (Int×Bool)}(h1:1≤d.length)(h2:d.length≤6)(h3: ∀k∈d,lj fl.length k.1=true)(h4:qc c fl d=true):ev c fl d=0:=by
 unfold ev
 rw[if_neg yv,if_neg yv,if_pos (List.all_eq_true.2 h3),if_pos h4]
theorem afj(t:Tt)(c:Ct)(ops:List Int)(H:Nat)(g:Lg):g∈j6 t.fl.length (jn c t.fl) (iF ops) (iI t c) (cz t c) H↔ ∃d,g=cz t c d∧ev c t.fl d=0∧iI t c d=true∧Y9 d≤H∧ ∀k∈d,k.2=false→k.1∈ops:=by
 rw[ang _ _ _ _ _ (ON t c)]
 constructor
 ·rintro⟨f,y,X,r,I,U,V,rfl⟩
  obtain⟨K,D,F⟩:=Po r
  refine⟨y,rfl,afi K I D (aaa c t.fl r),V,U,fun k hk O=> ?_⟩
  have h:=F k hk O
  obtain⟨n,_,e⟩:=na (D k hk)
  unfold iF at h
  rw[decide_eq_true_eq,e]at h
  rw[e]
  exact h
 ·rintro⟨d,rfl,h1,h2,h3,h4⟩
  obtain⟨K,D,F,W⟩:=fJ h1
  obtain⟨f,r,I⟩:=aab (cg:=iF ops) c t.fl d K F (fun k hk O=>by
   have h:=h4 k hk O
   obtain⟨n,_,e⟩:=na (F k hk)
   unfold iF
   rw[decide_eq_true_eq,e]
   rw[e]at h
   exact h) W
  exact⟨f,d,r,I,D,h3,h2,rfl⟩
theorem ax5(xs:List Int)(k:Nat→Nat)(hk: ∀i,k i≤2)(r:List Ru)(D:List Co)(cr:List Ex)(h1:r.Sublist pH)(h2:D.Sublist sE)(h3: ∀x∈cr,x∈CQ)(h4:cr.length≤1):eK (nZ (tA xs)) (jl k r D cr)=0:=by
 have hc:=MC k hk r D cr h1 h2 h3 h4
 unfold eK
 rw[ZN]
 simpa using hc
theorem ML: ∃s,ae pE 9 [] []=some (.b true,s):=⟨[],cW (m:=100) (cS (by kernel_rfl))⟩
theorem okB(A:List Int)(l:RL)(B:List (List Nat))(F:fH A l=B):(jk A l != decide ((B.length:Int)=0))=false:=by
 have h:=Y1 A l
 rw[F]at h
 cases D:jk A l
 ·rw[D]at h
  cases B with
  |nil=>simp at h
  |cons x r=>simp;omega
 ·rw[D]at h
  rw[h.2 rfl];rfl
section
variable(t:Tt)(c:Ct)(zT aT fT a7 a8 a9 aw aA az:T)(hT:kN t zT aT fT)(hC:mG c a7 a8 a9 aw aA az)(hA:Hb c)(hk:eK t c=0)(out:List Lg)(v:T)(hv:Sc out v)(R6: ∀g∈out,ev c t.fl g.du=0)(h0:out≠ [])(kg:out.length≤1000000000)(A0:Int)
include hT hC hA hk hv R6 h0 kg
theorem ag1(fr:Fr)(lh:aD ah)(sh:List ah)(h1:aa fr 1= .i .i64 A0)(h5:aa fr 5= .ptr .L 5 1 0)(h6:aa fr 6= .ptr .L 6 1 0)(F:aa fr 10=v)(Z:aa fr 12= .i .i64 0)(W:ab lh 5=⟨1,.cells [zT,aT,fT] 0 true⟩)(X:ab lh 6=⟨1,.cells (aY c a7 a8 a9 aw aA az) 0 true⟩):
  Lp pE 136 zN fr lh sh (.ext 0) fun f l s=>s=sh:=by
 obtain⟨cs,i1,i2⟩:=hv
 have eF:=i1.lenI
 have hz:=yJ t c zT aT fT a7 a8 a9 aw aA az hT hC
 have yy:0<out.length:=List.length_pos_iff.2 h0
 refine cV MY (fun k f l s=>aa f 12= .i .i64 (k:Int)∧s=sh∧ab l 5=⟨1,.cells [zT,aT,fT] 0 true⟩∧ab l 6=⟨1,.cells (aY c a7 a8 a9 aw aA az) 0 true⟩) (min out.length 20) ⟨Z,rfl,W,X⟩ ?_ ?_
 ·rintro k f l _ S3 Y ⟨D,rfl,W,X⟩
  have Zj:(k:Int)<out.length:=yv
  have hk2:(k:Int)<20:=yv
  have hw:=aG (k:=k) yv
  have hw2:wr .i64 (A0%65536+(k:Int))=A0%65536+(k:Int):=bj yv
  obtain⟨q,hq,hq2⟩: ∃q:Nat,q<out.length∧(A0%65536+(k:Int)).tmod (out.length:Int)=(q:Int):=by
   rw[ep yv]
   have h1:=Int.emod_nonneg (A0%65536+(k:Int)) (b:=(out.length:Int)) yv
   have h2:=Int.emod_lt_of_pos (A0%65536+(k:Int)) (b:=(out.length:Int)) yv
   exact⟨((A0%65536+(k:Int))%(out.length:Int)).toNat,by omega,by omega⟩
  have hne: ¬(out.length:Int)=0:=yv
  obtain⟨ca,ra,ea,w,O,I⟩:=i2.drop LgQ.len q hq
  have ia:=fun kk=>i1.ia (sz:=7) (k:=q) (kk:=kk) (i2.len LgQ.len) hq
  rw[ea]at ia
  unfold F9 at O
  subst O
  unfold LgT at I
  have K:=R6 out[q] (List.getElem_mem hq)
  generalize out[q].du=d at*
  have hd:tw d w:=tw.of I
  have Y4:=hd.sl.froz
  have aER:=hd.sl.froz1
  obtain⟨qa,h6',bo,_⟩:=fJ K
  obtain⟨s1,e1⟩:=aeA t c zT aT fT a7 a8 a9 aw aA az hT hC hA hk d w hd K
  obtain⟨s2,e2⟩:=amc t c zT aT fT a7 a8 a9 aw aA az hT hC hA hk d w hd K
  obtain⟨s3,e3⟩:=aeC t c zT aT fT a7 a8 a9 aw aA az hT hC hA hk d w hd K
  obtain⟨s4,e4⟩:=amd t c zT aT fT a7 a8 a9 aw aA az hT hC hA hk d w hd K
  have e5:=aet t c zT aT fT a7 a8 a9 aw aA az hT hC hA hk d w hd yv
  rw[if_pos K]at e5
  obtain⟨ht,hc⟩:=ng t c zT aT fT a7 a8 a9 aw aA az hT hC hA hk
  have SX:=lX (t:=t) (c:=c) ht hc qa (show d.length≤100 by omega) bo
  have e6:=aeB (aN t c d) SX.1 false false
  have hB:=okB (aN t c d) (sg c) _ rfl
  rw[show jk (aN t c d) (sg c)=iI t c d from rfl]at hB
  have U:lenI (bA (fH (aN t c d) (sg c)).length (OQ (fH (aN t c d) (sg c))))=some (.i .i64 ((fH (aN t c d) (sg c)).length:Int)):=IsSl.lenI (fe fun h=>by rw[List.length_eq_zero_iff.1 h];rfl)
  have hvz:froz1 (bA (fH (aN t c d) (sg c)).length (OQ (fH (aN t c d) (sg c))))=true:=by unfold bA;split <;> rfl
  have hjz:froz (.sl (Za (aN t c d)) 11 false)=true:=rfl
  have hsz:=vP (nh t.fl d d.length)
  have hyz:=(gp (nh t.fl d d.length).ty).froz1
  have hbq: ∀x y:Bool,Option.map (fun r=>T.b (r != false)) (pP (EK.one CK.bool) (T.b x) (T.b y))=some (T.b (x==y)):=fun x y=>by cases x <;> cases y <;> rfl
  have hbn: ∀x y:Bool,Option.map (fun r=>T.b (r != true)) (pP (EK.one CK.bool) (T.b x) (T.b y))=some (T.b (x != y)):=fun x y=>by cases x <;> cases y <;> rfl
  clear ea R6 SX K I i2
  generalize bA (fH (aN t c d) (sg c)).length (OQ (fH (aN t c d) (sg c)))=V at*
  generalize fH (aN t c d) (sg c)=B at*
  generalize Za (aN t c d)=J at*
  generalize iI t c d=ok at*
  generalize nh t.fl d d.length=s at*
  unfold ln pW at*
  generalize Cp s.ty=yT at*
  unfold aY at*
  simp(maxDischargeDepth:=6) only[qA,seval,gd,zN,Y,h1,h5,h6,F,D,W,X,eF,Zj,hk2,hw,hw2,hq2,hne,ia,Y4,aER,hz,e1,e2,e3,e4,e5,e6,aAw,aAx,aAy,aAz,aAA,aAB,U,hvz,hjz,hsz,hyz,hbq,hbn,hB]
 ·rintro f l _ Y ⟨D,rfl,W,X⟩
  by_cases hh:out.length≤20
  ·have: ¬((min out.length 20:Nat):Int)<out.length:=yv
   simp only[qA,seval,gd,zN,Y,F,eF,D,this]
  ·have h1:((min out.length 20:Nat):Int)<out.length:=yv
   have h2: ¬((min out.length 20:Nat):Int)<20:=yv
   simp only[qA,seval,gd,zN,Y,F,eF,D,h1,h2]
end
theorem afk(k:Nat→Nat)(I D:List Ru)(F:List Co)(cr:List Ex)(fl:List Fl)(d:List (Int×Bool)):ev (jl k I F cr) fl d=ev (jl k D F cr) fl d:=by
 have h: ∀d,qc (jl k I F cr) fl d=qc (jl k D F cr) fl d:=by
  intro d
  induction d with
  |nil=>rfl
  |cons x r ih=>
   cases r with
   |nil=>rfl
   |cons y r=>rw[qc,qc,ih];rfl
 unfold ev
 rw[h]
theorem aES(xs:List Int)(k:Nat→Nat)(hk: ∀i,k i≤2)(r:List Ru)(D:List Co)(cr:List Ex)(h1:r.Sublist pH)(h2:D.Sublist sE)(h3: ∀x∈cr,x∈CQ)(h4:cr.length≤1)(a7 a8 a9 aw aA az:T)(hC:mG (jl k r D cr) a7 a8 a9 aw aA az):
  ∃v s,ae pE 8 [.agg [C3,C4,S2 xs],.agg (aY (jl k r D cr) a7 a8 a9 aw aA az),oTB xs,.i .i64 2] []=some (.tup [v,.i .i64 0],s)∧Sc (j6 (pN (tA xs)) (jn (jl k r D cr) (nZ (tA xs)).fl) (iF (Sg (oA xs) (pN (tA xs)))) (iI (nZ (tA xs)) (jl k r D cr)) (cz (nZ (tA xs)) (jl k r D cr)) 2) v:=by
 have O:=nj (tA xs)
 have K:=pq (tA xs)
 have hA:=Z7 k hk r D cr h1 h2 h3
 have ho:IsSl (oTB xs) (Sg (oA xs) (pN (tA xs))).length (ints (Sg (oA xs) (pN (tA xs)))):=by
  have:=wa xs
  unfold Sg
  rw[List.length_map]
  exact this
 obtain⟨v,s,e,hv⟩:=ZI (nZ (tA xs)) (jl k r D cr) C3 C4 (S2 xs) a7 a8 a9 aw aA az (aiP xs) hC hA (ax4 xs).f.2 yv _ _ ho (by have:=ae3 (oA xs) (pN (tA xs));omega) ((2:Nat):Int)
 have hc:=MC k hk r D cr h1 h2 h3 h4
 have F:=amJ k hk r D cr
 have I:=amI (tA xs) (oA xs) (jl k r D cr) F 2 yv
 unfold amt at I
 rw[if_pos (ae4 (tA xs) (oA xs) _ hc 2 yv),Int.toNat_natCast,if_neg I]at e
 rw[Int.toNat_natCast,K]at hv
 exact⟨v,s,e,hv⟩
theorem aiX(la:T)(xs:List Int)(hl:IsSl la xs.length (ints xs))(A0:Int): ∃s,ae pE 3 [la,.i .i64 A0] []=some (.b true,s):=by
 have I:=aff xs la hl
 have K:=hl.froz
 obtain⟨s4,O⟩:=ML
 have hn:=nj (tA xs)
 have jU:=pq (tA xs)
 have hT:=aiN (Ew xs)
 have zf:=(GD xs).froz1
 have zo:=(wa xs).froz1
 have U:=(wa xs).froz
 unfold lq at I
 unfold mQ at hT I
 have r1:=ee (fun i=>decide (Ew xs (7+i)%4=0)) 0 pH
 have X:=ee (fun i=>decide (Ew xs (30+i)%3=0)) 0 sE
 obtain⟨Y,r4⟩:=BV (Ew xs)
 have hk:=sH (Ew xs)
 have Z:(lq (Ew xs)).all froz1=true:=by
  unfold lq aY S1 Kj
  repeat' split
  all_goals rfl
 unfold lq mQ at Z
 generalize cY (fun i=>decide (Ew xs (7+i)%4=0)) 0 pH=F at*
 generalize cY (fun i=>decide (Ew xs (30+i)%3=0)) 0 sE=r at*
 generalize crX (Ew xs)=cr at*
 generalize S1 (Ew xs)=a7 at*
 generalize kB (Ew xs)=kk at*
 have hru:(jl kk F r cr).ru=F:=rfl
 have oi:(jl kk F r cr).co=r:=rfl
 have Cg:(jl kk F r cr).cr=cr:=rfl
 rw[hru,oi,Cg]at hT I Z
 generalize Kj F.length (F.flatMap GA)=a8 at*
 generalize Kj r.length (r.flatMap KO)=a9 at*
 generalize Kj cr.length (cr.flatMap jJ)=aw at*
 have V:mG (jl kk [] r cr) a7 .nilsl a9 aw .nilsl .nilsl:=⟨hT.h7,⟨_,.inl ⟨rfl,rfl,rfl⟩,rfl⟩,hT.h9,hT.h10,hT.h11,hT.h12⟩
 obtain⟨v,s1,e1,v1⟩:=aES xs kk hk [] r cr (List.nil_sublist _) X Y r4 a7 .nilsl a9 aw .nilsl .nilsl V
 have xS:=ax5 xs kk hk F r cr r1 X Y r4
 have hA:=Z7 kk hk F r cr r1 X Y
 have hm:=fun g hg=>(afj (nZ (tA xs)) (jl kk [] r cr) (Sg (oA xs) (pN (tA xs))) 2 g).1 hg
 rw[jU]at hm
 have R6: ∀g∈j6 (pN (tA xs)) (jn (jl kk [] r cr) (nZ (tA xs)).fl) (iF (Sg (oA xs) (pN (tA xs)))) (iI (nZ (tA xs)) (jl kk [] r cr)) (cz (nZ (tA xs)) (jl kk [] r cr)) 2,ev (jl kk F r cr) (nZ (tA xs)).fl g.du=0:=fun g hg=>by
  obtain⟨d,rfl,q1,_⟩:=hm g hg
  rw[ON,afk kk F [] r cr]
  exact q1
 have kg:=ZH (pN (tA xs)) (jn (jl kk [] r cr) (nZ (tA xs)).fl) (iF (Sg (oA xs) (pN (tA xs)))) (iI (nZ (tA xs)) (jl kk [] r cr)) (cz (nZ (tA xs)) (jl kk [] r cr)) yv 2
 generalize j6 (pN (tA xs)) (jn (jl kk [] r cr) (nZ (tA xs)).fl) (iF (Sg (oA xs) (pN (tA xs)))) (iI (nZ (tA xs)) (jl kk [] r cr)) (cz (nZ (tA xs)) (jl kk [] r cr)) 2=out at*
 have hL:=fun h0=>ag1 (nZ (tA xs)) (jl kk F r cr) C3 C4 (S2 xs) a7 a8 a9 aw .nilsl .nilsl (aiP xs) hT hA xS out v v1 R6 h0 kg A0
 have zv:froz1 v=true:=v1.choose_spec.1.froz1
 have eF:=v1.choose_spec.1.lenI
 clear hm R6 kg xS hA r1 X Y r4 V v1
 unfold aY at*
 simp only[List.all_cons,Bool.and_eq_true]at Z
 obtain⟨_,_,_,_,_,_,_,z7,z8,z9,W,z11,z12,_⟩:=Z
 have z1:froz1 C3=true:=rfl
 have z2:froz1 C4=true:=rfl
 have z3:froz1 baT=true:=rfl
 have n1:(jl kk [] r cr).rp=(jl kk F r cr).rp:=rfl
 have n2:(jl kk [] r cr).rl=(jl kk F r cr).rl:=rfl
 have n3:(jl kk [] r cr).cn=(jl kk F r cr).cn:=rfl
 have n4:(jl kk [] r cr).st=(jl kk F r cr).st:=rfl
 have n5:(jl kk [] r cr).ly=(jl kk F r cr).ly:=rfl
 have n6:(jl kk [] r cr).nf=(jl kk F r cr).nf:=rfl
 have n7:(jl kk [] r cr).nt=(jl kk F r cr).nt:=rfl
 have n8:(jl kk [] r cr).gu=(jl kk F r cr).gu:=rfl
 rw[n1,n2,n3,n4,n5,n6,n7,n8]at e1
 generalize jl kk F r cr=ct at*
 generalize S2 xs=fT at*
 generalize oTB xs=oT at*
 generalize C3=zT at*
 generalize C4=aT at*
 generalize baT=bT at*
 rw[au fn3 (by simp[c3])]
 by_cases h0:out= []
 ·have wi:(out.length:Int)=0:=by rw[h0];rfl
  simp(maxDischargeDepth:=6) only[qA,seval,c3,I,dc7,dc8,dc9,K,zf,U,z1,z2,z7,z8,z9,W,e1,zv,eF,wi,O,LU]
 ·have wi: ¬(out.length:Int)=0:=by
   have:=List.length_pos_iff.2 h0
   omega
  simp(maxDischargeDepth:=6) only[qA,seval,c3,I,dc7,dc8,dc9,K,zf,U,z1,z2,z7,z8,z9,W,e1,zv,eF,wi]
  generalize hD:DC pE 136 (.loop zN) _=D
  obtain⟨f2,l2,s2,rfl,rfl,lD⟩:=yq MY hD (hL h0 _ _ _ wW wW wW wW wW wW wW)
  simp(maxDischargeDepth:=6) only[qA,seval,O,dc9,LU]
end Go.Proofs.YtnkgnjecmfkcfaaGreat
