/- Walks of functions of the program and of the reference, and their plain laws, part 35. Conditions: the theorems' own. -/
import Derived.Test.YtcpceiclnbmgiaaGreatM34
import Derived.KernelRfl
set_option maxRecDepth 100000
set_option linter.unusedSimpArgs false
set_option linter.unusedVariables false
set_option maxHeartbeats 16000000
namespace Go.Proofs.YtcpceiclnbmgiaaGreat
open Go Go.Ev
section
variable(t:Tt)(c:Ct)(zT aT fT a7 a8 a9 iv iy iw:T)(hT:sZ t zT aT fT)(hC:tp c a7 a8 a9 iv iy iw)(hA:Nv c)(hk:uF t c=0)(d:List (Int×Bool))(dT:T)(hd:H4 d dT)(hlen:d.length≤1000)
include hT hC hA hk hd hlen
theorem adW: ∃r,be pE 37 [.agg [zT,aT,fT],.agg (jB c a7 a8 a9 iv iy iw),dT] []=some (if uE c t.fl d=0 then .tup [stV c zT aT fT a7 a8 a9 iv iy iw r,.i .i64 0]else .tup [.nilptr,.i .i64 (uE c t.fl d)],[])∧H2 t c r:=by
 obtain⟨s,r,I,K⟩:=af4 t c zT aT fT a7 a8 a9 iv iy iw hT hC hA hk
 refine⟨r, ?_,K⟩
 have O:=fzA t c zT aT fT a7 a8 a9 iv iy iw hT hC
 have D:=hd.sl.froz
 have U:=ale t c zT aT fT a7 a8 a9 iv iy iw r hT d dT hd hlen
 have Lj:=u9 c zT aT fT a7 a8 a9 iv iy iw r
 have F:froz1 (stV c zT aT fT a7 a8 a9 iv iy iw r)=true:=rfl
 generalize uE c t.fl d=E at*
 unfold jB at*
 rw[il apE (by simp[Ow])]
 by_cases V:E=0
 all_goals simp(maxDischargeDepth:=6) only[qA,seval,Ow,O,I,U,UH,axY,D,Lj,F,V]
theorem adX:be pE 13 [.agg [zT,aT,fT],.agg (jB c a7 a8 a9 iv iy iw),dT] []=some (if uE c t.fl d=0 then .tup [lu (nU (kD t c d) (CJ c)).length (S3 (nU (kD t c d) (CJ c))),.i .i64 0]else .tup [.nilsl,.i .i64 (uE c t.fl d)],[]):=by
 obtain⟨F,W,hS⟩:=adW t c zT aT fT a7 a8 a9 iv iy iw hT hC hA hk d dT hd hlen
 have hz:=fzA t c zT aT fT a7 a8 a9 iv iy iw hT hC
 have r:=hd.sl.froz
 have Lj:=u9 c zT aT fT a7 a8 a9 iv iy iw F
 have Y:froz1 (stV c zT aT fT a7 a8 a9 iv iy iw F)=true:=rfl
 by_cases X:uE c t.fl d=0
 ·obtain⟨h1,h6,jP,_⟩:=PL X
  obtain⟨ht,hc⟩:=XF t c zT aT fT a7 a8 a9 iv iy iw hT hC hA hk
  obtain⟨s1,PK⟩:=XX t c zT aT fT a7 a8 a9 iv iy iw F hT hS ht hc d dT hd h1 (by omega) jP
  have K:=Lk (t:=t) (c:=c) ht hc h1 (show d.length≤100 by omega) jP
  obtain⟨g1,g2,g3,g4,g5⟩:=af6 (t:=t) hc K
  have kR:IsSl (.sl (ints (kD t c d)) 11 false) (kD t c d).length (ints (kD t c d)):= .inr ⟨false,by rw[K.1]⟩
  have hbl:=Qt (kD t c d) (CJ c)
  obtain⟨q,r1,r2,r3,c1,c2,c3,cr,nb,D,_,_,O,_,_,Z,_,_,cro⟩:=hS
  have D:F=GR (.vm (q.map fun p=>sK p.1) (q.map fun p=>T.agg p.2)) r1 r2 r3 c1 c2 c3 cr (.b nb):=D
  have hb:=alf c zT aT fT a7 a8 a9 iv iy iw (.vm (q.map fun p=>sK p.1) (q.map fun p=>T.agg p.2)) r1 r2 r3 c1 c2 c3 cr (.b nb) _ _ kR (CJ c) O g1 (by omega)
  rw[←D]at hb
  have hv:=auR (nU (kD t c d) (CJ c)) (by omega)
  have hbz:froz (lu (nU (kD t c d) (CJ c)).length ((nU (kD t c d) (CJ c)).map T.s))=true:=by unfold lu;split <;> rfl
  have hvz:froz1 (lu (nU (kD t c d) (CJ c)).length (S3 (nU (kD t c d) (CJ c))))=true:=by unfold lu;split <;> rfl
  have U:froz (lu (nU (kD t c d) (CJ c)).length (S3 (nU (kD t c d) (CJ c))))=true:=by unfold lu;split <;> rfl
  rw[if_pos X]at W ⊢
  generalize lu (nU (kD t c d) (CJ c)).length (S3 (nU (kD t c d) (CJ c)))=V at*
  generalize lu (nU (kD t c d) (CJ c)).length ((nU (kD t c d) (CJ c)).map T.s)=B at*
  have hcd:be pE 38 [stV c zT aT fT a7 a8 a9 iv iy iw F,dT] []=some (V,[]):=by
   rw[il apG (by simp[c38])]
   have hiz:froz (.sl (ints (kD t c d)) 11 false)=true:=rfl
   generalize ints (kD t c d)=I at*
   simp(maxDischargeDepth:=6) only[qA,seval,c38,PK,hb,hv,ahe,axZ,ax0,r,Lj,hbz,U,hiz]
  clear hb hv PK kR O Z cro g1 g2 g3
  generalize stV c zT aT fT a7 a8 a9 iv iy iw F=S at*
  unfold jB at*
  rw[il ag7 (by simp[c13])]
  simp(maxDischargeDepth:=6) only[qA,seval,c13,hz,W,hcd,apF,axI,r,Lj,Y,hvz,U]
 ·rw[if_neg X]at W ⊢
  generalize uE c t.fl d=E at*
  unfold jB at*
  rw[il ag7 (by simp[c13])]
  simp(maxDischargeDepth:=6) only[qA,seval,c13,hz,W,apF,r,X]
end
theorem ali(a b:Int):be pE 70 [.i .i64 a,.i .i64 b] []=some (.i .i64 (if a<b then-1 else if b<a then 1 else 0),[]):=by
 have h: ∀x:Int,be pE 107 [.i .i64 x] []=some (.b false,[]):=by
  intro x
  rw[il aef (by simp[T1])]
  simp only[qA,seval,T1]
 rw[il ap4 (by simp[c70])]
 by_cases r:a<b
 ·simp only[qA,seval,c70,h,r,aeg]
 ·by_cases D:b<a
  all_goals simp only[qA,seval,c70,h,r,D,aeg]
theorem alj(x y:Int×Bool):be pE 40 [.agg [.i .i64 x.1,.b x.2],.agg [.i .i64 y.1,.b y.2]] []=some (.i .i64 (Iv x y),[]):=by
 have D:=ali x.1 y.1
 unfold Iv
 rw[il apI (by simp[c40])]
 obtain⟨x1,x2⟩:=x
 obtain⟨O,F⟩:=y
 simp only at D ⊢
 by_cases K:x1=O
 ·subst K
  rw[if_neg (Int.lt_irrefl _),if_neg (Int.lt_irrefl _)]at D
  have U:Option.map (fun r=>T.b (r != false)) (uP (EK.one CK.bool) (T.b x2) (T.b F))=some (T.b (x2==F)):=by cases x2 <;> cases F <;> rfl
  cases x2 <;> cases F
  all_goals
   simp only[qA,seval,c40,D,ahm,qm,U]
   rfl
 ·by_cases I:x1<O
  ·rw[if_pos I]at D
   simp only[qA,seval,c40,D,K,I,ahm]
  ·rw[if_neg I,if_pos (by omega)]at D
   simp only[qA,seval,c40,D,K,I,ahm]
section
variable(d e:List (Int×Bool))(a b:T)(ha:IsSl a d.length (oD d))(hb:IsSl b e.length (oD e))(hd:d.length≤1000)(he:e.length≤1000)
include ha hb hd
theorem aB4(r:Int)(hr:r=if Bi d e≠0 then Bi d e else if e.length<d.length then 1 else 0)(fr:Fr)(lh:iq b8)(sh:List b8)(V:an fr 1=b)(X:an fr 2= .fn 40 [] [])(D:an fr 11=a)(F:an fr 12= .i .i64 (d.length:Int))(qf:an fr 13= .i .i64 0):
  xy pE 39 wX fr lh sh 0 6 r (fun Y Z=>Z=sh):=by
 refine kj Jg (fun k f Y Z=>an f 13= .i .i64 (k:Int)∧Z=sh∧k≤e.length∧Bi d e=Bi (d.drop k) (e.drop k)) d.length ⟨qf,rfl,Nat.zero_le _,rfl⟩ ?_ ?_
 ·rintro k f Y _ hk I ⟨TC,rfl,hke,K⟩
  have Fk:(k:Int)<d.length:=by omega
  have hw:=iN (k:=k) (by omega)
  obtain⟨r1,jg⟩:=af7 ha k hk
  have O: ∀(fr:Fr) (lh:iq b8) (sh:List b8) (q:Nat) (args:List T),zh pE (be pE) q ⟨fr,lh,sh⟩ (.fn 40 [] []) args=je pE (be pE) q ⟨fr,lh,sh⟩ 40 (args++ []):=fun _ _ _ _ _=>rfl
  by_cases U:k<e.length
  ·have Cu: ¬(e.length:Int)≤(k:Int):=by omega
   obtain⟨r2,TF⟩:=af7 hb k U
   rw[List.drop_eq_getElem_cons hk,List.drop_eq_getElem_cons U,Bi]at K
   have hc:=alj d[k] e[k]
   generalize d[k]=x at*
   generalize e[k]=y at*
   by_cases W:Iv x y=0
   ·rw[if_neg (by simp[W])]at K
    rw[W]at hc
    simp(maxDischargeDepth:=6) only[qB,seval,gd,wX,I,V,X,D,F,TC,ha.lenI,hb.lenI,Fk,Cu,jg,TF,hc,hw,apJ,O]
    clear I
    grind
   ·rw[if_pos W]at K
    simp(maxDischargeDepth:=6) only[qB,seval,gd,wX,I,V,X,D,F,TC,ha.lenI,hb.lenI,Fk,Cu,jg,TF,hc,W,hw,apJ,O]
    clear I
    grind
  ·have Cu:(e.length:Int)≤(k:Int):=by omega
   rw[List.drop_eq_nil_of_le (by omega:e.length≤k),LC (.inr rfl)]at K
   simp(maxDischargeDepth:=6) only[qB,seval,gd,wX,I,V,X,D,F,TC,ha.lenI,hb.lenI,Fk,Cu,jg,hw]
   clear I
   grind
 ·rintro f Y _ I ⟨TC,rfl,hke,K⟩
  rw[List.drop_eq_nil_of_le (Nat.le_refl _),LC (.inl rfl)]at K
  simp(maxDischargeDepth:=6) only[qB,seval,gd,wX,I,V,D,F,TC,ha.lenI,hb.lenI,Int.lt_irrefl]
  grind
include he
theorem alk:be pE 14 [a,b] []=some (.i .i64 (Ck d e),[]):=by
 have _:=he
 have r:=fun fr lh sh=>aB4 d e a b ha hb hd _ rfl fr lh sh
 have D:be pE 39 [a,b,.fn 40 [] []] []=some (.i .i64 (Ck d e),[]):=by
  unfold Ck adu qm
  rw[il apH (by simp[c39])]
  simp(maxDischargeDepth:=6) only[qB,seval,c39,Jg,ha.lenI,hb.lenI,r]
  clear r
  grind
 have F:=ha.froz
 have I:=hb.froz
 rw[il apx (by simp[c14])]
 simp(maxDischargeDepth:=6) only[qA,seval,c14,D,F,I,axJ]
end
def Qu(d:List (Int×Bool)):Nat:=(d.filter Prod.snd).length
theorem E1(k:Int×Bool)(d:List (Int×Bool)):Qu (k::d)=(if k.2=true then 1 else 0)+Qu d:=by
 unfold Qu
 rw[List.filter_cons]
 split <;> simp <;> omega
theorem S4(x:Int×Bool):Iv x x=0:=by unfold Iv;rw[if_pos rfl];omega
theorem LV: ∀(d a b:List (Int×Bool)),Ck (d++a) (d++b)=Ck a b
 | [],a,b=>rfl
 |x::d,a,b=>by
  rw[←LV d a b]
  unfold Ck adu
  rw[List.cons_append,List.cons_append,Bi,S4]
  simp
def aB5(l:List Lg):Prop:=l.Pairwise fun a b=>Ck a.du b.du<0
section
variable(N:Nat)(J:Nat→Nat→Bool)(iC:Nat→Bool)(ok:List (Int×Bool)→Bool)(lg:List (Int×Bool)→Lg)(Fo: ∀x,(lg x).du=x)
def TkF:Nat→List (Int×Bool)→Prop
 |_,[]=>False
 |f,[k]=>f<N∧k.1=(f:Int)∧(k.2=false→iC f=true)
 |f,k::l::r=>f<N∧k.1=(f:Int)∧(k.2=false→iC f=true)∧ ∃g,J f g=true∧TkF g (l::r)
include Fo
theorem II: ∀(n:Nat) (d:List (Int×Bool)) (f h:Nat),f<N→ ∀g,g∈lZ N J iC ok lg n d f h↔ ∃y,TkF N J iC f y∧y.length≤n∧Qu y≤h∧ok (d++y)=true∧g=lg (d++y)
 |0,d,f,h,U,g=>by
  have _:=Fo
  rw[lZ]
  constructor
  ·intro h;cases h
  ·rintro⟨y,h1,I,_⟩
   cases y with
   |nil=>exact h1.elim
   |cons k r=>simp at I
 |n+1,d,f,h,U,g=>by
  have one: ∀(b:Bool) (h:Nat),(b=false→iC f=true)→(g∈uG N J ok lg (lZ N J iC ok lg n) (d++ [((f:Int),b)]) f h↔ ∃y,TkF N J iC f (((f:Int),b)::y)∧y.length≤n∧Qu y≤h∧ok (d++(((f:Int),b)::y))=true∧g=lg (d++(((f:Int),b)::y))):=by
   intro b h hb
   unfold uG
   rw[List.mem_append,List.mem_flatMap]
   constructor
   ·rintro(h1|⟨x,h1,I⟩)
    ·split at h1
     ·rename_i V
      rw[List.mem_singleton]at h1
      exact⟨[],⟨U,rfl,hb⟩,Nat.zero_le _,Nat.zero_le _,V,h1⟩
     ·cases h1
    ·obtain⟨V,W⟩:=List.mem_filter.1 h1
     obtain⟨y,i,O,K,D,F⟩:=(II n _ x h (List.mem_range.1 V) g).1 I
     rw[List.append_assoc,List.singleton_append]at D F
     refine⟨y, ?_,O,K,D,F⟩
     cases y with
     |nil=>exact i.elim
     |cons l r=>exact⟨U,rfl,hb,x,W,i⟩
   ·rintro⟨y,i,O,K,D,F⟩
    cases y with
    |nil=>
     refine Or.inl ?_
     rw[if_pos D]
     exact List.mem_singleton.2 F
    |cons l r=>
     obtain⟨_,_,_,x,W,i⟩:=i
     have hx:x<N:=by
      cases r with
      |nil=>exact i.1
      |cons _ _=>exact i.1
     refine Or.inr ⟨x,List.mem_filter.2 ⟨List.mem_range.2 hx,W⟩,(II n _ x h hx g).2 ⟨l::r,i,O,K, ?_, ?_⟩⟩
     ·rw[List.append_assoc,List.singleton_append];exact D
     ·rw[List.append_assoc,List.singleton_append];exact F
  have hd: ∀y,TkF N J iC f y→ ∃b X,y=((f:Int),b)::X∧(b=false→iC f=true):=by
   intro y Y
   match y,Y with
   | [(a,b)],⟨_,h1,I⟩=>exact⟨b,[],by rw[←h1],I⟩
   |(a,b)::l::r,⟨_,h1,I,_⟩=>exact⟨b,l::r,by rw[←h1],I⟩
  rw[lZ,List.mem_append]
  constructor
  ·rintro(h1|h1)
   ·split at h1
    ·rename_i I
     obtain⟨y,i,O,K,D,F⟩:=(one false h fun _=>I).1 h1
     exact⟨_,i,by rw[List.length_cons];omega,by rw[E1];simpa using K,D,F⟩
    ·cases h1
   ·split at h1
    ·cases h1
    ·rename_i I
     obtain⟨y,i,O,K,D,F⟩:=(one true (h-1) (by simp)).1 h1
     exact⟨_,i,by rw[List.length_cons];omega,by rw[E1];simp;omega,D,F⟩
  ·rintro⟨y,i,O,K,D,F⟩
   obtain⟨b,y,rfl,hb⟩:=hd y i
   rw[List.length_cons]at O
   rw[E1]at K
   cases b
   ·refine Or.inl ?_
    rw[if_pos (hb rfl)]
    exact(one false h hb).2 ⟨y,i,by omega,by simpa using K,D,F⟩
   ·refine Or.inr ?_
    simp at K
    rw[if_neg (by omega)]
    exact(one true (h-1) hb).2 ⟨y,i,by omega,by omega,D,F⟩
theorem alm(H:Nat)(g:Lg):g∈pU N J iC ok lg H↔ ∃f y,f<N∧TkF N J iC f y∧y.length≤6∧Qu y≤H∧ok y=true∧g=lg y:=by
 unfold pU
 rw[List.mem_flatMap]
 constructor
 ·rintro⟨f,K,U⟩
  obtain⟨y,i,r,D,F,I⟩:=(II N J iC ok lg Fo 6 [] f H (List.mem_range.1 K) g).1 U
  exact⟨f,y,List.mem_range.1 K,i,r,D,F,I⟩
 ·rintro⟨f,y,O,i,r,D,F,I⟩
  exact⟨f,List.mem_range.2 O,(II N J iC ok lg Fo 6 [] f H O g).2 ⟨y,i,r,D,F,I⟩⟩
end
theorem Qv{N:Nat}{J:Nat→Nat→Bool}{iC:Nat→Bool}: ∀{f:Nat} {y:List (Int×Bool)},TkF N J iC f y→1≤y.length∧(∀k∈y,rS N k.1=true)∧ ∀k∈y,k.2=false→iC k.1.toNat=true
 |_,[],h=>h.elim
 |f,[k],⟨F,i,D⟩=>by
  refine⟨by simp, ?_, ?_⟩
  ·intro q hq
   rw[List.mem_singleton.1 hq,i]
   unfold rS;rw[decide_eq_true_eq];omega
  ·intro q hq hb
   rw[List.mem_singleton.1 hq]at hb ⊢
   rw[i];exact D hb
 |f,k::l::r,⟨F,i,D,g,U,I⟩=>by
  obtain⟨V,K,O⟩:=Qv I
  refine⟨by simp, ?_, ?_⟩
  ·intro q hq
   rcases List.mem_cons.1 hq with rfl|hq
   ·rw[i];unfold rS;rw[decide_eq_true_eq];omega
   ·exact K q hq
  ·intro q hq hb
   rcases List.mem_cons.1 hq with rfl|hq
   ·rw[i];exact D hb
   ·exact O q hq hb
theorem Zd{N:Nat}{J:Nat→Nat→Bool}{iC:Nat→Bool}{f:Nat}{l:Int×Bool}{r:List (Int×Bool)}(h:TkF N J iC f (l::r)):l.1=(f:Int)∧f<N:=by
 cases r with
 |nil=>exact⟨h.2.1,h.1⟩
 |cons _ _=>exact⟨h.2.1,h.1⟩
theorem Ze(c:Ct)(fl:List Fl){iC:Nat→Bool}: ∀{f:Nat} {y:List (Int×Bool)},TkF fl.length (jn c fl) iC f y→Mj c fl y=true
 |_,[],h=>h.elim
 |f,[k],h=>rfl
 |f,k::l::r,⟨i,I,U,g,K,D⟩=>by
  obtain⟨O,F⟩:=Zd D
  rw[Mj,Ze c fl D,Bool.and_true,I,O,zx c fl i F,←PO i F]
  exact K
theorem Zf(c:Ct)(fl:List Fl){iC:Nat→Bool}: ∀(y:List (Int×Bool)),1≤y.length→(∀k∈y,rS fl.length k.1=true)→(∀k∈y,k.2=false→iC k.1.toNat=true)→Mj c fl y=true→ ∃f,f<fl.length∧TkF fl.length (jn c fl) iC f y
 | [],h,_,_,_=>by simp at h
 | [k],_,F,I,_=>by
   obtain⟨f,i,D⟩:=sk (F k (by simp))
   refine⟨f,i,i,D,fun hb=> ?_⟩
   have:=I k (by simp) hb
   rw[D]at this
   exact this
 |k::l::r,_,F,I,K=>by
  rw[Mj,Bool.and_eq_true]at K
  obtain⟨f,i,D⟩:=sk (F k (by simp))
  obtain⟨g,X,U⟩:=Zf c fl (l::r) (by simp) (fun q O=>F q (List.mem_cons_of_mem _ O)) (fun q O=>I q (List.mem_cons_of_mem _ O)) K.2
  obtain⟨W,V⟩:=Zd U
  refine⟨f,i,i,D,fun hb=> ?_,g, ?_,U⟩
  ·have:=I k (by simp) hb
   rw[D]at this
   exact this
  ·have:=K.1
   rw[D,W,zx c fl i V]at this
   rw[PO i V]
   exact this
section
variable(ops:List Int)(oT:T)(ho:IsSl oT ops.length (ints ops))(Pu:ops.length≤1000)(d:List (Int×Bool))(dv:T)(hd:IsSl dv d.length (oD d))(hld:d.length≤1000)(rest:List T)(G:Nat)
include ho Pu hd hld
end
section
variable(t:Tt)(c:Ct)(zT aT fT a7 a8 a9 iv iy iw:T)(hT:sZ t zT aT fT)(hC:tp c a7 a8 a9 iv iy iw)(hA:Nv c)(hk:uF t c=0)(ops:List Int)(oT:T)(ho:IsSl oT ops.length (ints ops))(Pu:ops.length≤1000)(H:Nat)(out:List Lg)(v:T)(hv:Lw out v)(wq:out.length≤1000000000)
 (hg: ∀g∈out,uE c t.fl g.du=0∧FT t c g.du=true∧g=ue t c g.du∧Qu g.du≤H∧ ∀k∈g.du,k.2=false→k.1∈ops) (aB6:aB5 out)
include hT hC hA hk ho Pu hv wq hg aB6
end
theorem adZ{c:Ct}{fl:List Fl}{d:List (Int×Bool)}(D:1≤d.length)(F:d.length≤6)(i: ∀k∈d,rS fl.length k.1=true)(r:Mj c fl d=true):uE c fl d=0:=by
 unfold uE
 rw[if_neg (by omega),if_neg (by omega),if_pos (List.all_eq_true.2 i),if_pos r]
theorem Qw(t:Tt)(c:Ct)(ops:List Int)(H:Nat)(g:Lg):g∈pU t.fl.length (jn c t.fl) (nG ops) (FT t c) (ue t c) H↔ ∃d,g=ue t c d∧uE c t.fl d=0∧FT t c d=true∧Qu d≤H∧ ∀k∈d,k.2=false→k.1∈ops:=by
 rw[alm _ _ _ _ _ (zJ t c)]
 constructor
 ·rintro⟨f,y,Z,i,F,K,O,rfl⟩
  obtain⟨I,r,D⟩:=Qv i
  refine⟨y,rfl,adZ I F r (Ze c t.fl i),O,K,fun k hk hb=> ?_⟩
  have h:=D k hk hb
  obtain⟨n,_,e⟩:=sk (r k hk)
  unfold nG at h
  rw[decide_eq_true_eq,e]at h
  rw[e]
  exact h
 ·rintro⟨d,rfl,U,V,W,X⟩
  obtain⟨I,r,D,Y⟩:=PL U
  obtain⟨f,i,F⟩:=Zf (iC:=nG ops) c t.fl d I D (fun k hk hb=>by
   have h:=X k hk hb
   obtain⟨n,_,e⟩:=sk (D k hk)
   unfold nG
   rw[decide_eq_true_eq,e]
   rw[e]at h
   exact h) Y
  exact⟨f,d,i,F,r,W,V,rfl⟩
theorem auS(xs:List Int)(k:Nat→Nat)(hk: ∀i,k i≤2)(r:List Ru)(D:List Co)(cr:List Ex)(F:r.Sublist lQ)(I:D.Sublist n6)(K: ∀x∈cr,x∈It)(O:cr.length≤1):uF (rm (tA xs)) (Ag k r D cr)=0:=by
 have hc:=NY k hk r D cr F I K O
 unfold uF
 rw[YJ]
 simpa using hc
theorem co2(ops:List Int)(oT:T)(ho:IsSl oT ops.length (ints ops))(Pu:ops.length≤1000)(x:Int)(hd:T)(G:Nat)(fr:Fr)(lh:iq b8)(sh:List b8)(r:an fr 10=oT)(U:an fr 17= .ptr .L 17 G 0)(CI:an fr 19= .b false)(V:an fr 20= .i .i64 0)(D:b7 lh 17=⟨G,.cells [.i .i64 x,hd] 0 true⟩):
  Lp pE 167 xZ fr lh sh (.ext 4) fun f l s=>l=lh∧s=sh∧an f 19= .b (decide (x∈ops)):=by
 have K:=ho.lenI
 refine ky Hg (fun k f l s=>an f 20= .i .i64 (k:Int)∧l=lh∧s=sh∧an f 19= .b (decide (x∈ops.take k))) ops.length ⟨V,rfl,rfl,by rw[CI];simp⟩ ?_ ?_
 ·rintro k f l s hk F ⟨Mo,rfl,rfl,EI⟩
  have W:(k:Int)<ops.length:=by omega
  have X:=iN (k:=k) (by omega)
  obtain⟨Y,TF⟩:=ints_at ho k hk
  have I6:x∈ops.take (k+1)↔x∈ops.take k∨ops[k]=x:=by
   rw[List.take_succ_eq_append_getElem hk,List.mem_append,List.mem_singleton]
   exact or_congr Iff.rfl eq_comm
  by_cases hb:x∈ops.take k
  ·have I:decide (x∈ops.take (k+1))=true:=decide_eq_true (I6.2 (.inl hb))
   rw[I]
   rw[decide_eq_true hb]at EI
   simp(maxDischargeDepth:=6) only[qA,jI,sW,seval,iE,gd,xZ,F,r,U,Mo,EI,D,K,W,X,TF]
  ·rw[decide_eq_false hb]at EI
   by_cases O:ops[k]=x
   ·have I:decide (x∈ops.take (k+1))=true:=decide_eq_true (I6.2 (.inr O))
    rw[I]
    simp(maxDischargeDepth:=6) only[qA,jI,sW,seval,iE,gd,xZ,F,r,U,Mo,EI,D,K,W,X,TF,O]
   ·have I:decide (x∈ops.take (k+1))=false:=decide_eq_false fun h=>(I6.1 h).elim hb O
    rw[I]
    simp(maxDischargeDepth:=6) only[qA,jI,sW,seval,iE,gd,xZ,F,r,U,Mo,EI,D,K,W,X,TF,O]
 ·rintro f l s F ⟨Mo,rfl,rfl,EI⟩
  rw[List.take_length]at EI
  simp only[qA,seval,gd,xZ,F,r,K,Mo,Int.lt_irrefl]
  exact EI
theorem Qx(d:List (Int×Bool))(j:Nat)(r:j<d.length):(oD d)[j*2]? =some (.i .i64 d[j].1):=by
 induction d generalizing j with
 |nil=>simp at r
 |cons x d ih=>
  cases j with
  |zero=>rfl
  |succ j=>
   have:=ih j (by simpa using r)
   rw[show(j+1)*2=j*2+2 by omega]
   exact this
section
variable(t:Tt)(c:Ct)(zT aT fT a7 a8 a9 iv iy iw:T)(hT:sZ t zT aT fT)(hC:tp c a7 a8 a9 iv iy iw)(hN:t.fl.length≤1000)
include hT hC hN
theorem co3(i:Nat)(d:List (Int×Bool))(hi:i+1=d.length)(hdl:d.length≤1000)(tn:rS t.fl.length (d[i]'(by omega)).1=true)(g wm G:Nat)(hd:T)(fr:Fr)(lh:iq b8)(sh:List b8)(h7:an fr 7= .ptr .L 7 1 0)(h8:an fr 8= .ptr .L 8 1 0)(qf:an fr 13= .isl .L 124 g 0 d.length 2)(qv:an fr 15= .i .i64 (d.length:Int))(sr:an fr 17= .ptr .L 17 G 0)(mq:an fr 18= .i .i64 ((d[i]'(by omega)).1+1))(o7:b7 lh 7=⟨1,.cells [zT,aT,fT] 0 true⟩)(o8:b7 lh 8=⟨1,.cells (jB c a7 a8 a9 iv iy iw) 0 true⟩)(S5:b7 lh 124=⟨g,.cells (oD d) wm false⟩)(V: ∃x,b7 lh 17=⟨G,.cells [.i .i64 x,hd] 0 true⟩∧rS t.fl.length x=true):
  Lp pE 167 C6 fr lh sh (.ext 2) fun f l s=>s=sh∧(∃x,b7 l 17=⟨G,.cells [.i .i64 x,hd] 0 true⟩∧rS t.fl.length x=true)∧ ∀j,j≠17→b7 l j=b7 lh j:=by
 have hz:=fzA t c zT aT fT a7 a8 a9 iv iy iw hT hC
 obtain⟨r,hj0,I⟩:=sk tn
 have K:i<d.length:=by omega
 have D:=Qx d i K
 obtain⟨fc,f1,f2⟩:=id hT.f
 have mf:=f1.lenI
 have W:wr .i64 ((d.length:Int)-1)=(i:Int):=by rw[js (by omega)];omega
 have DG:(0:Int)≤(i:Int)∧((i:Int)).toNat<d.length∧2=2:=⟨by omega,by omega,rfl⟩
 rw[I]at D mq
 have O:=tn
 rw[I]at O
 refine ky Hh (fun k f l s=>an f 18= .i .i64 ((r+1+k:Nat):Int)∧s=sh∧(∃x,b7 l 17=⟨G,.cells [.i .i64 x,hd] 0 true⟩∧rS t.fl.length x=true)∧ ∀j,j≠17→b7 l j=b7 lh j) (t.fl.length-(r+1)) ⟨by rw[mq];rfl,rfl,V,fun _ _=>rfl⟩ ?_ ?_
 ·rintro k f l _ hk X ⟨Y,rfl,⟨x,Z,hx⟩,F⟩
  have iX:((r+1+k:Nat):Int)<t.fl.length:=by omega
  have hw:=iN (k:=r+1+k) (by omega)
  have U:rS t.fl.length ((r+1+k:Nat):Int)=true:=by unfold rS;rw[decide_eq_true_eq];omega
  have e1:=XD t c zT aT fT a7 a8 a9 iv iy iw hT hC O U
  have q7:b7 l 7=⟨1,.cells [zT,aT,fT] 0 true⟩:=(F 7 (by decide)).trans o7
  have q8:b7 l 8=⟨1,.cells (jB c a7 a8 a9 iv iy iw) 0 true⟩:=(F 8 (by decide)).trans o8
  have aB7:b7 l 124=⟨g,.cells (oD d) wm false⟩:=(F 124 (by decide)).trans S5
  rw[show r+1+(k+1)=r+1+k+1 by omega]
  generalize r+1+k=j at*
  generalize BQ c t.fl (r:Int) (j:Int)=J at*
  generalize oD d=dc at*
  unfold jB at*
  cases J
  all_goals
   simp(maxDischargeDepth:=6) only[qA,jI,sW,seval,iE,gd,C6,X,h7,h8,qf,qv,sr,Y,q7,q8,Z,aB7,mf,iX,W,DG,D,hz,e1,hw,axw,axx,K]
  ·exact⟨⟨x,rfl,hx⟩,F⟩
  ·exact⟨⟨_,rfl,U⟩,fun q hq=>(jz _ _ hq).trans (F q hq)⟩
 ·rintro f l _ X ⟨Y,rfl,aB8,F⟩
  have q7:b7 l 7=⟨1,.cells [zT,aT,fT] 0 true⟩:=(F 7 (by decide)).trans o7
  have iX: ¬((r+1+(t.fl.length-(r+1)):Nat):Int)<t.fl.length:=by omega
  simp only[qA,seval,gd,C6,X,h7,q7,mf,Y,iX]
  exact⟨aB8,F⟩
end
end Go.Proofs.YtcpceiclnbmgiaaGreat
