/- Walks of functions of the program and of the reference, and their plain laws, part 11. Conditions: the theorems' own. -/
import Derived.Test.YtcpceiclnbmgiaaGreatGS
import Derived.Test.YtcpceiclnbmgiaaGreatM1
import Derived.Test.YtcpceiclnbmgiaaGreatM7
import Derived.Test.YtcpceiclnbmgiaaGreatM8
import Derived.Test.YtcpceiclnbmgiaaGreatM9
import Derived.Test.YtcpceiclnbmgiaaGreatM10
import Derived.KernelRfl
set_option maxRecDepth 100000
set_option linter.unusedVariables false
set_option linter.unusedSimpArgs false
set_option maxHeartbeats 16000000
namespace Go.Proofs.YtcpceiclnbmgiaaGreat
open Go Go.Ev
theorem j3{j:Nat}(h:j≤2):j∈ [0,1,2]:=by
 have:j=0∨j=1∨j=2:=zO
 simpa using this
theorem td4{α:Type}{P:α→Prop}{L:List α}(a: ∀x∈(L.drop 0).take 8,P x)(b: ∀x∈(L.drop 8).take 8,P x)(c: ∀x∈(L.drop 16).take 8,P x)(d: ∀x∈L.drop 24,P x): ∀x∈L,P x:=
 td 8 a (td 8 b (by rw[List.drop_drop];exact td 8 c (by rw[List.drop_drop];exact d)))
theorem aEV(e:Bool)(j:Nat)(r:j≤2): ∀p∈Ea,ae pE 156 [vB e j,.i .i64 p.1,.agg (kz p.2)] []=some (.tup [.i .i64 (dc (sg j) p.1 p.2).1,.i .i64 (dc (sg j) p.1 p.2).2],[]):=by
 have:j=0∨j=1∨j=2:=zO
 rcases this with rfl|rfl|rfl
 ·exact td4 (aEW e) (aEX e) (aEY e) (aEZ e)
 ·exact td4 (aE0 e) (aE1 e) (aE2 e) (aE3 e)
 ·exact td4 (aEQ e) (aER e) (aES e) (aET e)
theorem Ok{l:Cs}{lT:T}{cl:List T}{j:Nat}(D:l=sg j)(hl:IsSl lT l.length cl)(ee:dx l cl): ∃e,lT=vB e j∧cl= .s yl::kz (oO j):=by
 subst D
 unfold sg at hl ee
 rw[dx]at ee
 obtain⟨ex,r,rfl,h1,h2⟩:=ee
 rw[dx]at h2
 subst h2
 rw[show ex=kz (oO j)from h1,List.append_nil]at hl ⊢
 rcases hl with⟨_,h,_⟩|⟨e,rfl⟩
 ·simp at h
 ·exact⟨e,rfl,rfl⟩
theorem Rh(l:Cs)(lT:T)(cl:List T)(hl:IsSl lT l.length cl)(ee:dx l cl)(r: ∃j,j≤2∧l=sg j):ae pE 222 [lT] []=some (cE l.length (ints (sV l l.length)),[]):=by
 obtain⟨j,D,r⟩:=r
 obtain⟨e,rfl,_⟩:=Ok r hl ee
 subst r
 exact tyv e j (j3 D)
def aA{α:Type}(R:α→List T→Prop):List α→List T→Prop
 | [],cs=>cs= []
 |x::xs,cs=> ∃c r,cs=c++r∧R x c∧aA R xs r
section
variable{α:Type}{R:α→List T→Prop}{k:Nat}
theorem aA.len(D: ∀x c,R x c→c.length=k): ∀{xs:List α} {cs:List T},aA R xs cs→cs.length=xs.length*k
 | [],cs,h=>by grind [aA]
 |x::xs,cs,h=>by
  rw[aA]at h
  obtain⟨c,r,rfl,h1,h2⟩:=h
  rw[List.length_append,D _ _ h1,aA.len D h2,List.length_cons,Nat.add_mul,Nat.one_mul,Nat.add_comm]
theorem aA.drop(D: ∀x c,R x c→c.length=k): ∀{xs:List α} {cs:List T} (i:Nat) (hi:i<xs.length),aA R xs cs→ ∃c r,cs.drop (i*k)=c++r∧R xs[i] c
 | [],cs,i,hi,h=>by simp at hi
 |x::xs,cs,0,hi,h=>by
  grind [aA]
 |x::xs,cs,i+1,hi,h=>by
  rw[aA]at h
  obtain⟨c,r,rfl,h1,h2⟩:=h
  obtain⟨F,H,e,h3⟩:=aA.drop D i (by simpa using hi) h2
  refine⟨F,H, ?_,h3⟩
  have:(i+1)*k=c.length+i*k:=by rw[D _ _ h1,Nat.add_mul,Nat.one_mul,Nat.add_comm]
  grind [List.drop_append,Nat.add_sub_cancel_left,List.drop_eq_nil_of_le]
theorem kD(D: ∀x c,R x c→c.length=k){xs:List α}{a:T}{F:List T}(h1:IsSl a xs.length F)(h2:aA R xs F)(i:Nat)(hi:i<xs.length): ∃c r,(∀kk,dV a (.i kk (i:Int)) k=some (.vp (c++r)))∧R xs[i] c:=by
 obtain⟨c,r,e,h3⟩:=aA.drop D i hi h2
 exact⟨c,r,fun kk=>by rw[h1.ia (sz:=k) (aA.len D h2) hi,e],h3⟩
theorem aA.append: ∀{xs D:List α} {c r:List T},aA R xs c→aA R D r→aA R (xs++D) (c++r)
 | [],D,c,r,h1,h2=>by grind [aA]
 |x::xs,D,c,r,h1,h2=>by
  rw[aA]at h1
  obtain⟨F,H,rfl,h3,h4⟩:=h1
  rw[List.append_assoc]
  exact⟨F,H++r,rfl,h3,aA.append h4 h2⟩
theorem aA.one{x:α}{c:List T}(h:R x c):aA R [x] c:=⟨c,[],by simp,h,rfl⟩
end
structure Li where
 nm:List Nat
 me:List Nat
 mo:Int
 da:Int
structure Of where
 nm:List Nat
 ct:Int
 da:Int
def Ri(u:Ru)(c:List T):Prop:= ∃a r,c= [.i .i64 u.sc,.s u.nm,.i .i64 u.x.op,.i .i64 u.x.num,.s u.x.name,a]∧IsSl a u.x.args.length r∧jI u.x [.i .i64 u.x.op,.i .i64 u.x.num,.s u.x.name,a]
def XZ(u:Co)(c:List T):Prop:= ∃a r,c= [.i .i64 u.sc,.i .i64 u.x.op,.i .i64 u.x.num,.s u.x.name,a]∧IsSl a u.x.args.length r∧jI u.x [.i .i64 u.x.op,.i .i64 u.x.num,.s u.x.name,a]
def LiR(u:Li)(c:List T):Prop:=c= [.s u.nm,.s u.me,.i .i64 u.mo,.i .i64 u.da]
def OfR(u:Of)(c:List T):Prop:=c= [.s u.nm,.i .i64 u.ct,.i .i64 u.da]
theorem Ri.len(u:Ru)(c:List T)(h:Ri u c):c.length=6:=by obtain⟨a,r,rfl,_⟩:=h;rfl
theorem XZ.len(u:Co)(c:List T)(h:XZ u c):c.length=5:=by obtain⟨a,r,rfl,_⟩:=h;rfl
theorem LiR.len(u:Li)(c:List T)(h:LiR u c):c.length=4:=by rw[h];rfl
theorem OfR.len(u:Of)(c:List T)(h:OfR u c):c.length=3:=by rw[h];rfl
theorem ym{xs:List Ru}{a:T}{F:List T}(h1:IsSl a xs.length F)(h2:aA Ri xs F)(i:Nat)(hi:i<xs.length):
  ∃b D r,(∀kk,dV a (.i kk (i:Int)) 6=some (.vp (.i .i64 xs[i].sc:: .s xs[i].nm:: .i .i64 xs[i].x.op:: .i .i64 xs[i].x.num:: .s xs[i].x.name::b::r)))∧IsSl b xs[i].x.args.length D∧jI xs[i].x [.i .i64 xs[i].x.op,.i .i64 xs[i].x.num,.s xs[i].x.name,b]:=by
 obtain⟨c,r,h3,b,D,rfl,h4,h5⟩:=kD Ri.len h1 h2 i hi
 exact⟨b,D,r,h3,h4,h5⟩
theorem BR{xs:List Co}{a:T}{F:List T}(h1:IsSl a xs.length F)(h2:aA XZ xs F)(i:Nat)(hi:i<xs.length):
  ∃b D r,(∀kk,dV a (.i kk (i:Int)) 5=some (.vp (.i .i64 xs[i].sc:: .i .i64 xs[i].x.op:: .i .i64 xs[i].x.num:: .s xs[i].x.name::b::r)))∧IsSl b xs[i].x.args.length D∧jI xs[i].x [.i .i64 xs[i].x.op,.i .i64 xs[i].x.num,.s xs[i].x.name,b]:=by
 obtain⟨c,r,h3,b,D,rfl,h4,h5⟩:=kD XZ.len h1 h2 i hi
 exact⟨b,D,r,h3,h4,h5⟩
theorem Ol{xs:List Li}{a:T}{D:List T}(h1:IsSl a xs.length D)(h2:aA LiR xs D)(i:Nat)(hi:i<xs.length):
  ∃r,∀kk,dV a (.i kk (i:Int)) 4=some (.vp (.s xs[i].nm:: .s xs[i].me:: .i .i64 xs[i].mo:: .i .i64 xs[i].da::r)):=by
 obtain⟨c,r,h3,h4⟩:=kD LiR.len h1 h2 i hi
 rw[h4]at h3
 exact⟨r,h3⟩
theorem X0{xs:List Of}{a:T}{D:List T}(h1:IsSl a xs.length D)(h2:aA OfR xs D)(i:Nat)(hi:i<xs.length):
  ∃r,∀kk,dV a (.i kk (i:Int)) 3=some (.vp (.s xs[i].nm:: .i .i64 xs[i].ct:: .i .i64 xs[i].da::r)):=by
 obtain⟨c,r,h3,h4⟩:=kD OfR.len h1 h2 i hi
 rw[h4]at h3
 exact⟨r,h3⟩
structure Ct where
 rp:Int
 rl:Int
 cn:Int
 st:Int
 ly:Int
 nf:Int
 nt:Int
 cs:Cs
 ru:List Ru
 co:List Co
 cr:List Ex
 li:List Li
 fs:List Of
 gu:Int
def mJ(n lo hi:Int):Bool:=decide (lo≤n)&&decide (n≤hi)
def KN(seen:List (List Nat)):Cs→Int
 | []=>0
 |c::l=>if jB c.1=false then 1 else if c.1∈seen then 7 else if bW c.2≠0 then bW c.2 else KN (seen++ [c.1]) l
def Hz(seen:List (Int×List Nat)):List Ru→Int
 | []=>0
 |u::l=>if mJ u.sc 1 3=false∨jB u.nm=false then 1 else if(u.sc,u.nm)∈seen then 7 else if bW u.x≠0 then bW u.x else Hz (seen++ [(u.sc,u.nm)]) l
def Jc:List Co→Int
 | []=>0
 |u::l=>if mJ u.sc 1 3=false then 1 else if bW u.x≠0 then bW u.x else Jc l
def Jd:List Ex→Int
 | []=>0
 |x::l=>if bW x≠0 then bW x else Jd l
def X1(s:List Nat):Int:=if s= [98,108,111,99,107]∨s= [115,112,97,110]∨s= [110,105,103,104,116]∨s= [99,114,101,100,105,116]then 3 else if s= [108,101,103,115]∨s= [104,101,97,100,115]∨s= [100,117,116,105,101,115]then 2 else 0
def Om(seen:List (List Nat)):List Li→Int
 | []=>0
 |u::l=>if jB u.nm=false then 1 else if u.nm∈seen then 7 else if X1 u.me=0 then 6 else if mJ u.mo 0 599999=false∨mJ u.da 1 31=false then 5 else Om (seen++ [u.nm]) l
def SS(seen:List (List Nat)):List Of→Int
 | []=>0
 |u::l=>if jB u.nm=false then 1 else if u.nm∈seen then 7 else if mJ u.da 1 31=false∨mJ u.ct 1 u.da=false then 5 else SS (seen++ [u.nm]) l
def X2(c:Ct):Int:=if Om [] c.li≠0 then Om [] c.li else SS (c.li.map Li.nm) c.fs
def jD(c:Ct):Bool:=mJ c.rp 0 1440&&(mJ c.rl 0 1440&&(mJ c.cn 0 1440&&(mJ c.st c.cn 1440&&(mJ c.ly 0 10080&&(mJ c.nf 0 1439&&(mJ c.nt 0 1439&&mJ c.gu 0 599999))))))
def jM(c:Ct):Bool:=decide (c.cs.length≤32)&&(decide (c.ru.length≤40)&&(decide (c.co.length≤16)&&(decide (c.cr.length≤1)&&(decide (c.li.length≤16)&&decide (c.fs.length≤16)))))
def fR(c:Ct):Int:=if jD c=false then 5 else if jM c=false then 10 else if KN [] c.cs≠0 then KN [] c.cs else if Hz [] c.ru≠0 then Hz [] c.ru else if Jc c.co≠0 then Jc c.co else if Jd c.cr≠0 then Jd c.cr else X2 c
theorem vi(n lo hi:Int):ae pE 137 [.i .i64 n,.i .i64 lo,.i .i64 hi] []=some (.b (mJ n lo hi),[]):=by
 rw[an ag6 (by simp[TC])]
 unfold mJ
 by_cases h:lo≤n <;> simp only[qA,seval,TC,h]
theorem Eb(n:Int):ae pE 140 [.i .i64 n] []=some (.b (mJ n 1 3),[]):=by
 rw[an ag9 (by simp[TF])]
 simp only[qA,seval,TF,vi,HZ]
theorem oi{α:Type}[DecidableEq α](s:α): ∀l:List α,aU (l.map fun x=>(x,true)) s=if s∈l then some true else none
 | []=>by simp[aU]
 |a::l=>by
  rw[List.map_cons,aU,oi s l]
  grind
theorem Gh(seen:List (List Nat))(s:List Nat):jb (.one .str) ((seen.map fun x=>(x,true)).map fun p=>sK p.1) ((seen.map fun x=>(x,true)).map fun p=>T.b p.2) (.s s) (.b false) false=some (.b (decide (s∈seen))):=by
 have:=Og (kT:=sK) (vT:=T.b) Dj (fun _=>rfl) (seen.map fun x=>(x,true)) s (.b false)
 rw[show(T.s s)=sK s from rfl,this,oi]
 grind
theorem BS(seen:List (List Nat))(s:List Nat)(h:s∉seen):lU (.one .str) (.s s) (.b true) ((seen.map fun x=>(x,true)).map fun p=>sK p.1) ((seen.map fun x=>(x,true)).map fun p=>T.b p.2)=some (((seen++ [s]).map fun x=>(x,true)).map (fun p=>sK p.1),((seen++ [s]).map fun x=>(x,true)).map (fun p=>T.b p.2)):=by
 have:=u9 (kT:=sK) (vT:=T.b) Dj (seen.map fun x=>(x,true)) s true (by rw[oi,if_neg h])
 rw[show(T.s s)=sK s from rfl,show T.b true=T.b (true)from rfl,this]
 grind
theorem aE4(l:Cs)(a:T)(O:List T)(Y:IsSl a l.length O)(hc:dx l O)(hlen:l.length≤kP)(tZ:smC l)(g:Nat)(fr:Fr)(lh:aB ah)(sh:List ah)
  (h3:aa fr 3= .mp .L 7 g) (U:aa fr 8=a) (I:aa fr 9= .i .i64 (l.length:Int)) (J:aa fr 10= .i .i64 0) (D:ab lh 7=⟨g,.map [] [] false⟩):
  py pE 32 ug fr lh sh 0 2 (KN [] l) (fun F K=>K=sh):=by
 refine cm ape (fun k f F K=>aa f 10= .i .i64 (k:Int)∧ab F 7=⟨g,.map ((((l.take k).map Prod.fst).map fun x=>(x,true)).map fun p=>sK p.1) ((((l.take k).map Prod.fst).map fun x=>(x,true)).map fun p=>T.b p.2) false⟩∧K=sh∧KN [] l=KN ((l.take k).map Prod.fst) (l.drop k)) l.length ⟨J,D,rfl,rfl⟩ ?_ ?_
 ·rintro k f F _ hk r ⟨H,D,rfl,hr⟩
  rw[List.drop_eq_getElem_cons hk,KN]at hr
  have V:(k:Int)<l.length:=zO
  have Z:=bj (k:=k) zO
  obtain⟨b,cb,rr,W,fD,nN,hb⟩:=ga Y hc k hk
  obtain⟨qU,N⟩:=tZ l[k] (List.getElem_mem hk)
  have BT:=cO (se l[k].1)
  have L4:=fun z fr lh sh=>om (z:=z) (fr:=fr) (lh:=lh) (sh:=sh) l[k].2 _ hb qU N
  have X:=Gh ((l.take k).map Prod.fst) l[k].1
  have jx:=BS ((l.take k).map Prod.fst) l[k].1
  have fO:(l.take (k+1)).map Prod.fst=(l.take k).map Prod.fst++ [l[k].1]:=by rw[List.take_succ_eq_append_getElem hk,List.map_append];rfl
  by_cases hs:l[k].1∈(l.take k).map Prod.fst
  ·simp only[qB,seval,gd,ug,r,h3,U,I,H,D,V,W,BT,xL,cq,X,hs]
   clear r
   grind
  ·simp only[qB,seval,gd,ug,r,h3,U,I,H,D,V,W,Z,BT,xL,cq,X,hs,pq,yj,jx hs,L4,fO]
   clear r
   grind
 ·rintro f F _ r ⟨H,D,rfl,hr⟩
  simp only[qB,seval,gd,ug,r,I,H,Int.lt_irrefl,hr,List.drop_length,KN]
theorem ams(l:Cs)(a:T)(r:List T)(D:IsSl a l.length r)(hc:dx l r)(hlen:l.length≤kP)(tZ:smC l):ae pE 138 [a] []=some (.i .i64 (KN [] l),[]):=by
 have F:=aE4 l a r D hc hlen tZ 1
 rw[an ag7 (by simp[TD])]
 simp only[qB,seval,TD,D.lenI,F]
 grind
def rK(p:Int×List Nat):T:= .agg [.i .i64 p.1,.s p.2]
theorem ayd(a b:Int×List Nat):sy (.flat [.int,.str]) (rK a) (rK b)=some (decide (a=b)):=by
 unfold rK
 rw[al8]
 congr 1
 by_cases h1:a.1=b.1 <;> by_cases h2:a.2=b.2 <;> simp[h1,h2,Prod.ext_iff]
theorem X3(seen:List (Int×List Nat))(s:Int×List Nat):jb (.flat [.int,.str]) ((seen.map fun x=>(x,true)).map fun p=>rK p.1) ((seen.map fun x=>(x,true)).map fun p=>T.b p.2) (.agg [.i .i64 s.1,.s s.2]) (.b false) false=some (.b (decide (s∈seen))):=by
 have:=Og (kT:=rK) (vT:=T.b) ayd (fun _=>Xi) (seen.map fun x=>(x,true)) s (.b false)
 rw[show T.agg [.i .i64 s.1,.s s.2]=rK s from rfl,this,oi]
 by_cases h:s∈seen <;> simp[h]
theorem Rj(seen:List (Int×List Nat))(s:Int×List Nat)(h:s∉seen):lU (.flat [.int,.str]) (.agg [.i .i64 s.1,.s s.2]) (.b true) ((seen.map fun x=>(x,true)).map fun p=>rK p.1) ((seen.map fun x=>(x,true)).map fun p=>T.b p.2)=some (((seen++ [s]).map fun x=>(x,true)).map (fun p=>rK p.1),((seen++ [s]).map fun x=>(x,true)).map (fun p=>T.b p.2)):=by
 have:=u9 (kT:=rK) (vT:=T.b) ayd (seen.map fun x=>(x,true)) s true (by rw[oi,if_neg h])
 rw[show T.agg [.i .i64 s.1,.s s.2]=rK s from rfl,this]
 simp only[List.map_append,List.map_cons,List.map_nil]
def X4(x:Ex):Prop:=0≤x.nodes∧x.sm
def HA(u:Ru):Int×List Nat:=(u.sc,u.nm)
theorem aE5(l:List Ru)(a:T)(O:List T)(Z:IsSl a l.length O)(hc:aA Ri l O)(hlen:l.length≤kP)(tZ: ∀u∈l,X4 u.x)(g:Nat)(fr:Fr)(lh:aB ah)(sh:List ah)
  (h3:aa fr 3= .mp .L 8 g) (U:aa fr 9=a) (r:aa fr 10= .i .i64 (l.length:Int)) (J:aa fr 11= .i .i64 0) (F:ab lh 8=⟨g,.map [] [] false⟩):
  py pE 42 uh fr lh sh 0 2 (Hz [] l) (fun H K=>K=sh):=by
 refine cm apf (fun k f H K=>aa f 11= .i .i64 (k:Int)∧ab H 8=⟨g,.map ((((l.take k).map HA).map fun x=>(x,true)).map fun p=>rK p.1) ((((l.take k).map HA).map fun x=>(x,true)).map fun p=>T.b p.2) false⟩∧K=sh∧Hz [] l=Hz ((l.take k).map HA) (l.drop k)) l.length ⟨J,F,rfl,rfl⟩ ?_ ?_
 ·rintro k f H _ hk D ⟨I,F,rfl,hr⟩
  rw[List.drop_eq_getElem_cons hk,Hz]at hr
  have V:(k:Int)<l.length:=zO
  have hw:=bj (k:=k) zO
  obtain⟨b,cb,rr,W,fD,hb⟩:=ym Z hc k hk
  obtain⟨qU,N⟩:=tZ l[k] (List.getElem_mem hk)
  have X:=cO (Eb l[k].sc)
  have BT:=cO (se l[k].nm)
  have L4:=fun z fr lh sh=>om (z:=z) (fr:=fr) (lh:=lh) (sh:=sh) l[k].x _ hb qU N
  have Y:=X3 ((l.take k).map HA) (l[k].sc,l[k].nm)
  have jx:=Rj ((l.take k).map HA) (l[k].sc,l[k].nm)
  have fO:(l.take (k+1)).map HA=(l.take k).map HA++ [(l[k].sc,l[k].nm)]:=by rw[List.take_succ_eq_append_getElem hk,List.map_append];rfl
  by_cases hs:(l[k].sc,l[k].nm)∈(l.take k).map HA
  ·simp only[qB,seval,gd,uh,D,h3,U,r,I,F,V,W,X,UP,BT,xL,cq,Y,hs]
   clear D
   grind
  ·simp only[qB,seval,gd,uh,D,h3,U,r,I,F,V,W,hw,X,UP,BT,xL,cq,Y,hs,pq,Xi,jx hs,L4,fO]
   clear D
   grind
 ·rintro f H _ D ⟨I,F,rfl,hr⟩
  simp only[qB,seval,gd,uh,D,r,I,Int.lt_irrefl,hr,List.drop_length,Hz]
theorem amt(l:List Ru)(a:T)(r:List T)(D:IsSl a l.length r)(hc:aA Ri l r)(hlen:l.length≤kP)(tZ: ∀u∈l,X4 u.x):ae pE 139 [a] []=some (.i .i64 (Hz [] l),[]):=by
 have F:=aE5 l a r D hc hlen tZ 1
 rw[an ag8 (by simp[TE])]
 simp only[qB,seval,TE,D.lenI,F]
 grind
def Ec:List (List Nat):= [[98,108,111,99,107],[115,112,97,110],[110,105,103,104,116],[99,114,101,100,105,116],[108,101,103,115],[104,101,97,100,115],[100,117,116,105,101,115]]
theorem X5(s:List Nat):ae pE 182 [.s s] []=some (.i .i64 (X1 s),[]):=by
 by_cases h:s∈Ec
 ·simp only[Ec,List.mem_cons,List.not_mem_nil,or_false]at h
  rcases h with rfl|rfl|rfl|rfl|rfl|rfl|rfl <;> exact dj (m:=20) (dh (by kernel_rfl))
 ·simp only[Ec,List.mem_cons,List.not_mem_nil,or_false,not_or]at h
  obtain⟨h1,h2,h3,h4,h5,h6,r⟩:=h
  rw[an ahD (by simp[TY])]
  unfold X1
  simp only[qA,seval,TY,h1,h2,h3,h4,h5,h6,r,or_self]
theorem X6(s:List Nat): ∃n:Int,(n=0↔X1 s=0)∧ae pE 128 [.s s] []=some (.i .i64 n,[]):=by
 by_cases h:s∈Ec
 ·simp only[Ec,List.mem_cons,List.not_mem_nil,or_false]at h
  rcases h with rfl|rfl|rfl|rfl|rfl|rfl|rfl
  iterate 4 exact⟨2,by decide,dj (m:=20) (dh (by kernel_rfl))⟩
  iterate 3 exact⟨1,by decide,dj (m:=20) (dh (by kernel_rfl))⟩
 ·simp only[Ec,List.mem_cons,List.not_mem_nil,or_false,not_or]at h
  obtain⟨h1,h2,h3,h4,h5,h6,r⟩:=h
  refine⟨0, ?_, ?_⟩
  ·unfold X1;simp[h1,h2,h3,h4,h5,h6,r]
  ·rw[an agY (by simp[Tw])]
   simp only[qA,seval,Tw,h1,h2,h3,h4,h5,h6,r]
def qb(g:Nat)(seen:List (List Nat)):ah:=⟨g,.map ((seen.map fun x=>(x,true)).map fun p=>sK p.1) ((seen.map fun x=>(x,true)).map fun p=>T.b p.2) false⟩
theorem Je(g:Nat)(seen:List (List Nat))(s:List Nat):lkE (qb g seen) g (.one .str) (.s s) (.b false) false=some (.b (decide (s∈seen))):=by
 unfold qb;rw[cq,if_pos rfl,Gh]
theorem Jf{lh:aB ah}{kk:Nat}(g:Nat)(seen:List (List Nat))(s:List Nat)(h:s∉seen):muE lh kk (qb g seen) g (.one .str) (.s s) (.b true)=some (iK lh kk (qb g (seen++ [s]))):=by
 unfold qb;rw[pq,if_pos ⟨rfl,rfl⟩,BS seen s h];rfl
theorem aE6(l:List Li)(a:T)(Y:List T)(ha:IsSl a l.length Y)(hc:aA LiR l Y)(hlen:l.length≤kP)(g:Nat)(O:ah)(fr:Fr)(lh:aB ah)(sh:List ah)
  (h3:aa fr 3= .mp .L 8 g) (K:aa fr 10=a) (r:aa fr 11= .i .i64 (l.length:Int)) (U:aa fr 12= .i .i64 0) (D:ab lh 8=qb g []) (I:ab lh 1=O):
  py pE 80 uj fr lh sh 0 2 (Om [] l) (fun F V=>(Om [] l=0→ab F 8=qb g (l.map Li.nm))∧ab F 1=O∧V=sh):=by
 refine cm Rk (fun k f F V=>aa f 12= .i .i64 (k:Int)∧ab F 8=qb g ((l.take k).map Li.nm)∧ab F 1=O∧V=sh∧Om [] l=Om ((l.take k).map Li.nm) (l.drop k)) l.length ⟨U,D,I,rfl,rfl⟩ ?_ ?_
 ·rintro k f F _ hk J ⟨N,D,I,rfl,hr⟩
  rw[List.drop_eq_getElem_cons hk,Om]at hr
  have Z:(k:Int)<l.length:=zO
  have hw:=bj (k:=k) zO
  obtain⟨rr,aQ⟩:=Ol ha hc k hk
  have BT:=cO (se l[k].nm)
  have W:=X5 l[k].me
  have X:=fun n lo hi=>cO (vi n lo hi)
  have fH:=Je g ((l.take k).map Li.nm) l[k].nm
  have H:=fun lh kk=>Jf (lh:=lh) (kk:=kk) g ((l.take k).map Li.nm) l[k].nm
  have fO:(l.take (k+1)).map Li.nm=(l.take k).map Li.nm++ [l[k].nm]:=by rw[List.take_succ_eq_append_getElem hk,List.map_append];rfl
  by_cases hs:l[k].nm∈(l.take k).map Li.nm
  ·simp only[qB,seval,gd,uj,J,h3,K,r,N,D,I,Z,aQ,BT,xL,fH,hs]
   clear J X H
   grind
  ·simp only[qB,seval,gd,uj,J,h3,K,r,N,D,I,Z,aQ,hw,BT,xL,fH,hs,fun lh kk=>H lh kk hs,W,avI,X,HZ,fO]
   clear J X H
   grind (splits:=30)
 ·rintro f F _ J ⟨N,D,I,rfl,hr⟩
  rw[List.take_length]at D
  simp only[qB,seval,gd,uj,J,r,N,D,I,Int.lt_irrefl,hr,List.drop_length,Om]
  exact fun _=>trivial
theorem aE8(l:List Of)(r:List (List Nat))(a:T)(W:List T)(ha:IsSl a l.length W)(hc:aA OfR l W)(hlen:l.length≤kP)(g:Nat)(fr:Fr)(lh:aB ah)(sh:List ah)
  (h3:aa fr 3= .mp .L 8 g) (I:aa fr 47=a) (D:aa fr 48= .i .i64 (l.length:Int)) (O:aa fr 49= .i .i64 0) (J:ab lh 8=qb g r):
  py pE 80 ui fr lh sh 3 2 (SS r l) (fun K U=>U=sh):=by
 refine cm apg (fun k f K U=>aa f 49= .i .i64 (k:Int)∧ab K 8=qb g (r++(l.take k).map Of.nm)∧U=sh∧SS r l=SS (r++(l.take k).map Of.nm) (l.drop k)) l.length ⟨O,by simpa using J,rfl,by simp⟩ ?_ ?_
 ·rintro k f K _ hk H ⟨N,J,rfl,hr⟩
  rw[List.drop_eq_getElem_cons hk,SS]at hr
  have X:(k:Int)<l.length:=zO
  have hw:=bj (k:=k) zO
  obtain⟨rr,Y⟩:=X0 ha hc k hk
  have BT:=cO (se l[k].nm)
  have V:=fun n lo hi=>cO (vi n lo hi)
  have Z:=Je g (r++(l.take k).map Of.nm) l[k].nm
  have F:=fun lh kk=>Jf (lh:=lh) (kk:=kk) g (r++(l.take k).map Of.nm) l[k].nm
  have fO:r++(l.take (k+1)).map Of.nm=(r++(l.take k).map Of.nm)++ [l[k].nm]:=by rw[List.take_succ_eq_append_getElem hk,List.map_append,List.append_assoc];rfl
  by_cases hs:l[k].nm∈r++(l.take k).map Of.nm
  ·simp only[qB,seval,gd,ui,H,h3,I,D,N,J,X,Y,BT,xL,Z,hs]
   clear H V F
   grind
  ·simp only[qB,seval,gd,ui,H,h3,I,D,N,J,X,Y,hw,BT,xL,Z,hs,fun lh kk=>F lh kk hs,V,HZ,fO]
   clear H V F
   grind
 ·rintro f K _ H ⟨N,J,rfl,hr⟩
  simp only[qB,seval,gd,ui,H,D,N,Int.lt_irrefl,hr,List.drop_length,SS]
structure oP (c:Ct) (a7 a8 a9 a10 aw av:T):Prop where
 h7: ∃cc,IsSl a7 c.cs.length cc∧dx c.cs cc
 h8: ∃cc,IsSl a8 c.ru.length cc∧aA Ri c.ru cc
 h9: ∃cc,IsSl a9 c.co.length cc∧aA XZ c.co cc
 h10: ∃cc,IsSl a10 c.cr.length cc∧cG c.cr cc
 h11: ∃cc,IsSl aw c.li.length cc∧aA LiR c.li cc
 h12: ∃cc,IsSl av c.fs.length cc∧aA OfR c.fs cc
structure vn (c:Ct):Prop where
 s7:smC c.cs∧c.cs.length≤kP
 s8:(∀u∈c.ru,X4 u.x)∧c.ru.length≤kP
 s9:(∀u∈c.co,X4 u.x)∧c.co.length≤kP
 s10:(∀x∈c.cr,X4 x)∧c.cr.length≤kP
 s11:c.li.length≤kP
 s12:c.fs.length≤kP
 b7: ∃j,j≤2∧c.cs=sg j
 b8: ∀u∈c.ru,(u.sc,u.x)∈Ea
 b9: ∀u∈c.co,(u.sc,u.x)∈Ea
 b10: ∀x∈c.cr,((1:Int),x)∈Ea
section
variable(c:Ct)(a7 a8 a9 a10 aw av:T)(hT:oP c a7 a8 a9 a10 aw av)(hS:vn c)
def aR:List T:= [.i .i64 c.rp,.i .i64 c.rl,.i .i64 c.cn,.i .i64 c.st,.i .i64 c.ly,.i .i64 c.nf,.i .i64 c.nt,a7,a8,a9,a10,aw,av,.i .i64 c.gu]
include hT hS
theorem amv:ae pE 142 [.agg (aR c a7 a8 a9 a10 aw av)] []=some (.i .i64 (X2 c),[]):=by
 obtain⟨tX,r,H⟩:=hT.h11
 obtain⟨xJ,D,I⟩:=hT.h12
 rw[an aha (by simp[TG])]
 have F:=fun fr lh sh x1 x2 x3 x4 x5 x6=>lpO (aE6 c.li aw tX r H hS.s11 1 ⟨1,.cells (aR c a7 a8 a9 a10 aw av) 0 true⟩ fr lh sh x1 x2 x3 x4 x5 x6) (by simp[qb])
 have J:=aE8 c.fs (c.li.map Li.nm) av xJ D I hS.s12 1
 unfold aR at F ⊢
 unfold X2
 have K:qb 1 []=⟨1,.map [] [] false⟩:=rfl
 simp(maxDischargeDepth:=6) only[qB,seval,TG,Rk,r.lenI,D.lenI,K,F,J]
 grind
end
theorem aE9(l:List Co)(a:T)(V:List T)(W:IsSl a l.length V)(hc:aA XZ l V)(hlen:l.length≤kP)(tZ: ∀u∈l,X4 u.x)(I:ah)(fr:Fr)(lh:aB ah)(sh:List ah)
  (J:aa fr 84=a) (r:aa fr 85= .i .i64 (l.length:Int)) (K:aa fr 86= .i .i64 0) (D:ab lh 1=I):
  py pE 116 Ff fr lh sh 1 2 (Jc l) (fun F N=>ab F 1=I∧N=sh):=by
 refine cm X7 (fun k f F N=>aa f 86= .i .i64 (k:Int)∧ab F 1=I∧N=sh∧Jc l=Jc (l.drop k)) l.length ⟨K,D,rfl,rfl⟩ ?_ ?_
 ·rintro k f F _ hk H ⟨O,D,rfl,hr⟩
  rw[List.drop_eq_getElem_cons hk,Jc]at hr
  have X:(k:Int)<l.length:=zO
  have Y:=bj (k:=k) zO
  obtain⟨b,cb,rr,Z,fD,hb⟩:=BR W hc k hk
  obtain⟨qU,U⟩:=tZ l[k] (List.getElem_mem hk)
  have fK:=cO (Eb l[k].sc)
  have L4:=fun z fr lh sh=>om (z:=z) (fr:=fr) (lh:=lh) (sh:=sh) l[k].x _ hb qU U
  simp only[qB,seval,gd,Ff,H,J,r,O,D,X,Z,Y,fK,UP,L4]
  clear H
  grind
 ·rintro f F _ H ⟨O,D,rfl,hr⟩
  simp only[qB,seval,gd,Ff,H,r,O,D,Int.lt_irrefl,hr,List.drop_length,Jc]
theorem aFa(l:List Ex)(a:T)(V:List T)(W:IsSl a l.length V)(hc:cG l V)(hlen:l.length≤kP)(tZ: ∀x∈l,X4 x)(I:ah)(fr:Fr)(lh:aB ah)(sh:List ah)
  (J:aa fr 102=a) (r:aa fr 103= .i .i64 (l.length:Int)) (K:aa fr 104= .i .i64 0) (D:ab lh 1=I):
  py pE 116 Fe fr lh sh 3 2 (Jd l) (fun F N=>ab F 1=I∧N=sh):=by
 refine cm X8 (fun k f F N=>aa f 104= .i .i64 (k:Int)∧ab F 1=I∧N=sh∧Jd l=Jd (l.drop k)) l.length ⟨K,D,rfl,rfl⟩ ?_ ?_
 ·rintro k f F _ hk H ⟨O,D,rfl,hr⟩
  rw[List.drop_eq_getElem_cons hk,Jd]at hr
  have X:(k:Int)<l.length:=zO
  have Y:=bj (k:=k) zO
  obtain⟨b,cb,rr,Z,fD,nN,hb⟩:=ma W hc k hk
  obtain⟨qU,U⟩:=tZ l[k] (List.getElem_mem hk)
  have L4:=fun z fr lh sh=>om (z:=z) (fr:=fr) (lh:=lh) (sh:=sh) l[k] _ hb qU U
  simp only[qB,seval,gd,Fe,H,J,r,O,D,X,Z,Y,L4]
  clear H
  grind
 ·rintro f F _ H ⟨O,D,rfl,hr⟩
  simp only[qB,seval,gd,Fe,H,r,O,D,Int.lt_irrefl,hr,List.drop_length,Jd]
section
variable(c:Ct)(a7 a8 a9 a10 aw av:T)(hT:oP c a7 a8 a9 a10 aw av)(hS:vn c)
include hT hS
theorem X9:ae pE 88 [.agg (aR c a7 a8 a9 a10 aw av)] []=some (.i .i64 (fR c),[]):=by
 have J:=amv c a7 a8 a9 a10 aw av hT hS
 obtain⟨⟨c7,H,W⟩,⟨c8,I,X⟩,⟨Y,K,Z⟩,⟨ta,r,ua⟩,⟨tX,D,yn⟩,⟨xJ,F,zN⟩⟩:=hT
 have U:=ams c.cs a7 c7 H W hS.s7.2 hS.s7.1
 have V:=amt c.ru a8 c8 I X hS.s8.2 hS.s8.1
 have N:=aE9 c.co a9 Y K Z hS.s9.2 hS.s9.1 ⟨1,.cells (aR c a7 a8 a9 a10 aw av) 0 true⟩
 have O:=aFa c.cr a10 ta r ua hS.s10.2 hS.s10.1 ⟨1,.cells (aR c a7 a8 a9 a10 aw av) 0 true⟩
 have w:=fun n lo hi=>cO (vi n lo hi)
 unfold aR at N O J ⊢
 rw[an akz (by simp[c88])]
 unfold fR jD jM
 simp(maxDischargeDepth:=6) only[qB,seval,c88,X8,X7,H.froz,I.froz,H.lenI,I.lenI,K.lenI,r.lenI,D.lenI,F.lenI,H.froz1,I.froz1,K.froz1,r.froz1,D.froz1,F.froz1,w,HZ,U,V,avk,avl,N,O,J,avo]
 clear U V N O J w hS
 grind (splits:=40)
end
theorem nw(n lo hi:Int):ae pE 129 [.i .i64 n,.i .i64 lo,.i .i64 hi] []=some (.b (mJ n lo hi),[]):=by
 rw[an agZ (by simp[Tx])]
 unfold mJ
 by_cases h:lo≤n <;> simp only[qA,seval,Tx,h]
theorem aFd(l:List Li)(a:T)(J:List T)(K:IsSl a l.length J)(hc:aA LiR l J)(hlen:l.length≤kP)(n:Nat)(hn:n≤l.length)(s:List Nat)(c:Ct)(a7 a8 a9 a10 av:T)(N:List T)(G4:Nat)(fr:Fr)(lh:aB ah)(sh:List ah)(O:aa fr 1= .ptr .L 1 1 0)(g3:aa fr 3= .i .i64 (n:Int))(U:aa fr 4= .ptr .L 4 G4 0)(V:aa fr 5= .i .i64 0)(W:ab lh 1=⟨1,.cells (aR c a7 a8 a9 a10 a av) 0 true⟩)(X:ab lh 4=⟨G4,.cells (.s s::N) 0 true⟩):
  py pE 112 ze fr lh sh 2 2 (if s∈(l.map Li.nm).take n then 7 else 0) (fun D F=>D=lh∧F=sh):=by
 refine cm Rm (fun j f D F=>aa f 5= .i .i64 (j:Int)∧D=lh∧F=sh∧s∉(l.map Li.nm).take j) n ⟨V,rfl,rfl,by simp⟩ ?_ ?_
 ·rintro j f _ _ hj r ⟨H,rfl,rfl,hr⟩
  obtain⟨rr,Y⟩:=Ol K hc j zO
  have Z:=bj (k:=j) zO
  have I:(j:Int)<n:=zO
  simp only[qB,seval,gd,ze,r,O,g3,U,H,I,Y,Z,W,X,aR]
  clear r
  grind [List.mem_take_iff_getElem]
 ·rintro f _ _ r ⟨H,rfl,rfl,hr⟩
  simp only[qB,seval,gd,ze,r,g3,H,Int.lt_irrefl,hr]
theorem aFe(l:List Li)(a:T)(K:List T)(D:IsSl a l.length K)(hc:aA LiR l K)(hlen:l.length≤kP)(s:List Nat)(c:Ct)(a7 a8 a9 a10 av:T)(U:List T)(G7:Nat)(fr:Fr)(lh:aB ah)(sh:List ah)(N:aa fr 1= .ptr .L 1 1 0)(V:aa fr 7= .ptr .L 7 G7 0)(W:aa fr 8= .i .i64 0)(O:ab lh 1=⟨1,.cells (aR c a7 a8 a9 a10 a av) 0 true⟩)(X:ab lh 7=⟨G7,.cells (.s s::U) 0 true⟩):
  py pE 112 yZ fr lh sh 6 2 (if s∈l.map Li.nm then 7 else 0) (fun F H=>F=lh∧H=sh):=by
 refine cm Rn (fun j f F H=>aa f 8= .i .i64 (j:Int)∧F=lh∧H=sh∧s∉(l.map Li.nm).take j) l.length ⟨W,rfl,rfl,by simp⟩ ?_ ?_
 ·rintro j f _ _ Y r ⟨I,rfl,rfl,hr⟩
  obtain⟨rr,Z⟩:=Ol D hc j Y
  have hw:=bj (k:=j) zO
  have J:(j:Int)<l.length:=zO
  simp only[qB,seval,gd,yZ,r,N,V,I,D.lenI,J,Z,hw,O,X,aR]
  clear r
  grind [List.mem_take_iff_getElem]
 ·rintro f _ _ r ⟨I,rfl,rfl,hr⟩
  rw[List.take_of_length_le xv]at hr
  simp only[qB,seval,gd,yZ,r,N,I,D.lenI,O,aR,Int.lt_irrefl,hr]
theorem aFf(l:List Of)(a:T)(J:List T)(N:IsSl a l.length J)(hc:aA OfR l J)(hlen:l.length≤kP)(n:Nat)(hn:n≤l.length)(s:List Nat)(c:Ct)(a7 a8 a9 a10 aw:T)(O:List T)(G7:Nat)(fr:Fr)(lh:aB ah)(sh:List ah)(U:aa fr 1= .ptr .L 1 1 0)(K:aa fr 6= .i .i64 (n:Int))(V:aa fr 7= .ptr .L 7 G7 0)(W:aa fr 9= .i .i64 0)(X:ab lh 1=⟨1,.cells (aR c a7 a8 a9 a10 aw a) 0 true⟩)(Y:ab lh 7=⟨G7,.cells (.s s::O) 0 true⟩):
  py pE 112 yY fr lh sh 8 2 (if s∈(l.map Of.nm).take n then 7 else 0) (fun D F=>D=lh∧F=sh):=by
 refine cm Ro (fun j f D F=>aa f 9= .i .i64 (j:Int)∧D=lh∧F=sh∧s∉(l.map Of.nm).take j) n ⟨W,rfl,rfl,by simp⟩ ?_ ?_
 ·rintro j f _ _ hj r ⟨H,rfl,rfl,hr⟩
  obtain⟨rr,Z⟩:=X0 N hc j zO
  have hw:=bj (k:=j) zO
  have I:(j:Int)<n:=zO
  simp only[qB,seval,gd,yY,r,U,K,V,H,I,Z,hw,X,Y,aR]
  clear r
  grind [List.mem_take_iff_getElem]
 ·rintro f _ _ r ⟨H,rfl,rfl,hr⟩
  simp only[qB,seval,gd,yY,r,K,H,Int.lt_irrefl,hr]
section
variable(c:Ct)(a7 a8 a9 a10 aw av:T)(hT:oP c a7 a8 a9 a10 aw av)(hS:vn c)
include hT hS
theorem aFg(fr:Fr)(lh:aB ah)(sh:List ah)(h1:aa fr 1= .ptr .L 1 1 0)(h3:aa fr 3= .i .i64 0)(D:ab lh 1=⟨1,.cells (aR c a7 a8 a9 a10 aw av) 0 true⟩):
  py pE 112 zg fr lh sh 0 2 (Om [] c.li) (fun F I=>ab F 1=⟨1,.cells (aR c a7 a8 a9 a10 aw av) 0 true⟩∧I=sh):=by
 obtain⟨tX,r,O⟩:=hT.h11
 have hlen:=hS.s11
 refine cm Rp (fun k f F I=>aa f 3= .i .i64 (k:Int)∧ab F 1=⟨1,.cells (aR c a7 a8 a9 a10 aw av) 0 true⟩∧I=sh∧Om [] c.li=Om ((c.li.map Li.nm).take k) (c.li.drop k)) c.li.length ⟨h3,D,rfl,rfl⟩ ?_ ?_
 ·rintro k f F _ hk H ⟨J,D,rfl,hr⟩
  rw[List.drop_eq_getElem_cons hk,Om]at hr
  obtain⟨rr,U⟩:=Ol r O k hk
  have BT:=cO (oh c.li[k].nm)
  obtain⟨me,V,K⟩:=X6 c.li[k].me
  have W:=cO (nw c.li[k].mo 0 599999)
  have X:=cO (nw c.li[k].da 1 31)
  obtain⟨G,Y⟩: ∃G,(ab F 4).g+1=G:=⟨_,rfl⟩
  have N:=aFd c.li aw tX r O hlen k zO c.li[k].nm c a7 a8 a9 a10 av [.s c.li[k].me,.i .i64 c.li[k].mo,.i .i64 c.li[k].da] G
  have Z:=bj (k:=k) zO
  have aN:(k:Int)<c.li.length:=zO
  have fO:(c.li.map Li.nm).take (k+1)=(c.li.map Li.nm).take k++ [c.li[k].nm]:=by simp[List.take_succ_eq_append_getElem,hk]
  unfold aR at D N ⊢
  simp only[qB,seval,gd,zg,Rm,H,h1,J,D,r.lenI,aN,U,Y,BT,HY,N,K,avg,W,X,DG,Z]
  clear H N
  grind
 ·rintro f F _ H ⟨J,D,rfl,hr⟩
  unfold aR at D ⊢
  simp only[qB,seval,gd,zg,H,h1,J,D,r.lenI,Int.lt_irrefl,hr,List.drop_length,Om]
theorem aFh(fr:Fr)(lh:aB ah)(sh:List ah)(h1:aa fr 1= .ptr .L 1 1 0)(h6:aa fr 6= .i .i64 0)(D:ab lh 1=⟨1,.cells (aR c a7 a8 a9 a10 aw av) 0 true⟩):
  py pE 112 zd fr lh sh 4 2 (SS (c.li.map Li.nm) c.fs) (fun F I=>I=sh):=by
 obtain⟨tX,J,W⟩:=hT.h11
 obtain⟨xJ,r,V⟩:=hT.h12
 have K:=hS.s11
 have hlen:=hS.s12
 refine cm aph (fun k f F I=>aa f 6= .i .i64 (k:Int)∧ab F 1=⟨1,.cells (aR c a7 a8 a9 a10 aw av) 0 true⟩∧I=sh∧SS (c.li.map Li.nm) c.fs=SS (c.li.map Li.nm++(c.fs.map Of.nm).take k) (c.fs.drop k)) c.fs.length ⟨h6,D,rfl,by simp⟩ ?_ ?_
 ·rintro k f F _ hk H ⟨N,D,rfl,hr⟩
  rw[List.drop_eq_getElem_cons hk,SS]at hr
  obtain⟨rr,X⟩:=X0 r V k hk
  have BT:=cO (oh c.fs[k].nm)
  have Y:=cO (nw c.fs[k].da 1 31)
  have Z:=cO (nw c.fs[k].ct 1 c.fs[k].da)
  obtain⟨G,hG⟩: ∃G,(ab F 7).g+1=G:=⟨_,rfl⟩
  have O:=aFe c.li aw tX J W K c.fs[k].nm c a7 a8 a9 a10 av [.i .i64 c.fs[k].ct,.i .i64 c.fs[k].da] G
  have U:=aFf c.fs av xJ r V hlen k zO c.fs[k].nm c a7 a8 a9 a10 aw [.i .i64 c.fs[k].ct,.i .i64 c.fs[k].da] G
  have hw:=bj (k:=k) zO
  have aN:(k:Int)<c.fs.length:=zO
  have fO:(c.fs.map Of.nm).take (k+1)=(c.fs.map Of.nm).take k++ [c.fs[k].nm]:=by simp[List.take_succ_eq_append_getElem,hk]
  unfold aR at D O U ⊢
  simp only[qB,seval,gd,zd,Rn,Ro,H,h1,N,D,r.lenI,aN,X,hG,BT,HY,O,U,Y,Z,DG,hw]
  clear H O U
  grind
 ·rintro f F _ H ⟨N,D,rfl,hr⟩
  unfold aR at D
  simp only[qB,seval,gd,zd,H,h1,N,D,r.lenI,Int.lt_irrefl,hr,List.drop_length,SS]
theorem ae6:ae pE 132 [.agg (aR c a7 a8 a9 a10 aw av)] []=some (.i .i64 (X2 c),[]):=by
 have r:=aFg c a7 a8 a9 a10 aw av hT hS
 have D:=aFh c a7 a8 a9 a10 aw av hT hS
 rw[an ag1 (by simp[Tz])]
 unfold X2
 unfold aR at r D ⊢
 simp(maxDischargeDepth:=6) only[qB,seval,Tz,Rp,r,D]
 grind
end
theorem aFj(l:Cs)(a:T)(J:List T)(K:IsSl a l.length J)(hc:dx l J)(hlen:l.length≤kP)(n:Nat)(O:n<l.length)(c:Ct)(a8 a9 a10 aw av:T)(fr:Fr)(lh:aB ah)(sh:List ah)
  (U:aa fr 1= .ptr .L 1 1 0) (g3:aa fr 3= .i .i64 (n:Int)) (V:aa fr 4= .i .i64 0) (N:ab lh 1=⟨1,.cells (aR c a a8 a9 a10 aw av) 0 true⟩):
  py pE 235 E9 fr lh sh 2 2 (if l[n].1∈(l.map Prod.fst).take n then 7 else 0) (fun D F=>D=lh∧F=sh):=by
 refine cm Ya (fun j f D F=>aa f 4= .i .i64 (j:Int)∧D=lh∧F=sh∧l[n].1∉(l.map Prod.fst).take j) n ⟨V,rfl,rfl,by simp⟩ ?_ ?_
 ·rintro j f _ _ hj r ⟨H,rfl,rfl,hr⟩
  obtain⟨b,cb,rr,W,fD,nN,hb⟩:=ga K hc j zO
  obtain⟨b',X,Y,Z,_⟩:=ga K hc n O
  have hw:=bj (k:=j) zO
  have I:(j:Int)<n:=zO
  unfold aR at N
  simp only[qB,seval,gd,E9,r,U,g3,H,I,W,Z,hw,N]
  clear r
  grind [List.mem_take_iff_getElem]
 ·rintro f _ _ r ⟨H,rfl,rfl,hr⟩
  simp only[qB,seval,gd,E9,r,g3,H,Int.lt_irrefl,hr]
theorem aFk(l:List Ru)(a:T)(J:List T)(O:IsSl a l.length J)(hc:aA Ri l J)(hlen:l.length≤kP)(n:Nat)(hn:n<l.length)(c:Ct)(a7 a9 a10 aw av:T)(U:List T)(G7:Nat)(fr:Fr)(lh:aB ah)(sh:List ah)(V:aa fr 1= .ptr .L 1 1 0)(K:aa fr 6= .i .i64 (n:Int))(W:aa fr 7= .ptr .L 7 G7 0)(X:aa fr 8= .i .i64 0)(N:ab lh 1=⟨1,.cells (aR c a7 a a9 a10 aw av) 0 true⟩)(Y:ab lh 7=⟨G7,.cells (.i .i64 l[n].sc:: .s l[n].nm::U) 0 true⟩):
  py pE 235 E7 fr lh sh 6 2 (if HA l[n]∈(l.map HA).take n then 7 else 0) (fun D F=>D=lh∧F=sh):=by
 refine cm Yb (fun j f D F=>aa f 8= .i .i64 (j:Int)∧D=lh∧F=sh∧HA l[n]∉(l.map HA).take j) n ⟨X,rfl,rfl,by simp⟩ ?_ ?_
 ·rintro j f _ _ hj r ⟨H,rfl,rfl,hr⟩
  obtain⟨b,cb,rr,Z,fD,hb⟩:=ym O hc j zO
  have hw:=bj (k:=j) zO
  have I:(j:Int)<n:=zO
  unfold aR at N
  simp only[qB,seval,gd,E7,r,V,K,W,H,I,Z,hw,N,Y]
  clear r
  grind [List.mem_take_iff_getElem,HA]
 ·rintro f _ _ r ⟨H,rfl,rfl,hr⟩
  simp only[qB,seval,gd,E7,r,K,H,Int.lt_irrefl,hr]
section
variable(c:Ct)(a7 a8 a9 a10 aw av:T)(hT:oP c a7 a8 a9 a10 aw av)(hS:vn c)
include hT hS
theorem aFl(fr:Fr)(lh:aB ah)(sh:List ah)(h1:aa fr 1= .ptr .L 1 1 0)(hi:aa fr 3= .i .i64 0)(r:ab lh 1=⟨1,.cells (aR c a7 a8 a9 a10 aw av) 0 true⟩):
  py pE 235 Fa fr lh sh 0 2 (KN [] c.cs) (fun D H=>ab D 1=⟨1,.cells (aR c a7 a8 a9 a10 aw av) 0 true⟩∧H=sh):=by
 obtain⟨c7,F,K⟩:=hT.h7
 have hlen:=hS.s7.2
 refine cm Yc (fun k f D H=>aa f 3= .i .i64 (k:Int)∧ab D 1=⟨1,.cells (aR c a7 a8 a9 a10 aw av) 0 true⟩∧H=sh∧KN [] c.cs=KN ((c.cs.map Prod.fst).take k) (c.cs.drop k)) c.cs.length ⟨hi,r,rfl,rfl⟩ ?_ ?_
 ·rintro k f D _ hk I ⟨J,r,rfl,hr⟩
  rw[List.drop_eq_getElem_cons hk,KN]at hr
  obtain⟨b,Y,Z,O,U,nN,V⟩:=ga F K k hk
  have BT:=cO (oh c.cs[k].1)
  have L4:=si c.cs[k].2 _ V (hS.s7.1 c.cs[k] (List.getElem_mem hk)).2
  have N:=aFj c.cs a7 c7 F K hlen k hk c a8 a9 a10 aw av
  have W:=bj (k:=k) zO
  have X:(k:Int)<c.cs.length:=zO
  have fO:(c.cs.map Prod.fst).take (k+1)=(c.cs.map Prod.fst).take k++ [c.cs[k].1]:=by simp[List.take_succ_eq_append_getElem,hk]
  unfold aR at r N ⊢
  simp only[qB,seval,gd,Fa,Ya,I,h1,J,r,F.lenI,X,O,BT,HY,N,U.froz1,L4,Nd,W]
  grind
 ·rintro f D _ I ⟨J,r,rfl,hr⟩
  unfold aR at r ⊢
  simp only[qB,seval,gd,Fa,I,h1,J,r,F.lenI,Int.lt_irrefl,hr,List.drop_length,KN]
theorem aFm(fr:Fr)(lh:aB ah)(sh:List ah)(h1:aa fr 1= .ptr .L 1 1 0)(hi:aa fr 6= .i .i64 0)(r:ab lh 1=⟨1,.cells (aR c a7 a8 a9 a10 aw av) 0 true⟩):
  py pE 235 E8 fr lh sh 4 2 (Hz [] c.ru) (fun D H=>ab D 1=⟨1,.cells (aR c a7 a8 a9 a10 aw av) 0 true⟩∧H=sh):=by
 obtain⟨c8,F,K⟩:=hT.h8
 have hlen:=hS.s8.2
 refine cm Yd (fun k f D H=>aa f 6= .i .i64 (k:Int)∧ab D 1=⟨1,.cells (aR c a7 a8 a9 a10 aw av) 0 true⟩∧H=sh∧Hz [] c.ru=Hz ((c.ru.map HA).take k) (c.ru.drop k)) c.ru.length ⟨hi,r,rfl,rfl⟩ ?_ ?_
 ·rintro k f D _ hk I ⟨J,r,rfl,hr⟩
  rw[List.drop_eq_getElem_cons hk,Hz]at hr
  obtain⟨b,cb,rr,O,U,V⟩:=ym F K k hk
  have BT:=cO (oh c.ru[k].nm)
  have W:=cO (nw c.ru[k].sc 1 3)
  have L4:=si c.ru[k].x _ V (hS.s8.1 c.ru[k] (List.getElem_mem hk)).2
  obtain⟨G,X⟩: ∃G,(ab D 7).g+1=G:=⟨_,rfl⟩
  have N:=aFk c.ru a8 c8 F K hlen k hk c a7 a9 a10 aw av [.i .i64 c.ru[k].x.op,.i .i64 c.ru[k].x.num,.s c.ru[k].x.name,b] G
  have Y:=bj (k:=k) zO
  have Z:(k:Int)<c.ru.length:=zO
  have fO:(c.ru.map HA).take (k+1)=(c.ru.map HA).take k++ [(c.ru[k].sc,c.ru[k].nm)]:=by simp[List.take_succ_eq_append_getElem,hk,HA]
  unfold aR at r N ⊢
  simp only[qB,seval,gd,E8,Yb,I,h1,J,r,F.lenI,Z,O,X,BT,HY,W,DG,N,U.froz1,L4,Nd,Y]
  grind [HA]
 ·rintro f D _ I ⟨J,r,rfl,hr⟩
  unfold aR at r ⊢
  simp only[qB,seval,gd,E8,I,h1,J,r,F.lenI,Int.lt_irrefl,hr,List.drop_length,Hz]
theorem aFn(fr:Fr)(lh:aB ah)(sh:List ah)(h1:aa fr 1= .ptr .L 1 1 0)(hi:aa fr 10= .i .i64 0)(r:ab lh 1=⟨1,.cells (aR c a7 a8 a9 a10 aw av) 0 true⟩):
  py pE 235 E6 fr lh sh 8 2 (Jc c.co) (fun D H=>ab D 1=⟨1,.cells (aR c a7 a8 a9 a10 aw av) 0 true⟩∧H=sh):=by
 obtain⟨Y,I,K⟩:=hT.h9
 have hlen:=hS.s9.2
 refine cm Ye (fun k f D H=>aa f 10= .i .i64 (k:Int)∧ab D 1=⟨1,.cells (aR c a7 a8 a9 a10 aw av) 0 true⟩∧H=sh∧Jc c.co=Jc (c.co.drop k)) c.co.length ⟨hi,r,rfl,rfl⟩ ?_ ?_
 ·rintro k f D _ hk F ⟨J,r,rfl,hr⟩
  rw[List.drop_eq_getElem_cons hk,Jc]at hr
  obtain⟨b,Z,rr,N,O,U⟩:=BR I K k hk
  have V:=cO (nw c.co[k].sc 1 3)
  have L4:=si c.co[k].x _ U (hS.s9.1 c.co[k] (List.getElem_mem hk)).2
  have W:=bj (k:=k) zO
  have X:(k:Int)<c.co.length:=zO
  unfold aR at r ⊢
  simp only[qB,seval,gd,E6,F,h1,J,r,I.lenI,X,N,V,DG,O.froz1,L4,Nd,W]
  clear F
  grind
 ·rintro f D _ F ⟨J,r,rfl,hr⟩
  unfold aR at r ⊢
  simp only[qB,seval,gd,E6,F,h1,J,r,I.lenI,Int.lt_irrefl,hr,List.drop_length,Jc]
theorem aFo(fr:Fr)(lh:aB ah)(sh:List ah)(h1:aa fr 1= .ptr .L 1 1 0)(hi:aa fr 12= .i .i64 0)(r:ab lh 1=⟨1,.cells (aR c a7 a8 a9 a10 aw av) 0 true⟩):
  py pE 235 E5 fr lh sh 10 2 (Jd c.cr) (fun F I=>ab F 1=⟨1,.cells (aR c a7 a8 a9 a10 aw av) 0 true⟩∧I=sh):=by
 obtain⟨ta,D,K⟩:=hT.h10
 have hlen:=hS.s10.2
 refine cm Yf (fun k f F I=>aa f 12= .i .i64 (k:Int)∧ab F 1=⟨1,.cells (aR c a7 a8 a9 a10 aw av) 0 true⟩∧I=sh∧Jd c.cr=Jd (c.cr.drop k)) c.cr.length ⟨hi,r,rfl,rfl⟩ ?_ ?_
 ·rintro k f F _ hk H ⟨J,r,rfl,hr⟩
  rw[List.drop_eq_getElem_cons hk,Jd]at hr
  obtain⟨b,X,Y,N,O,Z,U⟩:=ma D K k hk
  have L4:=si c.cr[k] _ U (hS.s10.1 c.cr[k] (List.getElem_mem hk)).2
  have V:=bj (k:=k) zO
  have W:(k:Int)<c.cr.length:=zO
  unfold aR at r ⊢
  simp only[qB,seval,gd,E5,H,h1,J,r,D.lenI,W,N,O.froz1,L4,Nd,V]
  clear H
  grind
 ·rintro f F _ H ⟨J,r,rfl,hr⟩
  unfold aR at r ⊢
  simp only[qB,seval,gd,E5,H,h1,J,r,D.lenI,Int.lt_irrefl,hr,List.drop_length,Jd]
end
section
variable(c:Ct)(a7 a8 a9 a10 aw av:T)(hT:oP c a7 a8 a9 a10 aw av)(hS:vn c)
include hT hS
theorem Jg:ae pE 80 [.agg (aR c a7 a8 a9 a10 aw av)] []=some (.i .i64 (fR c),[]):=by
 have H:=ae6 c a7 a8 a9 a10 aw av hT hS
 have I:=aFl c a7 a8 a9 a10 aw av hT hS
 have J:=aFm c a7 a8 a9 a10 aw av hT hS
 have K:=aFn c a7 a8 a9 a10 aw av hT hS
 have N:=aFo c a7 a8 a9 a10 aw av hT hS
 obtain⟨⟨c7,O,W⟩,⟨c8,U,X⟩,⟨Y,V,Z⟩,⟨ta,r,ua⟩,⟨tX,D,yn⟩,⟨xJ,F,zN⟩⟩:=hT
 have w:=fun n lo hi=>cO (nw n lo hi)
 unfold aR at I J K N H ⊢
 rw[an acp (by simp[c80])]
 unfold fR jD jM
 simp(maxDischargeDepth:=6) only[qB,seval,c80,Yf,Ye,Yd,Yc,O.lenI,U.lenI,V.lenI,r.lenI,D.lenI,F.lenI,O.froz1,U.froz1,V.froz1,r.froz1,D.froz1,F.froz1,w,DG,I,J,K,N,H,avi]
 clear I J K N H w hS
 grind (splits:=40)
end
def SU(s:List Nat):Prop:=dZ 1 s≠0∨dZ 2 s≠0∨dZ 3 s≠0
instance (s:List Nat):Decidable (SU s):=by unfold SU;infer_instance
def L5(l:Cs):Nat→Cs→Int
 |_,[]=>0
 |k,c::r=>if SU c.1 then 7 else if(sE l k).2≠0 then(sE l k).2 else L5 l (k+1) r
def HC(l:Cs)(scope:Int)(x:Ex)(r:Int):Int:=if(dc l scope x).2=0∧(dc l scope x).1≠r then 9 else(dc l scope x).2
def Jh(l:Cs):List Ru→Int
 | []=>0
 |u::r=>if HC l u.sc u.x 4≠0 then HC l u.sc u.x 4 else Jh l r
def Ji(l:Cs):List Co→Int
 | []=>0
 |u::r=>if HC l u.sc u.x 1≠0 then HC l u.sc u.x 1 else Ji l r
def KO(l:Cs):List Ex→Int
 | []=>0
 |x::r=>if HC l 1 x 2≠0 then HC l 1 x 2 else KO l r
def fI(c:Ct):Int:=if fR c≠0 then fR c else if L5 c.cs 0 c.cs≠0 then L5 c.cs 0 c.cs else if Jh c.cs c.ru≠0 then Jh c.cs c.ru else if Ji c.cs c.co≠0 then Ji c.cs c.co else KO c.cs c.cr
def qV(l:Cs)(lT:T)(sh:List ah):Prop:= ∃kn,sh=ub lT (bM l l.length) kn∧vq l kn
def ae7(s:List Nat)(j:Nat):Prop:= ∀i:Nat,i<j→dZ ((i:Int)+1) s=0
theorem aFp(s:List Nat)(K:List T)(G:Nat)(fr:Fr)(lh:aB ah)(sh:List ah)(N:aa fr 6= .ptr .L 6 G 0)(O:aa fr 7= .i .i64 1)(U:ab lh 6=⟨G,.cells (.s s::K) 0 true⟩):
  py pE 115 E0 fr lh sh 2 2 (if SU s then 7 else 0) (fun F H=>F=lh∧H=sh):=by
 refine cm Yg (fun j f F H=>aa f 7= .i .i64 ((j:Int)+1)∧F=lh∧H=sh∧ae7 s j) 3 ⟨O,rfl,rfl,fun i h=>by omega⟩ ?_ ?_
 ·rintro j f _ _ X r ⟨D,rfl,rfl,t⟩
  have I:=I9 ((j:Int)+1) s
  unfold qS at I
  have J:(j:Int)+1≤3:=zO
  have V:wr .i64 ((j:Int)+1+1)=((j+1:Nat):Int)+1:=bo zO
  have hc:j=0∨j=1∨j=2:=zO
  by_cases W:dZ ((j:Int)+1) s=0 <;> simp only[qB,seval,gd,E0,r,N,D,U,J,V,I,W,UC] <;> clear r I <;> grind [ae7,SU]
 ·rintro f _ _ r ⟨D,rfl,rfl,t⟩
  rw[show((3:Nat):Int)+1=4 from rfl]at D
  have a:=t 0 yv
  have b:=t 1 yv
  have c:=t 2 yv
  simp only[qB,seval,gd,E0,r,D]
  unfold SU
  grind
section
variable(l:Cs)(lT:T)(cl:List T)(hl:IsSl lT l.length cl)(ee:dx l cl)(hlen:l.length≤kP)(tZ:smC l)
include hl ee hlen tZ
theorem Gi(scope r:Int)(x:Ex)(cs:List T)(hx:jI x cs)(J:X4 x)(sh:List ah)(N:qV l lT sh): ∃K,ae pE 92 [.ptr .S 2 1 0,.i .i64 scope,.i .i64 (l.length:Int),.agg cs,.i .i64 r] sh=some (.i .i64 (HC l scope x r),K)∧qV l lT K:=by
 obtain⟨kn,rfl,O⟩:=N
 obtain⟨F,D,H,_⟩:=Yh l lT cl hl ee hlen l.length (Nat.le_refl _) (fun j U=>Yi l lT cl hl ee hlen tZ j U) scope x cs hx J.1 J.2 kn O
 have V:Rq l l.length scope x=dc l scope x:=by unfold Rq dc Gj;rw[List.take_length]
 rw[V]at D
 obtain⟨a,Y,rfl,I,On⟩:=hx.cells
 rw[an auV (by simp[c92])]
 unfold HC
 generalize dc l scope x=q at*
 obtain⟨W,X⟩:=q
 simp only at D ⊢
 by_cases h2:X=0
 ·subst h2
  by_cases h1:W=r
  ·subst h1
   simp only[qA,seval,dL,c92,D,H2,I.kept1]
   exact⟨_,rfl,F,rfl,H⟩
  ·simp only[qA,seval,dL,c92,D,H2,I.kept1,h1]
   exact⟨_,rfl,F,rfl,H⟩
 ·simp only[qA,seval,dL,c92,D,H2,I.kept1,h2]
  exact⟨_,rfl,F,rfl,H⟩
end
section
variable(c:Ct)(a7 a8 a9 a10 aw av:T)(hT:oP c a7 a8 a9 a10 aw av)(hS:vn c)
include hT hS
theorem aFq(I:ah)(fr:Fr)(lh:aB ah)(sh:List ah)(Z:qV c.cs a7 sh)
  (h4:aa fr 4= .ptr .S 2 1 0) (J:aa fr 31=a7) (N:aa fr 32= .i .i64 (c.cs.length:Int)) (BU:aa fr 33= .i .i64 0) (D:ab lh 1=I):
  py pE 115 E1 fr lh sh 0 2 (L5 c.cs 0 c.cs) (fun r F=>ab r 1=I∧qV c.cs a7 F):=by
 obtain⟨c7,O,U⟩:=hT.h7
 have hlen:=hS.s7.2
 refine cm Yj (fun k f r F=>aa f 33= .i .i64 (k:Int)∧ab r 1=I∧qV c.cs a7 F∧L5 c.cs 0 c.cs=L5 c.cs k (c.cs.drop k)) c.cs.length ⟨BU,D,Z,rfl⟩ ?_ ?_
 ·rintro k f r _ hk H ⟨K,D,⟨kn,rfl,V⟩,hr⟩
  have aN:(k:Int)<c.cs.length:=zO
  have hw:=bj (k:=k) zO
  rw[List.drop_eq_getElem_cons hk,L5]at hr
  obtain⟨b,cb,rr,aQ,fD,nN,hb⟩:=ga O U k hk
  obtain⟨W,X,jJ,_⟩:=Yi c.cs a7 c7 O U hlen hS.s7.1 k hk kn V
  obtain⟨G,hG⟩: ∃G,(ab r 6).g+1=G:=⟨_,rfl⟩
  have Y:=aFp c.cs[k].1 [.i .i64 c.cs[k].2.op,.i .i64 c.cs[k].2.num,.s c.cs[k].2.name,b] G
  have h1:qV c.cs a7 (ub a7 (bM c.cs c.cs.length) kn):=⟨kn,rfl,V⟩
  have h2:qV c.cs a7 (ub a7 (bM c.cs c.cs.length) W):=⟨W,rfl,jJ⟩
  simp only[qB,seval,gd,dL,E1,H,h4,J,N,K,D,aN,aQ,hw,hG,Y,Yg,X,auU,h1,h2]
  clear H Y X
  grind
 ·rintro f r F H ⟨K,D,h,hr⟩
  simp only[qB,seval,gd,E1,H,N,K,D,h,Int.lt_irrefl,hr,List.drop_length,L5]
end
end Go.Proofs.YtcpceiclnbmgiaaGreat
