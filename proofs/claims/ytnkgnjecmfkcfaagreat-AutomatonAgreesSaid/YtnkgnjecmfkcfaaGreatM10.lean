/- Walks of functions of the program and of the reference, and their plain laws, part 10. Conditions: the theorems' own. -/
import Derived.Test.YtnkgnjecmfkcfaaGreatGS
import Derived.Test.YtnkgnjecmfkcfaaGreatM1
import Derived.Test.YtnkgnjecmfkcfaaGreatM6
import Derived.Test.YtnkgnjecmfkcfaaGreatM7
import Derived.Test.YtnkgnjecmfkcfaaGreatM8
import Derived.Test.YtnkgnjecmfkcfaaGreatM9
import Derived.KernelRfl
set_option maxRecDepth 100000
set_option linter.unusedVariables false
set_option linter.unusedSimpArgs false
set_option maxHeartbeats 16000000
namespace Go.Proofs.YtnkgnjecmfkcfaaGreat
open Go Go.Ev
theorem j3{j:Nat}(h:j≤2):j∈ [0,1,2]:=by
 have:j=0∨j=1∨j=2:=yv
 simpa using this
theorem td4{α:Type}{P:α→Prop}{L:List α}(a: ∀x∈(L.drop 0).take 8,P x)(b: ∀x∈(L.drop 8).take 8,P x)(c: ∀x∈(L.drop 16).take 8,P x)(d: ∀x∈L.drop 24,P x): ∀x∈L,P x:=
 td 8 a (td 8 b (by rw[List.drop_drop];exact td 8 c (by rw[List.drop_drop];exact d)))
theorem aCj(e:Bool)(j:Nat)(r:j≤2): ∀p∈DX,ae pE 102 [vB e j,.i .i64 p.1,.agg (jJ p.2)] []=some (.tup [.i .i64 (cP (rO j) p.1 p.2).1,.i .i64 (cP (rO j) p.1 p.2).2],[]):=by
 have:j=0∨j=1∨j=2:=yv
 rcases this with rfl|rfl|rfl
 ·exact td4 (aCk e) (aCl e) (aCm e) (aCn e)
 ·exact td4 (aCo e) (aCp e) (aCq e) (aCr e)
 ·exact td4 (aCs e) (aCt e) (aCu e) (aCv e)
theorem Oe{l:Cs}{lT:T}{cl:List T}{j:Nat}(D:l=rO j)(hl:IsSl lT l.length cl)(hcl:dn l cl): ∃e,lT=vB e j∧cl= .s yC::jJ (pV j):=by
 subst D
 unfold rO at hl hcl
 rw[dn]at hcl
 obtain⟨ex,r,rfl,h1,h2⟩:=hcl
 rw[dn]at h2
 subst h2
 rw[show ex=jJ (pV j)from h1,List.append_nil]at hl ⊢
 rcases hl with⟨_,h,_⟩|⟨e,rfl⟩
 ·simp at h
 ·exact⟨e,rfl,rfl⟩
theorem Ro(l:Cs)(lT:T)(cl:List T)(hl:IsSl lT l.length cl)(hcl:dn l cl)(r: ∃j,j≤2∧l=rO j):ae pE 56 [lT] []=some (bA l.length (ints (sF l l.length)),[]):=by
 obtain⟨j,D,r⟩:=r
 obtain⟨e,rfl,_⟩:=Oe r hl hcl
 subst r
 exact tyv e j (j3 D)
def aB{α:Type}(R:α→List T→Prop):List α→List T→Prop
 | [],cs=>cs= []
 |x::xs,cs=> ∃c r,cs=c++r∧R x c∧aB R xs r
section
variable{α:Type}{R:α→List T→Prop}{k:Nat}
theorem aB.len(D: ∀x c,R x c→c.length=k): ∀{xs:List α} {cs:List T},aB R xs cs→cs.length=xs.length*k
 | [],cs,h=>by grind [aB]
 |x::xs,cs,h=>by
  rw[aB]at h
  obtain⟨c,r,rfl,h1,h2⟩:=h
  rw[List.length_append,D _ _ h1,aB.len D h2,List.length_cons,Nat.add_mul,Nat.one_mul,Nat.add_comm]
theorem aB.drop(D: ∀x c,R x c→c.length=k): ∀{xs:List α} {cs:List T} (i:Nat) (hi:i<xs.length),aB R xs cs→ ∃c r,cs.drop (i*k)=c++r∧R xs[i] c
 | [],cs,i,hi,h=>by simp at hi
 |x::xs,cs,0,hi,h=>by
  grind [aB]
 |x::xs,cs,i+1,hi,h=>by
  rw[aB]at h
  obtain⟨c,r,rfl,h1,h2⟩:=h
  obtain⟨F,H,e,h3⟩:=aB.drop D i (by simpa using hi) h2
  refine⟨F,H, ?_,h3⟩
  have:(i+1)*k=c.length+i*k:=by rw[D _ _ h1,Nat.add_mul,Nat.one_mul,Nat.add_comm]
  grind [List.drop_append,Nat.add_sub_cancel_left,List.drop_eq_nil_of_le]
theorem jK(D: ∀x c,R x c→c.length=k){xs:List α}{a:T}{F:List T}(h1:IsSl a xs.length F)(h2:aB R xs F)(i:Nat)(hi:i<xs.length): ∃c r,(∀kk,iaV a (.i kk (i:Int)) k=some (.vp (c++r)))∧R xs[i] c:=by
 obtain⟨c,r,e,h3⟩:=aB.drop D i hi h2
 exact⟨c,r,fun kk=>by rw[h1.ia (sz:=k) (aB.len D h2) hi,e],h3⟩
theorem aB.append: ∀{xs D:List α} {c r:List T},aB R xs c→aB R D r→aB R (xs++D) (c++r)
 | [],D,c,r,h1,h2=>by grind [aB]
 |x::xs,D,c,r,h1,h2=>by
  rw[aB]at h1
  obtain⟨F,H,rfl,h3,h4⟩:=h1
  rw[List.append_assoc]
  exact⟨F,H++r,rfl,h3,aB.append h4 h2⟩
theorem aB.one{x:α}{c:List T}(h:R x c):aB R [x] c:=⟨c,[],by simp,h,rfl⟩
end
structure Li where
 nm:List Nat
 me:List Nat
 mo:Int
 da:Int
structure Of where
 nm:List Nat
 ct:Int
 da:Int
def SG(u:Ru)(c:List T):Prop:= ∃a r,c= [.i .i64 u.sc,.s u.nm,.i .i64 u.x.op,.i .i64 u.x.num,.s u.x.name,a]∧IsSl a u.x.args.length r∧jA u.x [.i .i64 u.x.op,.i .i64 u.x.num,.s u.x.name,a]
def CoR(u:Co)(c:List T):Prop:= ∃a r,c= [.i .i64 u.sc,.i .i64 u.x.op,.i .i64 u.x.num,.s u.x.name,a]∧IsSl a u.x.args.length r∧jA u.x [.i .i64 u.x.op,.i .i64 u.x.num,.s u.x.name,a]
def LiR(u:Li)(c:List T):Prop:=c= [.s u.nm,.s u.me,.i .i64 u.mo,.i .i64 u.da]
def OfR(u:Of)(c:List T):Prop:=c= [.s u.nm,.i .i64 u.ct,.i .i64 u.da]
theorem SG.len(u:Ru)(c:List T)(h:SG u c):c.length=6:=by obtain⟨a,r,rfl,_⟩:=h;rfl
theorem CoR.len(u:Co)(c:List T)(h:CoR u c):c.length=5:=by obtain⟨a,r,rfl,_⟩:=h;rfl
theorem LiR.len(u:Li)(c:List T)(h:LiR u c):c.length=4:=by rw[h];rfl
theorem OfR.len(u:Of)(c:List T)(h:OfR u c):c.length=3:=by rw[h];rfl
theorem Bp{xs:List Ru}{a:T}{F:List T}(h1:IsSl a xs.length F)(h2:aB SG xs F)(i:Nat)(hi:i<xs.length):
  ∃b D r,(∀kk,iaV a (.i kk (i:Int)) 6=some (.vp (.i .i64 xs[i].sc:: .s xs[i].nm:: .i .i64 xs[i].x.op:: .i .i64 xs[i].x.num:: .s xs[i].x.name::b::r)))∧IsSl b xs[i].x.args.length D∧jA xs[i].x [.i .i64 xs[i].x.op,.i .i64 xs[i].x.num,.s xs[i].x.name,b]:=by
 obtain⟨c,r,h3,b,D,rfl,h4,h5⟩:=jK SG.len h1 h2 i hi
 exact⟨b,D,r,h3,h4,h5⟩
theorem DY{xs:List Co}{a:T}{F:List T}(h1:IsSl a xs.length F)(h2:aB CoR xs F)(i:Nat)(hi:i<xs.length):
  ∃b D r,(∀kk,iaV a (.i kk (i:Int)) 5=some (.vp (.i .i64 xs[i].sc:: .i .i64 xs[i].x.op:: .i .i64 xs[i].x.num:: .s xs[i].x.name::b::r)))∧IsSl b xs[i].x.args.length D∧jA xs[i].x [.i .i64 xs[i].x.op,.i .i64 xs[i].x.num,.s xs[i].x.name,b]:=by
 obtain⟨c,r,h3,b,D,rfl,h4,h5⟩:=jK CoR.len h1 h2 i hi
 exact⟨b,D,r,h3,h4,h5⟩
theorem Og{xs:List Li}{a:T}{D:List T}(h1:IsSl a xs.length D)(h2:aB LiR xs D)(i:Nat)(hi:i<xs.length):
  ∃r,∀kk,iaV a (.i kk (i:Int)) 4=some (.vp (.s xs[i].nm:: .s xs[i].me:: .i .i64 xs[i].mo:: .i .i64 xs[i].da::r)):=by
 obtain⟨c,r,h3,h4⟩:=jK LiR.len h1 h2 i hi
 rw[h4]at h3
 exact⟨r,h3⟩
theorem XT{xs:List Of}{a:T}{D:List T}(h1:IsSl a xs.length D)(h2:aB OfR xs D)(i:Nat)(hi:i<xs.length):
  ∃r,∀kk,iaV a (.i kk (i:Int)) 3=some (.vp (.s xs[i].nm:: .i .i64 xs[i].ct:: .i .i64 xs[i].da::r)):=by
 obtain⟨c,r,h3,h4⟩:=jK OfR.len h1 h2 i hi
 rw[h4]at h3
 exact⟨r,h3⟩
structure Ct where
 rp:Int
 rl:Int
 cn:Int
 st:Int
 ly:Int
 nf:Int
 nt:Int
 cs:Cs
 ru:List Ru
 co:List Co
 cr:List Ex
 li:List Li
 fs:List Of
 gu:Int
def ki(n lo hi:Int):Bool:=decide (lo≤n)&&decide (n≤hi)
def KG(seen:List (List Nat)):Cs→Int
 | []=>0
 |c::l=>if iW c.1=false then 1 else if c.1∈seen then 7 else if bL c.2≠0 then bL c.2 else KG (seen++ [c.1]) l
def G0(seen:List (Int×List Nat)):List Ru→Int
 | []=>0
 |u::l=>if ki u.sc 1 3=false∨iW u.nm=false then 1 else if(u.sc,u.nm)∈seen then 7 else if bL u.x≠0 then bL u.x else G0 (seen++ [(u.sc,u.nm)]) l
def I4:List Co→Int
 | []=>0
 |u::l=>if ki u.sc 1 3=false then 1 else if bL u.x≠0 then bL u.x else I4 l
def I5:List Ex→Int
 | []=>0
 |x::l=>if bL x≠0 then bL x else I5 l
def XU(s:List Nat):Int:=if s= [98,108,111,99,107]∨s= [115,112,97,110]∨s= [110,105,103,104,116]∨s= [99,114,101,100,105,116]then 3 else if s= [108,101,103,115]∨s= [104,101,97,100,115]∨s= [100,117,116,105,101,115]then 2 else 0
def Oh(seen:List (List Nat)):List Li→Int
 | []=>0
 |u::l=>if iW u.nm=false then 1 else if u.nm∈seen then 7 else if XU u.me=0 then 6 else if ki u.mo 0 599999=false∨ki u.da 1 31=false then 5 else Oh (seen++ [u.nm]) l
def SI(seen:List (List Nat)):List Of→Int
 | []=>0
 |u::l=>if iW u.nm=false then 1 else if u.nm∈seen then 7 else if ki u.da 1 31=false∨ki u.ct 1 u.da=false then 5 else SI (seen++ [u.nm]) l
def XV(c:Ct):Int:=if Oh [] c.li≠0 then Oh [] c.li else SI (c.li.map Li.nm) c.fs
def kz(c:Ct):Bool:=ki c.rp 0 1440&&(ki c.rl 0 1440&&(ki c.cn 0 1440&&(ki c.st c.cn 1440&&(ki c.ly 0 10080&&(ki c.nf 0 1439&&(ki c.nt 0 1439&&ki c.gu 0 599999))))))
def kM(c:Ct):Bool:=decide (c.cs.length≤32)&&(decide (c.ru.length≤40)&&(decide (c.co.length≤16)&&(decide (c.cr.length≤1)&&(decide (c.li.length≤16)&&decide (c.fs.length≤16)))))
def fY(c:Ct):Int:=if kz c=false then 5 else if kM c=false then 10 else if KG [] c.cs≠0 then KG [] c.cs else if G0 [] c.ru≠0 then G0 [] c.ru else if I4 c.co≠0 then I4 c.co else if I5 c.cr≠0 then I5 c.cr else XV c
theorem zh(n lo hi:Int):ae pE 211 [.i .i64 n,.i .i64 lo,.i .i64 hi] []=some (.b (ki n lo hi),[]):=by
 rw[au agW (by simp[T2])]
 unfold ki
 by_cases h:lo≤n <;> simp only[qA,seval,T2,h]
theorem DZ(n:Int):ae pE 214 [.i .i64 n] []=some (.b (ki n 1 3),[]):=by
 rw[au agZ (by simp[T5])]
 simp only[qA,seval,T5,zh,Ni]
theorem nN{α:Type}[DecidableEq α](s:α): ∀l:List α,aM (l.map fun x=>(x,true)) s=if s∈l then some true else none
 | []=>by simp[aM]
 |a::l=>by
  rw[List.map_cons,aM,nN s l]
  grind
theorem FI(seen:List (List Nat))(s:List Nat):iu (.one .str) ((seen.map fun x=>(x,true)).map fun p=>sK p.1) ((seen.map fun x=>(x,true)).map fun p=>T.b p.2) (.s s) (.b false) false=some (.b (decide (s∈seen))):=by
 have:=N9 (kT:=sK) (vT:=T.b) CS (fun _=>rfl) (seen.map fun x=>(x,true)) s (.b false)
 rw[show(T.s s)=sK s from rfl,this,nN]
 grind
theorem Bq(seen:List (List Nat))(s:List Nat)(h:s∉seen):lF (.one .str) (.s s) (.b true) ((seen.map fun x=>(x,true)).map fun p=>sK p.1) ((seen.map fun x=>(x,true)).map fun p=>T.b p.2)=some (((seen++ [s]).map fun x=>(x,true)).map (fun p=>sK p.1),((seen++ [s]).map fun x=>(x,true)).map (fun p=>T.b p.2)):=by
 have:=vd (kT:=sK) (vT:=T.b) CS (seen.map fun x=>(x,true)) s true (by rw[nN,if_neg h])
 rw[show(T.s s)=sK s from rfl,show T.b true=T.b (true)from rfl,this]
 grind
theorem aCw(l:Cs)(a:T)(V:List T)(Y:IsSl a l.length V)(hc:dn l V)(hlen:l.length≤jY)(tJ:smC l)(g:Nat)(fr:Fr)(lh:aD ah)(sh:List ah)
  (h3:aa fr 3= .mp .L 7 g) (W:aa fr 8=a) (K:aa fr 9= .i .i64 (l.length:Int)) (N:aa fr 10= .i .i64 0) (D:ab lh 7=⟨g,.map [] [] false⟩):
  pG pE 32 qZ fr lh sh 0 2 (KG [] l) (fun I O=>O=sh):=by
 refine bX P2 (fun k f I O=>aa f 10= .i .i64 (k:Int)∧ab I 7=⟨g,.map ((((l.take k).map Prod.fst).map fun x=>(x,true)).map fun p=>sK p.1) ((((l.take k).map Prod.fst).map fun x=>(x,true)).map fun p=>T.b p.2) false⟩∧O=sh∧KG [] l=KG ((l.take k).map Prod.fst) (l.drop k)) l.length ⟨N,D,rfl,rfl⟩ ?_ ?_
 ·rintro k f I _ hk r ⟨J,D,rfl,hr⟩
  rw[List.drop_eq_getElem_cons hk,KG]at hr
  have F:(k:Int)<l.length:=yv
  have Z:=be (k:=k) yv
  obtain⟨b,cb,rr,H,fL,rP,hb⟩:=fZ Y hc k hk
  obtain⟨yl,U⟩:=tJ l[k] (List.getElem_mem hk)
  have Br:=cG (rN l[k].1)
  have L0:=fun z fr lh sh=>nO (z:=z) (fr:=fr) (lh:=lh) (sh:=sh) l[k].2 _ hb yl U
  have X:=FI ((l.take k).map Prod.fst) l[k].1
  have iQ:=Bq ((l.take k).map Prod.fst) l[k].1
  have iw:(l.take (k+1)).map Prod.fst=(l.take k).map Prod.fst++ [l[k].1]:=by rw[List.take_succ_eq_append_getElem hk,List.map_append];rfl
  by_cases hs:l[k].1∈(l.take k).map Prod.fst
  ·simp only[qB,seval,gd,qZ,r,h3,W,K,J,D,F,H,Br,xL,bW,X,hs]
   clear r
   grind
  ·simp only[qB,seval,gd,qZ,r,h3,W,K,J,D,F,H,Z,Br,xL,bW,X,hs,oU,yj,iQ hs,L0,iw]
   clear r
   grind
 ·rintro f I _ r ⟨J,D,rfl,hr⟩
  simp only[qB,seval,gd,qZ,r,K,J,Int.lt_irrefl,hr,List.drop_length,KG]
theorem alw(l:Cs)(a:T)(r:List T)(D:IsSl a l.length r)(hc:dn l r)(hlen:l.length≤jY)(tJ:smC l):ae pE 212 [a] []=some (.i .i64 (KG [] l),[]):=by
 have F:=aCw l a r D hc hlen tJ 1
 rw[au agX (by simp[T3])]
 simp only[qB,seval,T3,D.lenI,F]
 grind
def rK(p:Int×List Nat):T:= .agg [.i .i64 p.1,.s p.2]
theorem awE(a b:Int×List Nat):pP (.flat [.int,.str]) (rK a) (rK b)=some (decide (a=b)):=by
 unfold rK
 rw[ala]
 congr 1
 by_cases h1:a.1=b.1 <;> by_cases h2:a.2=b.2 <;> simp[h1,h2,Prod.ext_iff]
theorem XW(seen:List (Int×List Nat))(s:Int×List Nat):iu (.flat [.int,.str]) ((seen.map fun x=>(x,true)).map fun p=>rK p.1) ((seen.map fun x=>(x,true)).map fun p=>T.b p.2) (.agg [.i .i64 s.1,.s s.2]) (.b false) false=some (.b (decide (s∈seen))):=by
 have:=N9 (kT:=rK) (vT:=T.b) awE (fun _=>Xa) (seen.map fun x=>(x,true)) s (.b false)
 rw[show T.agg [.i .i64 s.1,.s s.2]=rK s from rfl,this,nN]
 by_cases h:s∈seen <;> simp[h]
theorem Rp(seen:List (Int×List Nat))(s:Int×List Nat)(h:s∉seen):lF (.flat [.int,.str]) (.agg [.i .i64 s.1,.s s.2]) (.b true) ((seen.map fun x=>(x,true)).map fun p=>rK p.1) ((seen.map fun x=>(x,true)).map fun p=>T.b p.2)=some (((seen++ [s]).map fun x=>(x,true)).map (fun p=>rK p.1),((seen++ [s]).map fun x=>(x,true)).map (fun p=>T.b p.2)):=by
 have:=vd (kT:=rK) (vT:=T.b) awE (seen.map fun x=>(x,true)) s true (by rw[nN,if_neg h])
 rw[show T.agg [.i .i64 s.1,.s s.2]=rK s from rfl,this]
 simp only[List.map_append,List.map_cons,List.map_nil]
def XX(x:Ex):Prop:=0≤x.nodes∧x.sm
def G1(u:Ru):Int×List Nat:=(u.sc,u.nm)
theorem aCx(l:List Ru)(a:T)(V:List T)(Z:IsSl a l.length V)(hc:aB SG l V)(hlen:l.length≤jY)(tJ: ∀u∈l,XX u.x)(g:Nat)(fr:Fr)(lh:aD ah)(sh:List ah)
  (h3:aa fr 3= .mp .L 8 g) (W:aa fr 9=a) (r:aa fr 10= .i .i64 (l.length:Int)) (N:aa fr 11= .i .i64 0) (F:ab lh 8=⟨g,.map [] [] false⟩):
  pG pE 42 re fr lh sh 0 2 (G0 [] l) (fun J O=>O=sh):=by
 refine bX P3 (fun k f J O=>aa f 11= .i .i64 (k:Int)∧ab J 8=⟨g,.map ((((l.take k).map G1).map fun x=>(x,true)).map fun p=>rK p.1) ((((l.take k).map G1).map fun x=>(x,true)).map fun p=>T.b p.2) false⟩∧O=sh∧G0 [] l=G0 ((l.take k).map G1) (l.drop k)) l.length ⟨N,F,rfl,rfl⟩ ?_ ?_
 ·rintro k f J _ hk D ⟨K,F,rfl,hr⟩
  rw[List.drop_eq_getElem_cons hk,G0]at hr
  have H:(k:Int)<l.length:=yv
  have hw:=be (k:=k) yv
  obtain⟨b,cb,rr,I,fL,hb⟩:=Bp Z hc k hk
  obtain⟨yl,U⟩:=tJ l[k] (List.getElem_mem hk)
  have X:=cG (DZ l[k].sc)
  have Br:=cG (rN l[k].nm)
  have L0:=fun z fr lh sh=>nO (z:=z) (fr:=fr) (lh:=lh) (sh:=sh) l[k].x _ hb yl U
  have Y:=XW ((l.take k).map G1) (l[k].sc,l[k].nm)
  have iQ:=Rp ((l.take k).map G1) (l[k].sc,l[k].nm)
  have iw:(l.take (k+1)).map G1=(l.take k).map G1++ [(l[k].sc,l[k].nm)]:=by rw[List.take_succ_eq_append_getElem hk,List.map_append];rfl
  by_cases hs:(l[k].sc,l[k].nm)∈(l.take k).map G1
  ·simp only[qB,seval,gd,re,D,h3,W,r,K,F,H,I,X,Vd,Br,xL,bW,Y,hs]
   clear D
   grind
  ·simp only[qB,seval,gd,re,D,h3,W,r,K,F,H,I,hw,X,Vd,Br,xL,bW,Y,hs,oU,Xa,iQ hs,L0,iw]
   clear D
   grind
 ·rintro f J _ D ⟨K,F,rfl,hr⟩
  simp only[qB,seval,gd,re,D,r,K,Int.lt_irrefl,hr,List.drop_length,G0]
theorem alx(l:List Ru)(a:T)(r:List T)(D:IsSl a l.length r)(hc:aB SG l r)(hlen:l.length≤jY)(tJ: ∀u∈l,XX u.x):ae pE 213 [a] []=some (.i .i64 (G0 [] l),[]):=by
 have F:=aCx l a r D hc hlen tJ 1
 rw[au agY (by simp[T4])]
 simp only[qB,seval,T4,D.lenI,F]
 grind
def D0:List (List Nat):= [[98,108,111,99,107],[115,112,97,110],[110,105,103,104,116],[99,114,101,100,105,116],[108,101,103,115],[104,101,97,100,115],[100,117,116,105,101,115]]
theorem XY(s:List Nat):ae pE 259 [.s s] []=some (.i .i64 (XU s),[]):=by
 by_cases h:s∈D0
 ·simp only[D0,List.mem_cons,List.not_mem_nil,or_false]at h
  rcases h with rfl|rfl|rfl|rfl|rfl|rfl|rfl <;> exact cW (m:=20) (cS (by kernel_rfl))
 ·simp only[D0,List.mem_cons,List.not_mem_nil,or_false,not_or]at h
  obtain⟨h1,h2,h3,h4,h5,h6,r⟩:=h
  rw[au aht (by simp[Uk])]
  unfold XU
  simp only[qA,seval,Uk,h1,h2,h3,h4,h5,h6,r,or_self]
theorem XZ(s:List Nat): ∃n:Int,(n=0↔XU s=0)∧ae pE 198 [.s s] []=some (.i .i64 n,[]):=by
 by_cases h:s∈D0
 ·simp only[D0,List.mem_cons,List.not_mem_nil,or_false]at h
  rcases h with rfl|rfl|rfl|rfl|rfl|rfl|rfl
  iterate 4 exact⟨2,by decide,cW (m:=20) (cS (by kernel_rfl))⟩
  iterate 3 exact⟨1,by decide,cW (m:=20) (cS (by kernel_rfl))⟩
 ·simp only[D0,List.mem_cons,List.not_mem_nil,or_false,not_or]at h
  obtain⟨h1,h2,h3,h4,h5,h6,r⟩:=h
  refine⟨0, ?_, ?_⟩
  ·unfold XU;simp[h1,h2,h3,h4,h5,h6,r]
  ·rw[au agI (by simp[TR])]
   simp only[qA,seval,TR,h1,h2,h3,h4,h5,h6,r]
def pI(g:Nat)(seen:List (List Nat)):ah:=⟨g,.map ((seen.map fun x=>(x,true)).map fun p=>sK p.1) ((seen.map fun x=>(x,true)).map fun p=>T.b p.2) false⟩
theorem I6(g:Nat)(seen:List (List Nat))(s:List Nat):lkE (pI g seen) g (.one .str) (.s s) (.b false) false=some (.b (decide (s∈seen))):=by
 unfold pI;rw[bW,if_pos rfl,FI]
theorem I7{lh:aD ah}{kk:Nat}(g:Nat)(seen:List (List Nat))(s:List Nat)(h:s∉seen):muE lh kk (pI g seen) g (.one .str) (.s s) (.b true)=some (je lh kk (pI g (seen++ [s]))):=by
 unfold pI;rw[oU,if_pos ⟨rfl,rfl⟩,Bq seen s h];rfl
theorem aCy(l:List Li)(a:T)(cc:List T)(ha:IsSl a l.length cc)(hc:aB LiR l cc)(hlen:l.length≤jY)(g:Nat)(V:ah)(fr:Fr)(lh:aD ah)(sh:List ah)
  (h3:aa fr 3= .mp .L 8 g) (K:aa fr 10=a) (r:aa fr 11= .i .i64 (l.length:Int)) (W:aa fr 12= .i .i64 0) (D:ab lh 8=pI g []) (I:ab lh 1=V):
  pG pE 80 rh fr lh sh 0 2 (Oh [] l) (fun F X=>(Oh [] l=0→ab F 8=pI g (l.map Li.nm))∧ab F 1=V∧X=sh):=by
 refine bX Dm (fun k f F X=>aa f 12= .i .i64 (k:Int)∧ab F 8=pI g ((l.take k).map Li.nm)∧ab F 1=V∧X=sh∧Oh [] l=Oh ((l.take k).map Li.nm) (l.drop k)) l.length ⟨W,D,I,rfl,rfl⟩ ?_ ?_
 ·rintro k f F _ hk J ⟨U,D,I,rfl,hr⟩
  rw[List.drop_eq_getElem_cons hk,Oh]at hr
  have N:(k:Int)<l.length:=yv
  have hw:=be (k:=k) yv
  obtain⟨rr,O⟩:=Og ha hc k hk
  have Br:=cG (rN l[k].nm)
  have Y:=XY l[k].me
  have Z:=fun n lo hi=>cG (zh n lo hi)
  have fg:=I6 g ((l.take k).map Li.nm) l[k].nm
  have H:=fun lh kk=>I7 (lh:=lh) (kk:=kk) g ((l.take k).map Li.nm) l[k].nm
  have iw:(l.take (k+1)).map Li.nm=(l.take k).map Li.nm++ [l[k].nm]:=by rw[List.take_succ_eq_append_getElem hk,List.map_append];rfl
  by_cases hs:l[k].nm∈(l.take k).map Li.nm
  ·simp only[qB,seval,gd,rh,J,h3,K,r,U,D,I,N,O,Br,xL,fg,hs]
   clear J Z H
   grind
  ·simp only[qB,seval,gd,rh,J,h3,K,r,U,D,I,N,O,hw,Br,xL,fg,hs,fun lh kk=>H lh kk hs,Y,aut,Z,Ni,iw]
   clear J Z H
   grind (splits:=30)
 ·rintro f F _ J ⟨U,D,I,rfl,hr⟩
  rw[List.take_length]at D
  simp only[qB,seval,gd,rh,J,r,U,D,I,Int.lt_irrefl,hr,List.drop_length,Oh]
  exact fun _=>trivial
theorem aCA(l:List Of)(r:List (List Nat))(a:T)(Y:List T)(ha:IsSl a l.length Y)(hc:aB OfR l Y)(hlen:l.length≤jY)(g:Nat)(fr:Fr)(lh:aD ah)(sh:List ah)
  (h3:aa fr 3= .mp .L 8 g) (I:aa fr 47=a) (D:aa fr 48= .i .i64 (l.length:Int)) (V:aa fr 49= .i .i64 0) (J:ab lh 8=pI g r):
  pG pE 80 rf fr lh sh 3 2 (SI r l) (fun O W=>W=sh):=by
 refine bX P4 (fun k f O W=>aa f 49= .i .i64 (k:Int)∧ab O 8=pI g (r++(l.take k).map Of.nm)∧W=sh∧SI r l=SI (r++(l.take k).map Of.nm) (l.drop k)) l.length ⟨V,by simpa using J,rfl,by simp⟩ ?_ ?_
 ·rintro k f O _ hk H ⟨U,J,rfl,hr⟩
  rw[List.drop_eq_getElem_cons hk,SI]at hr
  have K:(k:Int)<l.length:=yv
  have hw:=be (k:=k) yv
  obtain⟨rr,N⟩:=XT ha hc k hk
  have Br:=cG (rN l[k].nm)
  have X:=fun n lo hi=>cG (zh n lo hi)
  have Z:=I6 g (r++(l.take k).map Of.nm) l[k].nm
  have F:=fun lh kk=>I7 (lh:=lh) (kk:=kk) g (r++(l.take k).map Of.nm) l[k].nm
  have iw:r++(l.take (k+1)).map Of.nm=(r++(l.take k).map Of.nm)++ [l[k].nm]:=by rw[List.take_succ_eq_append_getElem hk,List.map_append,List.append_assoc];rfl
  by_cases hs:l[k].nm∈r++(l.take k).map Of.nm
  ·simp only[qB,seval,gd,rf,H,h3,I,D,U,J,K,N,Br,xL,Z,hs]
   clear H X F
   grind
  ·simp only[qB,seval,gd,rf,H,h3,I,D,U,J,K,N,hw,Br,xL,Z,hs,fun lh kk=>F lh kk hs,X,Ni,iw]
   clear H X F
   grind
 ·rintro f O _ H ⟨U,J,rfl,hr⟩
  simp only[qB,seval,gd,rf,H,D,U,Int.lt_irrefl,hr,List.drop_length,SI]
structure mG (c:Ct) (a7 a8 a9 aw aA az:T):Prop where
 h7: ∃cc,IsSl a7 c.cs.length cc∧dn c.cs cc
 h8: ∃cc,IsSl a8 c.ru.length cc∧aB SG c.ru cc
 h9: ∃cc,IsSl a9 c.co.length cc∧aB CoR c.co cc
 h10: ∃cc,IsSl aw c.cr.length cc∧cu c.cr cc
 h11: ∃cc,IsSl aA c.li.length cc∧aB LiR c.li cc
 h12: ∃cc,IsSl az c.fs.length cc∧aB OfR c.fs cc
structure vq (c:Ct):Prop where
 s7:smC c.cs∧c.cs.length≤jY
 s8:(∀u∈c.ru,XX u.x)∧c.ru.length≤jY
 s9:(∀u∈c.co,XX u.x)∧c.co.length≤jY
 s10:(∀x∈c.cr,XX x)∧c.cr.length≤jY
 s11:c.li.length≤jY
 s12:c.fs.length≤jY
 b7: ∃j,j≤2∧c.cs=rO j
 b8: ∀u∈c.ru,(u.sc,u.x)∈DX
 b9: ∀u∈c.co,(u.sc,u.x)∈DX
 b10: ∀x∈c.cr,((1:Int),x)∈DX
section
variable(c:Ct)(a7 a8 a9 aw aA az:T)(hT:mG c a7 a8 a9 aw aA az)(hS:vq c)
def aY:List T:= [.i .i64 c.rp,.i .i64 c.rl,.i .i64 c.cn,.i .i64 c.st,.i .i64 c.ly,.i .i64 c.nf,.i .i64 c.nt,a7,a8,a9,aw,aA,az,.i .i64 c.gu]
include hT hS
theorem alz:ae pE 216 [.agg (aY c a7 a8 a9 aw aA az)] []=some (.i .i64 (XV c),[]):=by
 obtain⟨yS,r,Ch⟩:=hT.h11
 obtain⟨Ce,D,D1⟩:=hT.h12
 rw[au ag0 (by simp[T6])]
 have F:=fun fr lh sh x1 x2 x3 x4 x5 x6=>lpO (aCy c.li aA yS r Ch hS.s11 1 ⟨1,.cells (aY c a7 a8 a9 aw aA az) 0 true⟩ fr lh sh x1 x2 x3 x4 x5 x6) (by simp[pI])
 have H:=aCA c.fs (c.li.map Li.nm) az Ce D D1 hS.s12 1
 unfold aY at F ⊢
 unfold XV
 have I:pI 1 []=⟨1,.map [] [] false⟩:=rfl
 simp(maxDischargeDepth:=6) only[qB,seval,T6,Dm,r.lenI,D.lenI,I,F,H]
 grind
end
theorem aCB(l:List Co)(a:T)(X:List T)(Y:IsSl a l.length X)(hc:aB CoR l X)(hlen:l.length≤jY)(tJ: ∀u∈l,XX u.x)(I:ah)(fr:Fr)(lh:aD ah)(sh:List ah)
  (J:aa fr 84=a) (r:aa fr 85= .i .i64 (l.length:Int)) (K:aa fr 86= .i .i64 0) (D:ab lh 1=I):
  pG pE 116 tW fr lh sh 1 2 (I4 l) (fun F N=>ab F 1=I∧N=sh):=by
 refine bX Dh (fun k f F N=>aa f 86= .i .i64 (k:Int)∧ab F 1=I∧N=sh∧I4 l=I4 (l.drop k)) l.length ⟨K,D,rfl,rfl⟩ ?_ ?_
 ·rintro k f F _ hk H ⟨O,D,rfl,hr⟩
  rw[List.drop_eq_getElem_cons hk,I4]at hr
  have U:(k:Int)<l.length:=yv
  have Z:=be (k:=k) yv
  obtain⟨b,cb,rr,V,fL,hb⟩:=DY Y hc k hk
  obtain⟨yl,W⟩:=tJ l[k] (List.getElem_mem hk)
  have fq:=cG (DZ l[k].sc)
  have L0:=fun z fr lh sh=>nO (z:=z) (fr:=fr) (lh:=lh) (sh:=sh) l[k].x _ hb yl W
  simp only[qB,seval,gd,tW,H,J,r,O,D,U,V,Z,fq,Vd,L0]
  clear H
  grind
 ·rintro f F _ H ⟨O,D,rfl,hr⟩
  simp only[qB,seval,gd,tW,H,r,O,D,Int.lt_irrefl,hr,List.drop_length,I4]
theorem aCC(l:List Ex)(a:T)(X:List T)(Y:IsSl a l.length X)(hc:cu l X)(hlen:l.length≤jY)(tJ: ∀x∈l,XX x)(I:ah)(fr:Fr)(lh:aD ah)(sh:List ah)
  (J:aa fr 102=a) (r:aa fr 103= .i .i64 (l.length:Int)) (K:aa fr 104= .i .i64 0) (D:ab lh 1=I):
  pG pE 116 tV fr lh sh 3 2 (I5 l) (fun F N=>ab F 1=I∧N=sh):=by
 refine bX Dg (fun k f F N=>aa f 104= .i .i64 (k:Int)∧ab F 1=I∧N=sh∧I5 l=I5 (l.drop k)) l.length ⟨K,D,rfl,rfl⟩ ?_ ?_
 ·rintro k f F _ hk H ⟨O,D,rfl,hr⟩
  rw[List.drop_eq_getElem_cons hk,I5]at hr
  have U:(k:Int)<l.length:=yv
  have Z:=be (k:=k) yv
  obtain⟨b,cb,rr,V,fL,rP,hb⟩:=oZ Y hc k hk
  obtain⟨yl,W⟩:=tJ l[k] (List.getElem_mem hk)
  have L0:=fun z fr lh sh=>nO (z:=z) (fr:=fr) (lh:=lh) (sh:=sh) l[k] _ hb yl W
  simp only[qB,seval,gd,tV,H,J,r,O,D,U,V,Z,L0]
  clear H
  grind
 ·rintro f F _ H ⟨O,D,rfl,hr⟩
  simp only[qB,seval,gd,tV,H,r,O,D,Int.lt_irrefl,hr,List.drop_length,I5]
section
variable(c:Ct)(a7 a8 a9 aw aA az:T)(hT:mG c a7 a8 a9 aw aA az)(hS:vq c)
include hT hS
theorem X1:ae pE 130 [.agg (aY c a7 a8 a9 aw aA az)] []=some (.i .i64 (fY c),[]):=by
 have J:=alz c a7 a8 a9 aw aA az hT hS
 obtain⟨⟨c7,H,W⟩,⟨c8,I,X⟩,⟨c9,K,Y⟩,⟨wh,r,Z⟩,⟨yS,D,Ch⟩,⟨Ce,F,D1⟩⟩:=hT
 have U:=alw c.cs a7 c7 H W hS.s7.2 hS.s7.1
 have V:=alx c.ru a8 c8 I X hS.s8.2 hS.s8.1
 have N:=aCB c.co a9 c9 K Y hS.s9.2 hS.s9.1 ⟨1,.cells (aY c a7 a8 a9 aw aA az) 0 true⟩
 have O:=aCC c.cr aw wh r Z hS.s10.2 hS.s10.1 ⟨1,.cells (aY c a7 a8 a9 aw aA az) 0 true⟩
 have w:=fun n lo hi=>cG (zh n lo hi)
 unfold aY at N O J ⊢
 rw[au af3 (by simp[Tu])]
 unfold fY kz kM
 simp(maxDischargeDepth:=6) only[qB,seval,Tu,Dg,Dh,H.froz,I.froz,H.lenI,I.lenI,K.lenI,r.lenI,D.lenI,F.lenI,H.froz1,I.froz1,K.froz1,r.froz1,D.froz1,F.froz1,w,Ni,U,V,aue,auf,N,O,J,aui]
 clear U V N O J w hS
 grind (splits:=40)
end
theorem mH(n lo hi:Int):ae pE 199 [.i .i64 n,.i .i64 lo,.i .i64 hi] []=some (.b (ki n lo hi),[]):=by
 rw[au agJ (by simp[TS])]
 unfold ki
 by_cases h:lo≤n <;> simp only[qA,seval,TS,h]
theorem aCF(l:List Li)(a:T)(K:List T)(O:IsSl a l.length K)(hc:aB LiR l K)(hlen:l.length≤jY)(n:Nat)(hn:n≤l.length)(s:List Nat)(c:Ct)(a7 a8 a9 aw az:T)(U:List T)(G4:Nat)(fr:Fr)(lh:aD ah)(sh:List ah)(V:aa fr 1= .ptr .L 1 1 0)(N:aa fr 3= .i .i64 (n:Int))(W:aa fr 4= .ptr .L 4 G4 0)(X:aa fr 5= .i .i64 0)(Y:ab lh 1=⟨1,.cells (aY c a7 a8 a9 aw a az) 0 true⟩)(Z:ab lh 4=⟨G4,.cells (.s s::U) 0 true⟩):
  pG pE 112 ug fr lh sh 2 2 (if s∈(l.map Li.nm).take n then 7 else 0) (fun D F=>D=lh∧F=sh):=by
 refine bX Dk (fun j f D F=>aa f 5= .i .i64 (j:Int)∧D=lh∧F=sh∧s∉(l.map Li.nm).take j) n ⟨X,rfl,rfl,by simp⟩ ?_ ?_
 ·rintro j f _ _ hj r ⟨H,rfl,rfl,hr⟩
  obtain⟨rr,I⟩:=Og O hc j yv
  have hw:=be (k:=j) yv
  have J:(j:Int)<n:=yv
  simp only[qB,seval,gd,ug,r,V,N,W,H,J,I,hw,Y,Z,aY]
  clear r
  grind [List.mem_take_iff_getElem]
 ·rintro f _ _ r ⟨H,rfl,rfl,hr⟩
  simp only[qB,seval,gd,ug,r,N,H,Int.lt_irrefl,hr]
theorem aCG(l:List Li)(a:T)(N:List T)(D:IsSl a l.length N)(hc:aB LiR l N)(hlen:l.length≤jY)(s:List Nat)(c:Ct)(a7 a8 a9 aw az:T)(V:List T)(G7:Nat)(fr:Fr)(lh:aD ah)(sh:List ah)(O:aa fr 1= .ptr .L 1 1 0)(W:aa fr 7= .ptr .L 7 G7 0)(X:aa fr 8= .i .i64 0)(U:ab lh 1=⟨1,.cells (aY c a7 a8 a9 aw a az) 0 true⟩)(Y:ab lh 7=⟨G7,.cells (.s s::V) 0 true⟩):
  pG pE 112 ue fr lh sh 6 2 (if s∈l.map Li.nm then 7 else 0) (fun F H=>F=lh∧H=sh):=by
 refine bX Dj (fun j f F H=>aa f 8= .i .i64 (j:Int)∧F=lh∧H=sh∧s∉(l.map Li.nm).take j) l.length ⟨X,rfl,rfl,by simp⟩ ?_ ?_
 ·rintro j f _ _ Z r ⟨I,rfl,rfl,hr⟩
  obtain⟨rr,J⟩:=Og D hc j Z
  have hw:=be (k:=j) yv
  have K:(j:Int)<l.length:=yv
  simp only[qB,seval,gd,ue,r,O,W,I,D.lenI,K,J,hw,U,Y,aY]
  clear r
  grind [List.mem_take_iff_getElem]
 ·rintro f _ _ r ⟨I,rfl,rfl,hr⟩
  rw[List.take_of_length_le xv]at hr
  simp only[qB,seval,gd,ue,r,O,I,D.lenI,U,aY,Int.lt_irrefl,hr]
theorem aCH(l:List Of)(a:T)(K:List T)(O:IsSl a l.length K)(hc:aB OfR l K)(hlen:l.length≤jY)(n:Nat)(hn:n≤l.length)(s:List Nat)(c:Ct)(a7 a8 a9 aw aA:T)(U:List T)(G7:Nat)(fr:Fr)(lh:aD ah)(sh:List ah)(V:aa fr 1= .ptr .L 1 1 0)(N:aa fr 6= .i .i64 (n:Int))(W:aa fr 7= .ptr .L 7 G7 0)(X:aa fr 9= .i .i64 0)(Y:ab lh 1=⟨1,.cells (aY c a7 a8 a9 aw aA a) 0 true⟩)(Z:ab lh 7=⟨G7,.cells (.s s::U) 0 true⟩):
  pG pE 112 uc fr lh sh 8 2 (if s∈(l.map Of.nm).take n then 7 else 0) (fun D F=>D=lh∧F=sh):=by
 refine bX Di (fun j f D F=>aa f 9= .i .i64 (j:Int)∧D=lh∧F=sh∧s∉(l.map Of.nm).take j) n ⟨X,rfl,rfl,by simp⟩ ?_ ?_
 ·rintro j f _ _ hj r ⟨H,rfl,rfl,hr⟩
  obtain⟨rr,I⟩:=XT O hc j yv
  have hw:=be (k:=j) yv
  have J:(j:Int)<n:=yv
  simp only[qB,seval,gd,uc,r,V,N,W,H,J,I,hw,Y,Z,aY]
  clear r
  grind [List.mem_take_iff_getElem]
 ·rintro f _ _ r ⟨H,rfl,rfl,hr⟩
  simp only[qB,seval,gd,uc,r,N,H,Int.lt_irrefl,hr]
section
variable(c:Ct)(a7 a8 a9 aw aA az:T)(hT:mG c a7 a8 a9 aw aA az)(hS:vq c)
include hT hS
theorem aCI(fr:Fr)(lh:aD ah)(sh:List ah)(h1:aa fr 1= .ptr .L 1 1 0)(h3:aa fr 3= .i .i64 0)(D:ab lh 1=⟨1,.cells (aY c a7 a8 a9 aw aA az) 0 true⟩):
  pG pE 112 uh fr lh sh 0 2 (Oh [] c.li) (fun F I=>ab F 1=⟨1,.cells (aY c a7 a8 a9 aw aA az) 0 true⟩∧I=sh):=by
 obtain⟨yS,r,Ch⟩:=hT.h11
 have hlen:=hS.s11
 refine bX Dl (fun k f F I=>aa f 3= .i .i64 (k:Int)∧ab F 1=⟨1,.cells (aY c a7 a8 a9 aw aA az) 0 true⟩∧I=sh∧Oh [] c.li=Oh ((c.li.map Li.nm).take k) (c.li.drop k)) c.li.length ⟨h3,D,rfl,rfl⟩ ?_ ?_
 ·rintro k f F _ hk H ⟨J,D,rfl,hr⟩
  rw[List.drop_eq_getElem_cons hk,Oh]at hr
  obtain⟨rr,K⟩:=Og r Ch k hk
  have Br:=cG (nM c.li[k].nm)
  obtain⟨me,V,N⟩:=XZ c.li[k].me
  have W:=cG (mH c.li[k].mo 0 599999)
  have X:=cG (mH c.li[k].da 1 31)
  obtain⟨G,Y⟩: ∃G,(ab F 4).g+1=G:=⟨_,rfl⟩
  have O:=aCF c.li aA yS r Ch hlen k yv c.li[k].nm c a7 a8 a9 aw az [.s c.li[k].me,.i .i64 c.li[k].mo,.i .i64 c.li[k].da] G
  have Z:=be (k:=k) yv
  have U:(k:Int)<c.li.length:=yv
  have iw:(c.li.map Li.nm).take (k+1)=(c.li.map Li.nm).take k++ [c.li[k].nm]:=by simp[List.take_succ_eq_append_getElem,hk]
  unfold aY at D O ⊢
  simp only[qB,seval,gd,uh,Dk,H,h1,J,D,r.lenI,U,K,Y,Br,HZ,O,N,at8,W,X,Dv,Z]
  clear H O
  grind
 ·rintro f F _ H ⟨J,D,rfl,hr⟩
  unfold aY at D ⊢
  simp only[qB,seval,gd,uh,H,h1,J,D,r.lenI,Int.lt_irrefl,hr,List.drop_length,Oh]
theorem aCJ(fr:Fr)(lh:aD ah)(sh:List ah)(h1:aa fr 1= .ptr .L 1 1 0)(h6:aa fr 6= .i .i64 0)(D:ab lh 1=⟨1,.cells (aY c a7 a8 a9 aw aA az) 0 true⟩):
  pG pE 112 uf fr lh sh 4 2 (SI (c.li.map Li.nm) c.fs) (fun F I=>I=sh):=by
 obtain⟨yS,J,Ch⟩:=hT.h11
 obtain⟨Ce,r,D1⟩:=hT.h12
 have K:=hS.s11
 have hlen:=hS.s12
 refine bX PY (fun k f F I=>aa f 6= .i .i64 (k:Int)∧ab F 1=⟨1,.cells (aY c a7 a8 a9 aw aA az) 0 true⟩∧I=sh∧SI (c.li.map Li.nm) c.fs=SI (c.li.map Li.nm++(c.fs.map Of.nm).take k) (c.fs.drop k)) c.fs.length ⟨h6,D,rfl,by simp⟩ ?_ ?_
 ·rintro k f F _ hk H ⟨N,D,rfl,hr⟩
  rw[List.drop_eq_getElem_cons hk,SI]at hr
  obtain⟨rr,O⟩:=XT r D1 k hk
  have Br:=cG (nM c.fs[k].nm)
  have X:=cG (mH c.fs[k].da 1 31)
  have Y:=cG (mH c.fs[k].ct 1 c.fs[k].da)
  obtain⟨G,Z⟩: ∃G,(ab F 7).g+1=G:=⟨_,rfl⟩
  have U:=aCG c.li aA yS J Ch K c.fs[k].nm c a7 a8 a9 aw az [.i .i64 c.fs[k].ct,.i .i64 c.fs[k].da] G
  have V:=aCH c.fs az Ce r D1 hlen k yv c.fs[k].nm c a7 a8 a9 aw aA [.i .i64 c.fs[k].ct,.i .i64 c.fs[k].da] G
  have hw:=be (k:=k) yv
  have W:(k:Int)<c.fs.length:=yv
  have iw:(c.fs.map Of.nm).take (k+1)=(c.fs.map Of.nm).take k++ [c.fs[k].nm]:=by simp[List.take_succ_eq_append_getElem,hk]
  unfold aY at D U V ⊢
  simp only[qB,seval,gd,uf,Dj,Di,H,h1,N,D,r.lenI,W,O,Z,Br,HZ,U,V,X,Y,Dv,hw]
  clear H U V
  grind
 ·rintro f F _ H ⟨N,D,rfl,hr⟩
  unfold aY at D
  simp only[qB,seval,gd,uf,H,h1,N,D,r.lenI,Int.lt_irrefl,hr,List.drop_length,SI]
theorem adU:ae pE 201 [.agg (aY c a7 a8 a9 aw aA az)] []=some (.i .i64 (XV c),[]):=by
 have r:=aCI c a7 a8 a9 aw aA az hT hS
 have D:=aCJ c a7 a8 a9 aw aA az hT hS
 rw[au agL (by simp[TU])]
 unfold XV
 unfold aY at r D ⊢
 simp(maxDischargeDepth:=6) only[qB,seval,TU,Dl,r,D]
 grind
end
theorem aCL(l:Cs)(a:T)(K:List T)(N:IsSl a l.length K)(hc:dn l K)(hlen:l.length≤jY)(n:Nat)(V:n<l.length)(c:Ct)(a8 a9 aw aA az:T)(fr:Fr)(lh:aD ah)(sh:List ah)
  (W:aa fr 1= .ptr .L 1 1 0) (O:aa fr 3= .i .i64 (n:Int)) (X:aa fr 4= .i .i64 0) (U:ab lh 1=⟨1,.cells (aY c a a8 a9 aw aA az) 0 true⟩):
  pG pE 235 tR fr lh sh 2 2 (if l[n].1∈(l.map Prod.fst).take n then 7 else 0) (fun D F=>D=lh∧F=sh):=by
 refine bX De (fun j f D F=>aa f 4= .i .i64 (j:Int)∧D=lh∧F=sh∧l[n].1∉(l.map Prod.fst).take j) n ⟨X,rfl,rfl,by simp⟩ ?_ ?_
 ·rintro j f _ _ hj r ⟨H,rfl,rfl,hr⟩
  obtain⟨b,cb,rr,I,fL,rP,hb⟩:=fZ N hc j yv
  obtain⟨b',Y,Z,iD,_⟩:=fZ N hc n V
  have hw:=be (k:=j) yv
  have J:(j:Int)<n:=yv
  unfold aY at U
  simp only[qB,seval,gd,tR,r,W,O,H,J,I,iD,hw,U]
  clear r
  grind [List.mem_take_iff_getElem]
 ·rintro f _ _ r ⟨H,rfl,rfl,hr⟩
  simp only[qB,seval,gd,tR,r,O,H,Int.lt_irrefl,hr]
theorem aCM(l:List Ru)(a:T)(K:List T)(U:IsSl a l.length K)(hc:aB SG l K)(hlen:l.length≤jY)(n:Nat)(hn:n<l.length)(c:Ct)(a7 a9 aw aA az:T)(V:List T)(G7:Nat)(fr:Fr)(lh:aD ah)(sh:List ah)(W:aa fr 1= .ptr .L 1 1 0)(N:aa fr 6= .i .i64 (n:Int))(X:aa fr 7= .ptr .L 7 G7 0)(Y:aa fr 8= .i .i64 0)(O:ab lh 1=⟨1,.cells (aY c a7 a a9 aw aA az) 0 true⟩)(Z:ab lh 7=⟨G7,.cells (.i .i64 l[n].sc:: .s l[n].nm::V) 0 true⟩):
  pG pE 235 tP fr lh sh 6 2 (if G1 l[n]∈(l.map G1).take n then 7 else 0) (fun D F=>D=lh∧F=sh):=by
 refine bX Dc (fun j f D F=>aa f 8= .i .i64 (j:Int)∧D=lh∧F=sh∧G1 l[n]∉(l.map G1).take j) n ⟨Y,rfl,rfl,by simp⟩ ?_ ?_
 ·rintro j f _ _ hj r ⟨H,rfl,rfl,hr⟩
  obtain⟨b,cb,rr,I,fL,hb⟩:=Bp U hc j yv
  have hw:=be (k:=j) yv
  have J:(j:Int)<n:=yv
  unfold aY at O
  simp only[qB,seval,gd,tP,r,W,N,X,H,J,I,hw,O,Z]
  clear r
  grind [List.mem_take_iff_getElem,G1]
 ·rintro f _ _ r ⟨H,rfl,rfl,hr⟩
  simp only[qB,seval,gd,tP,r,N,H,Int.lt_irrefl,hr]
section
variable(c:Ct)(a7 a8 a9 aw aA az:T)(hT:mG c a7 a8 a9 aw aA az)(hS:vq c)
include hT hS
theorem aCN(fr:Fr)(lh:aD ah)(sh:List ah)(h1:aa fr 1= .ptr .L 1 1 0)(hi:aa fr 3= .i .i64 0)(r:ab lh 1=⟨1,.cells (aY c a7 a8 a9 aw aA az) 0 true⟩):
  pG pE 235 tS fr lh sh 0 2 (KG [] c.cs) (fun D H=>ab D 1=⟨1,.cells (aY c a7 a8 a9 aw aA az) 0 true⟩∧H=sh):=by
 obtain⟨c7,F,O⟩:=hT.h7
 have hlen:=hS.s7.2
 refine bX Df (fun k f D H=>aa f 3= .i .i64 (k:Int)∧ab D 1=⟨1,.cells (aY c a7 a8 a9 aw aA az) 0 true⟩∧H=sh∧KG [] c.cs=KG ((c.cs.map Prod.fst).take k) (c.cs.drop k)) c.cs.length ⟨hi,r,rfl,rfl⟩ ?_ ?_
 ·rintro k f D _ hk I ⟨J,r,rfl,hr⟩
  rw[List.drop_eq_getElem_cons hk,KG]at hr
  obtain⟨b,Y,Z,K,V,rP,W⟩:=fZ F O k hk
  have Br:=cG (nM c.cs[k].1)
  have L0:=rQ c.cs[k].2 _ W (hS.s7.1 c.cs[k] (List.getElem_mem hk)).2
  have U:=aCL c.cs a7 c7 F O hlen k hk c a8 a9 aw aA az
  have X:=be (k:=k) yv
  have N:(k:Int)<c.cs.length:=yv
  have iw:(c.cs.map Prod.fst).take (k+1)=(c.cs.map Prod.fst).take k++ [c.cs[k].1]:=by simp[List.take_succ_eq_append_getElem,hk]
  unfold aY at r U ⊢
  simp only[qB,seval,gd,tS,De,I,h1,J,r,F.lenI,N,K,Br,HZ,U,V.froz1,L0,Nd,X]
  grind
 ·rintro f D _ I ⟨J,r,rfl,hr⟩
  unfold aY at r ⊢
  simp only[qB,seval,gd,tS,I,h1,J,r,F.lenI,Int.lt_irrefl,hr,List.drop_length,KG]
theorem aCO(fr:Fr)(lh:aD ah)(sh:List ah)(h1:aa fr 1= .ptr .L 1 1 0)(hi:aa fr 6= .i .i64 0)(r:ab lh 1=⟨1,.cells (aY c a7 a8 a9 aw aA az) 0 true⟩):
  pG pE 235 tQ fr lh sh 4 2 (G0 [] c.ru) (fun D H=>ab D 1=⟨1,.cells (aY c a7 a8 a9 aw aA az) 0 true⟩∧H=sh):=by
 obtain⟨c8,F,O⟩:=hT.h8
 have hlen:=hS.s8.2
 refine bX Dd (fun k f D H=>aa f 6= .i .i64 (k:Int)∧ab D 1=⟨1,.cells (aY c a7 a8 a9 aw aA az) 0 true⟩∧H=sh∧G0 [] c.ru=G0 ((c.ru.map G1).take k) (c.ru.drop k)) c.ru.length ⟨hi,r,rfl,rfl⟩ ?_ ?_
 ·rintro k f D _ hk I ⟨J,r,rfl,hr⟩
  rw[List.drop_eq_getElem_cons hk,G0]at hr
  obtain⟨b,cb,rr,K,V,W⟩:=Bp F O k hk
  have Br:=cG (nM c.ru[k].nm)
  have X:=cG (mH c.ru[k].sc 1 3)
  have L0:=rQ c.ru[k].x _ W (hS.s8.1 c.ru[k] (List.getElem_mem hk)).2
  obtain⟨G,Y⟩: ∃G,(ab D 7).g+1=G:=⟨_,rfl⟩
  have U:=aCM c.ru a8 c8 F O hlen k hk c a7 a9 aw aA az [.i .i64 c.ru[k].x.op,.i .i64 c.ru[k].x.num,.s c.ru[k].x.name,b] G
  have Z:=be (k:=k) yv
  have N:(k:Int)<c.ru.length:=yv
  have iw:(c.ru.map G1).take (k+1)=(c.ru.map G1).take k++ [(c.ru[k].sc,c.ru[k].nm)]:=by simp[List.take_succ_eq_append_getElem,hk,G1]
  unfold aY at r U ⊢
  simp only[qB,seval,gd,tQ,Dc,I,h1,J,r,F.lenI,N,K,Y,Br,HZ,X,Dv,U,V.froz1,L0,Nd,Z]
  grind [G1]
 ·rintro f D _ I ⟨J,r,rfl,hr⟩
  unfold aY at r ⊢
  simp only[qB,seval,gd,tQ,I,h1,J,r,F.lenI,Int.lt_irrefl,hr,List.drop_length,G0]
theorem aCP(fr:Fr)(lh:aD ah)(sh:List ah)(h1:aa fr 1= .ptr .L 1 1 0)(hi:aa fr 10= .i .i64 0)(r:ab lh 1=⟨1,.cells (aY c a7 a8 a9 aw aA az) 0 true⟩):
  pG pE 235 tO fr lh sh 8 2 (I4 c.co) (fun D H=>ab D 1=⟨1,.cells (aY c a7 a8 a9 aw aA az) 0 true⟩∧H=sh):=by
 obtain⟨c9,I,O⟩:=hT.h9
 have hlen:=hS.s9.2
 refine bX Db (fun k f D H=>aa f 10= .i .i64 (k:Int)∧ab D 1=⟨1,.cells (aY c a7 a8 a9 aw aA az) 0 true⟩∧H=sh∧I4 c.co=I4 (c.co.drop k)) c.co.length ⟨hi,r,rfl,rfl⟩ ?_ ?_
 ·rintro k f D _ hk F ⟨J,r,rfl,hr⟩
  rw[List.drop_eq_getElem_cons hk,I4]at hr
  obtain⟨b,Y,Z,K,U,V⟩:=DY I O k hk
  have W:=cG (mH c.co[k].sc 1 3)
  have L0:=rQ c.co[k].x _ V (hS.s9.1 c.co[k] (List.getElem_mem hk)).2
  have X:=be (k:=k) yv
  have N:(k:Int)<c.co.length:=yv
  unfold aY at r ⊢
  simp only[qB,seval,gd,tO,F,h1,J,r,I.lenI,N,K,W,Dv,U.froz1,L0,Nd,X]
  clear F
  grind
 ·rintro f D _ F ⟨J,r,rfl,hr⟩
  unfold aY at r ⊢
  simp only[qB,seval,gd,tO,F,h1,J,r,I.lenI,Int.lt_irrefl,hr,List.drop_length,I4]
theorem aCQ(fr:Fr)(lh:aD ah)(sh:List ah)(h1:aa fr 1= .ptr .L 1 1 0)(hi:aa fr 12= .i .i64 0)(r:ab lh 1=⟨1,.cells (aY c a7 a8 a9 aw aA az) 0 true⟩):
  pG pE 235 tN fr lh sh 10 2 (I5 c.cr) (fun F I=>ab F 1=⟨1,.cells (aY c a7 a8 a9 aw aA az) 0 true⟩∧I=sh):=by
 obtain⟨wh,D,O⟩:=hT.h10
 have hlen:=hS.s10.2
 refine bX Da (fun k f F I=>aa f 12= .i .i64 (k:Int)∧ab F 1=⟨1,.cells (aY c a7 a8 a9 aw aA az) 0 true⟩∧I=sh∧I5 c.cr=I5 (c.cr.drop k)) c.cr.length ⟨hi,r,rfl,rfl⟩ ?_ ?_
 ·rintro k f F _ hk H ⟨J,r,rfl,hr⟩
  rw[List.drop_eq_getElem_cons hk,I5]at hr
  obtain⟨b,X,Y,K,U,Z,V⟩:=oZ D O k hk
  have L0:=rQ c.cr[k] _ V (hS.s10.1 c.cr[k] (List.getElem_mem hk)).2
  have W:=be (k:=k) yv
  have N:(k:Int)<c.cr.length:=yv
  unfold aY at r ⊢
  simp only[qB,seval,gd,tN,H,h1,J,r,D.lenI,N,K,U.froz1,L0,Nd,W]
  clear H
  grind
 ·rintro f F _ H ⟨J,r,rfl,hr⟩
  unfold aY at r ⊢
  simp only[qB,seval,gd,tN,H,h1,J,r,D.lenI,Int.lt_irrefl,hr,List.drop_length,I5]
end
section
variable(c:Ct)(a7 a8 a9 aw aA az:T)(hT:mG c a7 a8 a9 aw aA az)(hS:vq c)
include hT hS
theorem I8:ae pE 118 [.agg (aY c a7 a8 a9 aw aA az)] []=some (.i .i64 (fY c),[]):=by
 have H:=adU c a7 a8 a9 aw aA az hT hS
 have I:=aCN c a7 a8 a9 aw aA az hT hS
 have J:=aCO c a7 a8 a9 aw aA az hT hS
 have K:=aCP c a7 a8 a9 aw aA az hT hS
 have N:=aCQ c a7 a8 a9 aw aA az hT hS
 obtain⟨⟨c7,O,W⟩,⟨c8,U,X⟩,⟨c9,V,Y⟩,⟨wh,r,Z⟩,⟨yS,D,Ch⟩,⟨Ce,F,D1⟩⟩:=hT
 have w:=fun n lo hi=>cG (mH n lo hi)
 unfold aY at I J K N H ⊢
 rw[au M6 (by simp[KR])]
 unfold fY kz kM
 simp(maxDischargeDepth:=6) only[qB,seval,KR,Da,Db,Dd,Df,O.lenI,U.lenI,V.lenI,r.lenI,D.lenI,F.lenI,O.froz1,U.froz1,V.froz1,r.froz1,D.froz1,F.froz1,w,Dv,I,J,K,N,H,at9]
 clear I J K N H w hS
 grind (splits:=40)
end
def SJ(s:List Nat):Prop:=dB 1 s≠0∨dB 2 s≠0∨dB 3 s≠0
instance (s:List Nat):Decidable (SJ s):=by unfold SJ;infer_instance
def L1(l:Cs):Nat→Cs→Int
 |_,[]=>0
 |k,c::r=>if SJ c.1 then 7 else if(sa l k).2≠0 then(sa l k).2 else L1 l (k+1) r
def G2(l:Cs)(scope:Int)(x:Ex)(r:Int):Int:=if(cP l scope x).2=0∧(cP l scope x).1≠r then 9 else(cP l scope x).2
def I9(l:Cs):List Ru→Int
 | []=>0
 |u::r=>if G2 l u.sc u.x 4≠0 then G2 l u.sc u.x 4 else I9 l r
def Ja(l:Cs):List Co→Int
 | []=>0
 |u::r=>if G2 l u.sc u.x 1≠0 then G2 l u.sc u.x 1 else Ja l r
def KH(l:Cs):List Ex→Int
 | []=>0
 |x::r=>if G2 l 1 x 2≠0 then G2 l 1 x 2 else KH l r
def fi(c:Ct):Int:=if fY c≠0 then fY c else if L1 c.cs 0 c.cs≠0 then L1 c.cs 0 c.cs else if I9 c.cs c.ru≠0 then I9 c.cs c.ru else if Ja c.cs c.co≠0 then Ja c.cs c.co else KH c.cs c.cr
def qD(l:Cs)(lT:T)(sh:List ah):Prop:= ∃kn,sh=tK lT (bH l l.length) kn∧vt l kn
def adV(s:List Nat)(j:Nat):Prop:= ∀i:Nat,i<j→dB ((i:Int)+1) s=0
theorem aCR(s:List Nat)(K:List T)(G:Nat)(fr:Fr)(lh:aD ah)(sh:List ah)(N:aa fr 6= .ptr .L 6 G 0)(O:aa fr 7= .i .i64 1)(U:ab lh 6=⟨G,.cells (.s s::K) 0 true⟩):
  pG pE 115 zX fr lh sh 2 2 (if SJ s then 7 else 0) (fun F H=>F=lh∧H=sh):=by
 refine bX HF (fun j f F H=>aa f 7= .i .i64 ((j:Int)+1)∧F=lh∧H=sh∧adV s j) 3 ⟨O,rfl,rfl,fun i h=>by omega⟩ ?_ ?_
 ·rintro j f _ _ X r ⟨D,rfl,rfl,t⟩
  have I:=I1 ((j:Int)+1) s
  unfold qz at I
  have J:(j:Int)+1≤3:=yv
  have V:wr .i64 ((j:Int)+1+1)=((j+1:Nat):Int)+1:=bj yv
  have hc:j=0∨j=1∨j=2:=yv
  by_cases W:dB ((j:Int)+1) s=0 <;> simp only[qB,seval,gd,zX,r,N,D,U,J,V,I,W,UB] <;> clear r I <;> grind [adV,SJ]
 ·rintro f _ _ r ⟨D,rfl,rfl,t⟩
  rw[show((3:Nat):Int)+1=4 from rfl]at D
  have a:=t 0 xW
  have b:=t 1 xW
  have c:=t 2 xW
  simp only[qB,seval,gd,zX,r,D]
  unfold SJ
  grind
section
variable(l:Cs)(lT:T)(cl:List T)(hl:IsSl lT l.length cl)(hcl:dn l cl)(hlen:l.length≤jY)(tJ:smC l)
include hl hcl hlen tJ
theorem FJ(scope r:Int)(x:Ex)(cs:List T)(hx:jA x cs)(J:XX x)(sh:List ah)(N:qD l lT sh): ∃K,ae pE 133 [.ptr .S 2 1 0,.i .i64 scope,.i .i64 (l.length:Int),.agg cs,.i .i64 r] sh=some (.i .i64 (G2 l scope x r),K)∧qD l lT K:=by
 obtain⟨kn,rfl,O⟩:=N
 obtain⟨F,D,H,_⟩:=X3 l lT cl hl hcl hlen l.length (Nat.le_refl _) (fun j U=>X4 l lT cl hl hcl hlen tJ j U) scope x cs hx J.1 J.2 kn O
 have V:Rq l l.length scope x=cP l scope x:=by unfold Rq cP FL;rw[List.take_length]
 rw[V]at D
 obtain⟨a,Y,rfl,I,SK⟩:=hx.cells
 rw[au af7 (by simp[KU])]
 unfold G2
 generalize cP l scope x=q at*
 obtain⟨W,X⟩:=q
 simp only at D ⊢
 by_cases h2:X=0
 ·subst h2
  by_cases h1:W=r
  ·subst h1
   simp only[qA,seval,dx,KU,D,H0,I.kept1]
   exact⟨_,rfl,F,rfl,H⟩
  ·simp only[qA,seval,dx,KU,D,H0,I.kept1,h1]
   exact⟨_,rfl,F,rfl,H⟩
 ·simp only[qA,seval,dx,KU,D,H0,I.kept1,h2]
  exact⟨_,rfl,F,rfl,H⟩
end
section
variable(c:Ct)(a7 a8 a9 aw aA az:T)(hT:mG c a7 a8 a9 aw aA az)(hS:vq c)
include hT hS
theorem aCS(I:ah)(fr:Fr)(lh:aD ah)(sh:List ah)(ft:qD c.cs a7 sh)
  (h4:aa fr 4= .ptr .S 2 1 0) (J:aa fr 31=a7) (U:aa fr 32= .i .i64 (c.cs.length:Int)) (Bs:aa fr 33= .i .i64 0) (D:ab lh 1=I):
  pG pE 115 zY fr lh sh 0 2 (L1 c.cs 0 c.cs) (fun r F=>ab r 1=I∧qD c.cs a7 F):=by
 obtain⟨c7,V,W⟩:=hT.h7
 have hlen:=hS.s7.2
 refine bX HG (fun k f r F=>aa f 33= .i .i64 (k:Int)∧ab r 1=I∧qD c.cs a7 F∧L1 c.cs 0 c.cs=L1 c.cs k (c.cs.drop k)) c.cs.length ⟨Bs,D,ft,rfl⟩ ?_ ?_
 ·rintro k f r _ hk H ⟨K,D,⟨kn,rfl,X⟩,hr⟩
  have N:(k:Int)<c.cs.length:=yv
  have hw:=be (k:=k) yv
  rw[List.drop_eq_getElem_cons hk,L1]at hr
  obtain⟨b,cb,rr,O,fL,rP,hb⟩:=fZ V W k hk
  obtain⟨Y,Z,jf,_⟩:=X4 c.cs a7 c7 V W hlen hS.s7.1 k hk kn X
  obtain⟨G,hG⟩: ∃G,(ab r 6).g+1=G:=⟨_,rfl⟩
  have hD:=aCR c.cs[k].1 [.i .i64 c.cs[k].2.op,.i .i64 c.cs[k].2.num,.s c.cs[k].2.name,b] G
  have h1:qD c.cs a7 (tK a7 (bH c.cs c.cs.length) kn):=⟨kn,rfl,X⟩
  have h2:qD c.cs a7 (tK a7 (bH c.cs c.cs.length) Y):=⟨Y,rfl,jf⟩
  simp only[qB,seval,gd,dx,zY,H,h4,J,U,K,D,N,O,hw,hG,hD,HF,Z,af6,h1,h2]
  clear H hD Z
  grind
 ·rintro f r F H ⟨K,D,h,hr⟩
  simp only[qB,seval,gd,zY,H,U,K,D,h,Int.lt_irrefl,hr,List.drop_length,L1]
end
section
variable(c:Ct)(a7 a8 a9 aw aA az:T)(hT:mG c a7 a8 a9 aw aA az)(hS:vq c)
include hT hS
theorem aCT(I:ah)(fr:Fr)(lh:aD ah)(sh:List ah)(V:qD c.cs a7 sh)
  (h4:aa fr 4= .ptr .S 2 1 0) (J:aa fr 12= .i .i64 (c.cs.length:Int)) (hs:aa fr 65=a8) (hl:aa fr 66= .i .i64 (c.ru.length:Int)) (hi:aa fr 67= .i .i64 0) (D:ab lh 1=I):
  pG pE 115 zW fr lh sh 4 2 (I9 c.cs c.ru) (fun F r=>ab F 1=I∧qD c.cs a7 r):=by
 obtain⟨c7,W,X⟩:=hT.h7
 obtain⟨c8,Y,Z⟩:=hT.h8
 have hlen:=hS.s8.2
 refine bX HE (fun k f F r=>aa f 67= .i .i64 (k:Int)∧ab F 1=I∧qD c.cs a7 r∧I9 c.cs c.ru=I9 c.cs (c.ru.drop k)) c.ru.length ⟨hi,D,V,rfl⟩ ?_ ?_
 ·rintro k f F r hk H ⟨K,D,sw,hr⟩
  have N:(k:Int)<c.ru.length:=yv
  have hw:=be (k:=k) yv
  rw[List.drop_eq_getElem_cons hk,I9]at hr
  obtain⟨b,cb,rr,O,fL,hb⟩:=Bp Y Z k hk
  obtain⟨sh2,U,GX⟩:=FJ c.cs a7 c7 W X hS.s7.2 hS.s7.1 c.ru[k].sc 4 c.ru[k].x _ hb (hS.s8.1 c.ru[k] (List.getElem_mem hk)) r sw
  simp only[qB,seval,gd,dx,zW,H,h4,J,hs,hl,K,D,N,O,hw,fL.kept1,U,UK,GX]
  clear H U
  grind
 ·rintro f F r H ⟨K,D,h,hr⟩
  simp only[qB,seval,gd,zW,H,hl,K,D,h,Int.lt_irrefl,hr,List.drop_length,I9]
theorem aCU(I:ah)(fr:Fr)(lh:aD ah)(sh:List ah)(V:qD c.cs a7 sh)
  (h4:aa fr 4= .ptr .S 2 1 0) (J:aa fr 12= .i .i64 (c.cs.length:Int)) (hs:aa fr 83=a9) (hl:aa fr 84= .i .i64 (c.co.length:Int)) (hi:aa fr 85= .i .i64 0) (D:ab lh 1=I):
  pG pE 115 zV fr lh sh 6 2 (Ja c.cs c.co) (fun F r=>ab F 1=I∧qD c.cs a7 r):=by
 obtain⟨c7,W,X⟩:=hT.h7
 obtain⟨c8,Y,Z⟩:=hT.h9
 have hlen:=hS.s9.2
 refine bX HD (fun k f F r=>aa f 85= .i .i64 (k:Int)∧ab F 1=I∧qD c.cs a7 r∧Ja c.cs c.co=Ja c.cs (c.co.drop k)) c.co.length ⟨hi,D,V,rfl⟩ ?_ ?_
 ·rintro k f F r hk H ⟨K,D,sw,hr⟩
  have N:(k:Int)<c.co.length:=yv
  have hw:=be (k:=k) yv
  rw[List.drop_eq_getElem_cons hk,Ja]at hr
  obtain⟨b,cb,rr,O,fL,hb⟩:=DY Y Z k hk
  obtain⟨sh2,U,GX⟩:=FJ c.cs a7 c7 W X hS.s7.2 hS.s7.1 c.co[k].sc 1 c.co[k].x _ hb (hS.s9.1 c.co[k] (List.getElem_mem hk)) r sw
  simp only[qB,seval,gd,dx,zV,H,h4,J,hs,hl,K,D,N,O,hw,fL.kept1,U,UK,GX]
  clear H U
  grind
 ·rintro f F r H ⟨K,D,h,hr⟩
  simp only[qB,seval,gd,zV,H,hl,K,D,h,Int.lt_irrefl,hr,List.drop_length,Ja]
theorem aCV(I:ah)(fr:Fr)(lh:aD ah)(sh:List ah)(V:qD c.cs a7 sh)
  (h4:aa fr 4= .ptr .S 2 1 0) (J:aa fr 12= .i .i64 (c.cs.length:Int)) (hs:aa fr 101=aw) (hl:aa fr 102= .i .i64 (c.cr.length:Int)) (hi:aa fr 103= .i .i64 0) (D:ab lh 1=I):
  pG pE 115 zU fr lh sh 8 2 (KH c.cs c.cr) (fun F r=>ab F 1=I∧qD c.cs a7 r):=by
 obtain⟨c7,W,X⟩:=hT.h7
 obtain⟨c8,Y,Z⟩:=hT.h10
 have hlen:=hS.s10.2
 refine bX HC (fun k f F r=>aa f 103= .i .i64 (k:Int)∧ab F 1=I∧qD c.cs a7 r∧KH c.cs c.cr=KH c.cs (c.cr.drop k)) c.cr.length ⟨hi,D,V,rfl⟩ ?_ ?_
 ·rintro k f F r hk H ⟨K,D,sw,hr⟩
  have N:(k:Int)<c.cr.length:=yv
  have hw:=be (k:=k) yv
  rw[List.drop_eq_getElem_cons hk,KH]at hr
  obtain⟨b,cb,rr,O,fL,rP,hb⟩:=oZ Y Z k hk
  obtain⟨sh2,U,GX⟩:=FJ c.cs a7 c7 W X hS.s7.2 hS.s7.1 1 2 c.cr[k] _ hb (hS.s10.1 c.cr[k] (List.getElem_mem hk)) r sw
  simp only[qB,seval,gd,dx,zU,H,h4,J,hs,hl,K,D,N,O,hw,fL.kept1,U,UK,GX]
  clear H U
  grind
 ·rintro f F r H ⟨K,D,h,hr⟩
  simp only[qB,seval,gd,zU,H,hl,K,D,h,Int.lt_irrefl,hr,List.drop_length,KH]
theorem adW: ∃s,ae pE 71 [.agg (aY c a7 a8 a9 aw aA az)] []=some (.i .i64 (fi c),s):=by
 have r:=X1 c a7 a8 a9 aw aA az hT hS
 have H:=aCS c a7 a8 a9 aw aA az hT hS ⟨1,.cells (aY c a7 a8 a9 aw aA az) 0 true⟩
 have I:=aCT c a7 a8 a9 aw aA az hT hS ⟨1,.cells (aY c a7 a8 a9 aw aA az) 0 true⟩
 have J:=aCU c a7 a8 a9 aw aA az hT hS ⟨1,.cells (aY c a7 a8 a9 aw aA az) 0 true⟩
 have K:=aCV c a7 a8 a9 aw aA az hT hS ⟨1,.cells (aY c a7 a8 a9 aw aA az) 0 true⟩
 obtain⟨⟨c7,F,Y⟩,⟨c8,V,Z⟩,⟨c9,W,j9⟩,⟨wh,D,yD⟩,⟨yS,N,Ch⟩,⟨Ce,O,D1⟩⟩:=hT
 have X:=alA c.cs a7 c7 F Y hS.s7.2
 have U:qD c.cs a7 (tK a7 (bH c.cs c.cs.length) []):=⟨[],rfl,fun i t h=>by cases h⟩
 unfold aY at H I J K r ⊢
 rw[au asZ (by simp[c71])]
 unfold fi
 simp(maxDischargeDepth:=8) only[qB,seval,dx,c71,HC,HD,HE,HG,F.lenI,V.lenI,W.lenI,D.lenI,F.kept,F.froz1,V.froz1,W.froz1,D.froz1,N.froz1,O.froz1,r,atA,X,atD,U,H,I,J,K,aCd,LU]
 clear H I J K r X
 grind (splits:=30)
end
theorem aCW(s:List Nat)(fr:Fr)(lh:aD ah)(sh:List ah)(K:aa fr 0= .s s)(N:aa fr 3= .i .i64 1):
  LpC pE 18 ub fr lh sh 0 2 (¬SJ s) (.b true) (fun F H=>F=lh∧H=sh):=by
 refine m8 PT (by simp[aQ]) (fun j f F H=>aa f 3= .i .i64 ((j:Int)+1)∧F=lh∧H=sh∧adV s j) 3 ⟨N,rfl,rfl,fun i h=>by omega⟩ ?_ ?_
 ·rintro j f _ _ V r ⟨D,rfl,rfl,t⟩
  have I:=I2 ((j:Int)+1) s
  unfold qz at I
  have J:(j:Int)+1≤3:=yv
  have O:wr .i64 ((j:Int)+1+1)=((j+1:Nat):Int)+1:=bj yv
  have hc:j=0∨j=1∨j=2:=yv
  by_cases U:dB ((j:Int)+1) s=0 <;> simp only[qB,seval,gd,ub,r,K,D,J,O,I,U,Dt] <;> clear r I <;> grind [adV,SJ]
 ·rintro f _ _ r ⟨D,rfl,rfl,t⟩
  rw[show((3:Nat):Int)+1=4 from rfl]at D
  have a:=t 0 xW
  have b:=t 1 xW
  have c:=t 2 xW
  simp only[qB,seval,gd,ub,r,D]
  grind [SJ]
theorem Rr(s:List Nat):ae pE 166 [.s s] []=some (.b (decide (SJ s)),[]):=by
 have r:=aCW s
 rw[au agt (by simp[TH])]
 by_cases h:SJ s <;> simp only[qB,seval,TH,r,h]
section
variable(c:Ct)(a7 a8 a9 aw aA az:T)(hT:mG c a7 a8 a9 aw aA az)(hS:vq c)
include hT hS
theorem FM(scope r:Int)(x:Ex)(cs:List T)(hx:jA x cs)(J:(scope,x)∈DX):ae pE 167 [.agg (aY c a7 a8 a9 aw aA az),.i .i64 scope,.agg cs,.i .i64 r] []=some (.i .i64 (G2 c.cs scope x r),[]):=by
 obtain⟨c7,H,K⟩:=hT.h7
 obtain⟨j,N,I⟩:=hS.b7
 obtain⟨e,F,_⟩:=Oe I H K
 have D:=aCj e j N _ J
 rw[←F,←I,←show cs=jJ x from hx]at D
 obtain⟨a,U,rfl,O,SK⟩:=hx.cells
 rw[au UW (by simp[TI])]
 unfold G2 aY
 simp only[qB,seval,TI,D,afK,O.froz1,H.froz]
 grind
theorem aCX(fr:Fr)(lh:aD ah)(sh:List ah)(h1:aa fr 1= .ptr .L 1 1 0)(hi:aa fr 4= .i .i64 0)(r:ab lh 1=⟨1,.cells (aY c a7 a8 a9 aw aA az) 0 true⟩):
  pG pE 114 Ag fr lh sh 0 2 (L1 c.cs 0 c.cs) (fun H K=>ab H 1=⟨1,.cells (aY c a7 a8 a9 aw aA az) 0 true⟩∧K=sh):=by
 obtain⟨c7,N,X⟩:=hT.h7
 have hlen:=hS.s7.2
 have tJ:=hS.s7.1
 refine bX HQ (fun k f H K=>aa f 4= .i .i64 (k:Int)∧ab H 1=⟨1,.cells (aY c a7 a8 a9 aw aA az) 0 true⟩∧K=sh∧L1 c.cs 0 c.cs=L1 c.cs k (c.cs.drop k)) c.cs.length ⟨hi,r,rfl,rfl⟩ ?_ ?_
 ·rintro k f H _ hk J ⟨O,r,rfl,hr⟩
  have U:(k:Int)<c.cs.length:=yv
  have D:k≤c.cs.length:=Nat.le_of_lt hk
  have Y:=be (k:=k) yv
  rw[List.drop_eq_getElem_cons hk,L1]at hr
  obtain⟨b,cb,rr,V,Z,rP,hb⟩:=fZ N X k hk
  obtain⟨yl,hss⟩:=tJ c.cs[k] (List.getElem_mem hk)
  have jj:=Rr c.cs[k].1
  obtain⟨ex,rfl,sw,GX,W⟩:=adX c.cs a7 c7 hk N X
  have hlt:(c.cs.take k).length=k:=by rw[List.length_take,Nat.min_eq_left D]
  have F:ae pE 102 [.sl (List.take (k*5) c7) k (ex&&decide (k=c.cs.length)),.i .i64 0,.agg [.i .i64 c.cs[k].2.op,.i .i64 c.cs[k].2.num,.s c.cs[k].2.name,b]] []=some (.tup [.i .i64 (cP (c.cs.take k) 0 c.cs[k].2).1,.i .i64 (cP (c.cs.take k) 0 c.cs[k].2).2],[]):=by
   obtain⟨j,hj,I⟩:=hS.b7
   have yF:k=0:=by rw[I]at hk;simpa[rO]using hk
   subst yF
   have hx:c.cs[0].2=pV j:=by simp[I,rO]
   rw[show [T.i .i64 c.cs[0].2.op,.i .i64 c.cs[0].2.num,.s c.cs[0].2.name,b]=jJ c.cs[0].2 from hb,hx]
   exact tyc _ j (j3 hj)
  rw[L2 c.cs D,←FN c.cs hk]at F
  unfold aY at r ⊢
  by_cases hs:SJ c.cs[k].1 <;> simp only[qB,seval,gd,te,bp,aH,Ag,J,h1,O,r,U,V,Z.froz1,jj,hs,atP,Y,D,W,Nat.sub_zero,F,afK,atk] <;> clear J F <;> grind
 ·rintro f H _ J ⟨O,r,rfl,hr⟩
  unfold aY at r ⊢
  simp only[qB,seval,gd,Ag,J,h1,O,r,N.lenI,Int.lt_irrefl,hr,List.drop_length,L1]
theorem aCZ(fr:Fr)(lh:aD ah)(sh:List ah)(h1:aa fr 1= .ptr .L 1 1 0)(hi:aa fr 7= .i .i64 0)(r:ab lh 1=⟨1,.cells (aY c a7 a8 a9 aw aA az) 0 true⟩):
  pG pE 114 Af fr lh sh 2 2 (I9 c.cs c.ru) (fun D I=>ab D 1=⟨1,.cells (aY c a7 a8 a9 aw aA az) 0 true⟩∧I=sh):=by
 have J:=hT
 obtain⟨⟨c7,Y,j7⟩,⟨c8,H,Z⟩,⟨c9,i9,j9⟩,⟨wh,K,yD⟩,⟨yS,N,Ch⟩,⟨Ce,O,D1⟩⟩:=hT
 have hlen:=hS.s8.2
 refine bX HO (fun k f D I=>aa f 7= .i .i64 (k:Int)∧ab D 1=⟨1,.cells (aY c a7 a8 a9 aw aA az) 0 true⟩∧I=sh∧I9 c.cs c.ru=I9 c.cs (c.ru.drop k)) c.ru.length ⟨hi,r,rfl,rfl⟩ ?_ ?_
 ·rintro k f D _ hk U ⟨V,r,rfl,hr⟩
  have W:(k:Int)<c.ru.length:=yv
  have hw:=be (k:=k) yv
  rw[List.drop_eq_getElem_cons hk,I9]at hr
  obtain⟨b,cb,rr,X,fL,hb⟩:=Bp H Z k hk
  have F:=FM c a7 a8 a9 aw aA az J hS c.ru[k].sc 4 c.ru[k].x _ hb (hS.b8 c.ru[k] (List.getElem_mem hk))
  unfold aY at r F ⊢
  simp only[qB,seval,gd,bp,aH,Af,U,h1,V,r,H.lenI,W,X,fL.froz1,Y.froz1,H.froz1,i9.froz1,K.froz1,N.froz1,O.froz1,F,UX,UY,hw]
  grind
 ·rintro f D _ U ⟨V,r,rfl,hr⟩
  unfold aY at r ⊢
  simp only[qB,seval,gd,Af,U,h1,V,r,H.lenI,Int.lt_irrefl,hr,List.drop_length,I9]
theorem aC0(fr:Fr)(lh:aD ah)(sh:List ah)(h1:aa fr 1= .ptr .L 1 1 0)(hi:aa fr 9= .i .i64 0)(r:ab lh 1=⟨1,.cells (aY c a7 a8 a9 aw aA az) 0 true⟩):
  pG pE 114 Ae fr lh sh 4 2 (Ja c.cs c.co) (fun D I=>ab D 1=⟨1,.cells (aY c a7 a8 a9 aw aA az) 0 true⟩∧I=sh):=by
 have J:=hT
 obtain⟨⟨c7,Y,j7⟩,⟨c8,Z,j8⟩,⟨c9,H,j9⟩,⟨wh,K,yD⟩,⟨yS,N,Ch⟩,⟨Ce,O,D1⟩⟩:=hT
 have hlen:=hS.s9.2
 refine bX HN (fun k f D I=>aa f 9= .i .i64 (k:Int)∧ab D 1=⟨1,.cells (aY c a7 a8 a9 aw aA az) 0 true⟩∧I=sh∧Ja c.cs c.co=Ja c.cs (c.co.drop k)) c.co.length ⟨hi,r,rfl,rfl⟩ ?_ ?_
 ·rintro k f D _ hk U ⟨V,r,rfl,hr⟩
  have W:(k:Int)<c.co.length:=yv
  have hw:=be (k:=k) yv
  rw[List.drop_eq_getElem_cons hk,Ja]at hr
  obtain⟨b,cb,rr,X,fL,hb⟩:=DY H j9 k hk
  have F:=FM c a7 a8 a9 aw aA az J hS c.co[k].sc 1 c.co[k].x _ hb (hS.b9 c.co[k] (List.getElem_mem hk))
  unfold aY at r F ⊢
  simp only[qB,seval,gd,bp,aH,Ae,U,h1,V,r,H.lenI,W,X,fL.froz1,Y.froz1,Z.froz1,H.froz1,K.froz1,N.froz1,O.froz1,F,UX,UY,hw]
  grind
 ·rintro f D _ U ⟨V,r,rfl,hr⟩
  unfold aY at r ⊢
  simp only[qB,seval,gd,Ae,U,h1,V,r,H.lenI,Int.lt_irrefl,hr,List.drop_length,Ja]
theorem aC1(fr:Fr)(lh:aD ah)(sh:List ah)(h1:aa fr 1= .ptr .L 1 1 0)(hi:aa fr 11= .i .i64 0)(D:ab lh 1=⟨1,.cells (aY c a7 a8 a9 aw aA az) 0 true⟩):
  pG pE 114 Ad fr lh sh 6 2 (KH c.cs c.cr) (fun F I=>ab F 1=⟨1,.cells (aY c a7 a8 a9 aw aA az) 0 true⟩∧I=sh):=by
 have J:=hT
 obtain⟨⟨c7,X,j7⟩,⟨c8,Y,j8⟩,⟨c9,Z,j9⟩,⟨wh,r,yD⟩,⟨yS,K,Ch⟩,⟨Ce,N,D1⟩⟩:=hT
 have hlen:=hS.s10.2
 refine bX HM (fun k f F I=>aa f 11= .i .i64 (k:Int)∧ab F 1=⟨1,.cells (aY c a7 a8 a9 aw aA az) 0 true⟩∧I=sh∧KH c.cs c.cr=KH c.cs (c.cr.drop k)) c.cr.length ⟨hi,D,rfl,rfl⟩ ?_ ?_
 ·rintro k f F _ hk O ⟨U,D,rfl,hr⟩
  have V:(k:Int)<c.cr.length:=yv
  have hw:=be (k:=k) yv
  rw[List.drop_eq_getElem_cons hk,KH]at hr
  obtain⟨b,cb,rr,W,fL,rP,hb⟩:=oZ r yD k hk
  have H:=FM c a7 a8 a9 aw aA az J hS 1 2 c.cr[k] _ hb (hS.b10 c.cr[k] (List.getElem_mem hk))
  unfold aY at D H ⊢
  simp only[qB,seval,gd,bp,aH,Ad,O,h1,U,D,r.lenI,V,W,fL.froz1,X.froz1,Y.froz1,Z.froz1,r.froz1,K.froz1,N.froz1,H,UX,UY,hw]
  grind
 ·rintro f F _ O ⟨U,D,rfl,hr⟩
  unfold aY at D ⊢
  simp only[qB,seval,gd,Ad,O,h1,U,D,r.lenI,Int.lt_irrefl,hr,List.drop_length,KH]
theorem Rs:ae pE 93 [.agg (aY c a7 a8 a9 aw aA az)] []=some (.i .i64 (fi c),[]):=by
 have r:=I8 c a7 a8 a9 aw aA az hT hS
 have I:=aCX c a7 a8 a9 aw aA az hT hS
 have J:=aCZ c a7 a8 a9 aw aA az hT hS
 have K:=aC0 c a7 a8 a9 aw aA az hT hS
 have N:=aC1 c a7 a8 a9 aw aA az hT hS
 obtain⟨⟨c7,O,W⟩,⟨c8,U,X⟩,⟨c9,V,Y⟩,⟨wh,D,Z⟩,⟨yS,F,Ch⟩,⟨Ce,H,D1⟩⟩:=hT
 unfold aY at I J K N r ⊢
 rw[au ajH (by simp[c93])]
 unfold fi
 simp(maxDischargeDepth:=8) only[qB,seval,c93,HM,HN,HO,HQ,O.froz1,U.froz1,V.froz1,D.froz1,F.froz1,H.froz1,r,afR,I,J,K,N]
 grind
end
def qE(n:Int):Bool:=decide (-840≤n)&&decide (n≤840)
def nQ(n:Int):Bool:=decide (0≤n)&&decide (n<52596000)
theorem Oi(n:Int):ae pE 208 [.i .i64 n] []=some (.b (qE n),[]):=by
 rw[au agT (by simp[TZ])]
 unfold qE
 by_cases h: -840≤n <;> simp only[qA,seval,TZ,h]
theorem Oj(n:Int):ae pE 234 [.i .i64 n] []=some (.b (qE n),[]):=by
 rw[au ahd (by simp[Ub])]
 unfold qE
 by_cases h: -840≤n <;> simp only[qA,seval,Ub,h]
theorem Ok(n:Int):ae pE 209 [.i .i64 n] []=some (.b (nQ n),[]):=by
 rw[au agU (by simp[T1])]
 unfold nQ
 by_cases h:0≤n <;> simp only[qA,seval,T1,h]
theorem Ol(n:Int):ae pE 235 [.i .i64 n] []=some (.b (nQ n),[]):=by
 rw[au ahe (by simp[Uc])]
 unfold nQ
 by_cases h:0≤n <;> simp only[qA,seval,Uc,h]
structure Zo where
 nm:List Nat
 o:Int
 sh:List (Int×Int)
def SL(s:Int×Int)(c:List T):Prop:=c= [.i .i64 s.1,.i .i64 s.2]
theorem SL.len(s:Int×Int)(c:List T)(h:SL s c):c.length=2:=by rw[h];rfl
def CT(D:Option Int):List (Int×Int)→Int
 | []=>0
 |s::r=>if(nQ s.1&&qE s.2)=false then 5 else if(match D with|some p=>decide (s.1≤p)|none=>false)=true then 8 else CT (some s.1) r
def qG(l:List (Int×Int))(k:Nat):Option Int:=if k=0 then none else(l[k-1]?).map (·.1)
theorem X6{l:List (Int×Int)}{k:Nat}(hk:k<l.length):CT (qG l k) (l.drop k)=if(nQ l[k].1&&qE l[k].2)=false then 5 else if(match qG l k with|some p=>decide (l[k].1≤p)|none=>false)=true then 8 else CT (qG l (k+1)) (l.drop (k+1)):=by
 have e:qG l (k+1)=some l[k].1:=by unfold qG;rw[if_neg yv,Nat.add_sub_cancel,List.getElem?_eq_getElem hk];rfl
 rw[List.drop_eq_getElem_cons hk,e]
 conv=>lhs;unfold CT
theorem D2{l:List (Int×Int)}{k:Nat}(h0:0<k)(hk:k-1<l.length):qG l k=some l[k-1].1:=by
 unfold qG;rw[if_neg yv,List.getElem?_eq_getElem hk];rfl
theorem iY{k:Nat}(h0:0<k)(h:k<4611686018427387904):wr .i64 ((k:Int)-1)=((k-1:Nat):Int):=by rw[bj yv];omega
def gv(z:Zo):Int:=if ji z.nm=false then 1 else if qE z.o=false then 5 else if 16<z.sh.length then 10 else CT none z.sh
theorem Bt{l:List (Int×Int)}{a:T}{D:List T}(F:IsSl a l.length D)(hc:aB SL l D){k:Nat}(hk:k<l.length): ∃r,∀kk,iaV a (.i kk (k:Int)) 2=some (.vp (.i .i64 l[k].1:: .i .i64 l[k].2::r)):=by
 obtain⟨c,r,h1,h2⟩:=jK (k:=2) SL.len F hc k hk
 rw[SL]at h2
 subst h2
 exact⟨r,h1⟩
theorem aC2(z:Zo)(a:T)(U:List T)(V:IsSl a z.sh.length U)(hc:aB SL z.sh U)(hlen:z.sh.length≤16)(fr:Fr)(lh:aD ah)(sh:List ah)
  (h1:aa fr 1= .ptr .L 1 1 0) (W:aa fr 18=a) (Bu:aa fr 19= .i .i64 (z.sh.length:Int)) (K:aa fr 20= .i .i64 0) (D:ab lh 1=⟨1,.cells [.s z.nm,.i .i64 z.o,a] 0 true⟩):
  pG pE 50 qV fr lh sh 0 2 (CT none z.sh) (fun I N=>N=sh):=by
 refine bX PD (fun k f I N=>aa f 20= .i .i64 (k:Int)∧ab I 1=⟨1,.cells [.s z.nm,.i .i64 z.o,a] 0 true⟩∧N=sh∧CT none z.sh=CT (qG z.sh k) (z.sh.drop k)) z.sh.length ⟨K,D,rfl,rfl⟩ ?_ ?_
 ·rintro k f I _ hk r ⟨J,D,rfl,hr⟩
  rw[X6 hk]at hr
  have F:(k:Int)<z.sh.length:=yv
  have X:=aG (k:=k) yv
  obtain⟨rr,H⟩:=Bt V hc hk
  have Y:=cG (Ok z.sh[k].1)
  have Z:=cG (Oi z.sh[k].2)
  by_cases yF:k=0
  ·have O: ¬(0:Int)<k:=yv
   have hp:qG z.sh k=none:=by rw[yF];rfl
   simp only[qB,seval,gd,qV,r,W,Bu,J,D,F,H,Y,Z,O,X,Vc,Nh]
   clear r
   grind
  ·have O:(0:Int)<k:=yv
   have zi:=iY (k:=k) yv yv
   obtain⟨r2,KI⟩:=Bt V hc (k:=k-1) yv
   have hp:=D2 (l:=z.sh) (k:=k) yv yv
   simp only[qB,seval,gd,qV,r,h1,W,Bu,J,D,F,H,Y,Z,O,X,zi,KI,Vc,Nh]
   clear r
   grind
 ·rintro f I _ r ⟨J,D,rfl,hr⟩
  simp only[qB,seval,gd,qV,r,Bu,J,Int.lt_irrefl,hr,List.drop_length,CT]
theorem Bv(z:Zo)(a:T)(r:List T)(D:IsSl a z.sh.length r)(hc:aB SL z.sh r):ae pE 126 [.agg [.s z.nm,.i .i64 z.o,a]] []=some (.i .i64 (gv z),[]):=by
 rw[au afY (by simp[PE])]
 have F:=cG (ve z.nm)
 have H:=cG (Oi z.o)
 unfold gv
 by_cases hl:z.sh.length≤16
 ·have I:=aC2 z a r D hc hl
  simp only[qB,seval,PE,F,H,D.lenI,I,Qk,Nh]
  grind
 ·simp only[qB,seval,PE,F,H,D.lenI,Qk,Nh]
  grind
theorem aC3(z:Zo)(a:T)(V:List T)(F:IsSl a z.sh.length V)(hc:aB SL z.sh V)(hlen:z.sh.length≤16)(fr:Fr)(lh:aD ah)(sh:List ah)
  (h1:aa fr 1= .ptr .L 1 1 0) (N:aa fr 3= .i .i64 0) (r:ab lh 1=⟨1,.cells [.s z.nm,.i .i64 z.o,a] 0 true⟩):
  pG pE 59 qY fr lh sh 0 2 (CT none z.sh) (fun J O=>O=sh):=by
 refine bX PM (fun k f J O=>aa f 3= .i .i64 (k:Int)∧ab J 1=⟨1,.cells [.s z.nm,.i .i64 z.o,a] 0 true⟩∧O=sh∧CT none z.sh=CT (qG z.sh k) (z.sh.drop k)) z.sh.length ⟨N,r,rfl,rfl⟩ ?_ ?_
 ·rintro k f J _ hk D ⟨K,r,rfl,hr⟩
  rw[X6 hk]at hr
  have H:(k:Int)<z.sh.length:=yv
  have W:=aG (k:=k) yv
  obtain⟨rr,I⟩:=Bt F hc hk
  have X:=cG (Ol z.sh[k].1)
  have Y:=cG (Oj z.sh[k].2)
  by_cases Z:k=0
  ·have U: ¬(0:Int)<k:=yv
   have hp:qG z.sh k=none:=by rw[Z];rfl
   simp only[qB,seval,gd,qY,D,h1,F.lenI,K,r,H,I,X,Y,U,W,Vf,Nj]
   clear D
   grind
  ·have U:(0:Int)<k:=yv
   have zi:=iY (k:=k) yv yv
   obtain⟨r2,KI⟩:=Bt F hc (k:=k-1) yv
   have hp:=D2 (l:=z.sh) (k:=k) yv yv
   simp only[qB,seval,gd,qY,D,h1,F.lenI,K,r,H,I,X,Y,U,W,zi,KI,Vf,Nj]
   clear D
   grind
 ·rintro f J _ D ⟨K,r,rfl,hr⟩
  simp only[qB,seval,gd,qY,D,h1,F.lenI,K,r,Int.lt_irrefl,hr,List.drop_length,CT]
theorem Bw(z:Zo)(a:T)(r:List T)(D:IsSl a z.sh.length r)(hc:aB SL z.sh r):ae pE 161 [.agg [.s z.nm,.i .i64 z.o,a]] []=some (.i .i64 (gv z),[]):=by
 rw[au agp (by simp[PN])]
 have F:=cG (Bk z.nm)
 have H:=cG (Oj z.o)
 unfold gv
 by_cases hl:z.sh.length≤16
 ·have I:=aC3 z a r D hc hl
  simp only[qB,seval,PN,F,H,D.lenI,I,UC,Nj]
  grind
 ·simp only[qB,seval,PN,F,H,D.lenI,UC,Nj]
  grind
def G3(c:Nat):Prop:=(65:Int)≤c∧(c:Int)≤90
instance (c:Nat):Decidable (G3 c):=by unfold G3;infer_instance
def FO(c:Nat):Bool:=decide (G3 c∨FD c)
def D3(s:List Nat):Bool:=decide (1≤s.length)&&(decide (s.length≤8)&&s.all FO)
def CU(s:List Nat):Bool:=decide (s.length=3)&&s.all fun c=>decide (G3 c)
structure Ap where
 cd:List Nat
 zn:List Nat
structure Fl where
 nu:List Nat
 fr:List Nat
 to:List Nat
 dp:Int
 ar:Int
 ty:List Nat
 n0:Int
 n1:Int
 n2:Int
structure Tt where
 zo:List Zo
 ap:List Ap
 fl:List Fl
def Ci(z:Zo)(c:List T):Prop:= ∃a r,c= [.s z.nm,.i .i64 z.o,a]∧IsSl a z.sh.length r∧aB SL z.sh r
def L3(u:Ap)(c:List T):Prop:=c= [.s u.cd,.s u.zn]
def ti(f:Fl):List T:= [.s f.nu,.s f.fr,.s f.to,.i .i64 f.dp,.i .i64 f.ar,.s f.ty,.i .i64 f.n0,.i .i64 f.n1,.i .i64 f.n2]
def SM(f:Fl)(c:List T):Prop:=c=ti f
theorem Ci.len(z:Zo)(c:List T)(h:Ci z c):c.length=3:=by obtain⟨a,r,rfl,_⟩:=h;rfl
theorem L3.len(u:Ap)(c:List T)(h:L3 u c):c.length=2:=by rw[h];rfl
theorem SM.len(f:Fl)(c:List T)(h:SM f c):c.length=9:=by rw[h];rfl
theorem Jb{xs:List Zo}{a:T}{H:List T}(h1:IsSl a xs.length H)(h2:aB Ci xs H)(i:Nat)(hi:i<xs.length): ∃D F r,(∀kk,iaV a (.i kk (i:Int)) 3=some (.vp (.s xs[i].nm:: .i .i64 xs[i].o::D::r)))∧IsSl D xs[i].sh.length F∧aB SL xs[i].sh F:=by
 obtain⟨c,r,e,h⟩:=jK (k:=3) Ci.len h1 h2 i hi
 obtain⟨D,F,rfl,I,J⟩:=h
 exact⟨D,F,r,e,I,J⟩
theorem Jc{xs:List Ap}{a:T}{D:List T}(h1:IsSl a xs.length D)(h2:aB L3 xs D)(i:Nat)(hi:i<xs.length): ∃r,∀kk,iaV a (.i kk (i:Int)) 2=some (.vp (.s xs[i].cd:: .s xs[i].zn::r)):=by
 obtain⟨c,r,e,h⟩:=jK (k:=2) L3.len h1 h2 i hi
 rw[L3]at h
 subst h
 exact⟨r,e⟩
theorem mI{xs:List Fl}{a:T}{D:List T}(h1:IsSl a xs.length D)(h2:aB SM xs D)(i:Nat)(hi:i<xs.length): ∃r,∀kk,iaV a (.i kk (i:Int)) 9=some (.vp (.s xs[i].nu:: .s xs[i].fr:: .s xs[i].to:: .i .i64 xs[i].dp:: .i .i64 xs[i].ar:: .s xs[i].ty:: .i .i64 xs[i].n0:: .i .i64 xs[i].n1:: .i .i64 xs[i].n2::r)):=by
 obtain⟨c,r,e,h⟩:=jK (k:=9) SM.len h1 h2 i hi
 rw[SM]at h
 subst h
 exact⟨r,e⟩
def G5(seen:List (List Nat)):List Zo→Int
 | []=>0
 |z::r=>if gv z≠0 then gv z else if z.nm∈seen then 7 else G5 (seen++ [z.nm]) r
def G6(D seen:List (List Nat)):List Ap→Int
 | []=>0
 |a::r=>if CU a.cd=false then 1 else if a.cd∈seen then 7 else if a.zn∉D then 6 else G6 D (seen++ [a.cd]) r
def pJ(n:Int):Bool:=decide (0≤n)&&decide (n≤8)
def Jd(f:Fl):Bool:=decide (2880≤f.dp)&&(decide (f.ar≤52593120)&&(decide (f.dp<f.ar)&&decide (f.ar-f.dp≤1440)))
def CV(r:List (List Nat))(f:Fl):Int:=
 if D3 f.nu=false then 1 else if ji f.ty=false then 1 else if f.fr∉r then 6 else if f.to∉r then 6 else if f.fr=f.to then 14 else if Jd f=false then 5 else if(pJ f.n0&&(pJ f.n1&&pJ f.n2))=false then 5 else 0
def FQ(f g:Fl):Bool:=if f.dp≠g.dp then decide (f.dp<g.dp)else lessN f.nu g.nu
def Cj(F:List (List Nat))(D:Option Fl):List Fl→Int
 | []=>0
 |f::r=>if CV F f≠0 then CV F f else if(match D with|some p=> !FQ p f|none=>false)=true then 8 else Cj F (some f) r
def Tt.big(t:Tt):Prop:=16<t.zo.length∨64<t.ap.length∨200<t.fl.length
def nR(t:Tt):Int:=
 if 16<t.zo.length then 10 else if 64<t.ap.length then 10 else if 200<t.fl.length then 10 else if G5 [] t.zo≠0 then G5 [] t.zo else if G6 (t.zo.map Zo.nm) [] t.ap≠0 then G6 (t.zo.map Zo.nm) [] t.ap else Cj (t.ap.map Ap.cd) none t.fl
def SN(seen:List (List Nat)):List T:=(seen.map fun x=>(x,true)).map fun p=>sK p.1
def SO(seen:List (List Nat)):List T:=(seen.map fun x=>(x,true)).map fun p=>T.b p.2
theorem Je(seen:List (List Nat))(s:List Nat):iu (.one .str) (SN seen) (SO seen) (.s s) (.b false) false=some (.b (decide (s∈seen))):=FI seen s
theorem X7(seen:List (List Nat))(s:List Nat)(h:s∉seen):lF (.one .str) (.s s) (.b true) (SN seen) (SO seen)=some (SN (seen++ [s]),SO (seen++ [s])):=Bq seen s h
theorem vu{α β:Type}(f:α→β){l:List α}{k:Nat}(hk:k<l.length):(l.take (k+1)).map f=(l.take k).map f++ [f l[k]]:=by rw[List.take_succ_eq_append_getElem hk,List.map_append];rfl
end Go.Proofs.YtnkgnjecmfkcfaaGreat
