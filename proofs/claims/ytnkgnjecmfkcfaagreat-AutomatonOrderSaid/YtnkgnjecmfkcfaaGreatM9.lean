/- Walks of functions of the program and of the reference, and their plain laws, part 9. Conditions: the theorems' own. -/
import Derived.Test.YtnkgnjecmfkcfaaGreatGS
import Derived.Test.YtnkgnjecmfkcfaaGreatM1
import Derived.Test.YtnkgnjecmfkcfaaGreatM5
import Derived.Test.YtnkgnjecmfkcfaaGreatM6
import Derived.Test.YtnkgnjecmfkcfaaGreatM7
import Derived.Test.YtnkgnjecmfkcfaaGreatM8
import Derived.KernelRfl
set_option maxRecDepth 100000
set_option linter.unusedVariables false
set_option linter.unusedSimpArgs false
set_option maxHeartbeats 16000000
namespace Go.Proofs.YtnkgnjecmfkcfaaGreat
open Go Go.Ev
theorem j3{j:Nat}(h:j≤2):j∈ [0,1,2]:=by
 have:j=0∨j=1∨j=2:=zZ
 simpa using this
theorem td4{α:Type}{P:α→Prop}{L:List α}(a: ∀x∈(L.drop 0).take 8,P x)(b: ∀x∈(L.drop 8).take 8,P x)(c: ∀x∈(L.drop 16).take 8,P x)(d: ∀x∈L.drop 24,P x): ∀x∈L,P x:=
 td 8 a (td 8 b (by rw[List.drop_drop];exact td 8 c (by rw[List.drop_drop];exact d)))
theorem aEO(e:Bool)(j:Nat)(r:j≤2): ∀p∈nw,ae pE 102 [vB e j,.i .i64 p.1,.agg (fw p.2)] []=some (.tup [.i .i64 (cg (jL j) p.1 p.2).1,.i .i64 (cg (jL j) p.1 p.2).2],[]):=by
 have:j=0∨j=1∨j=2:=zZ
 rcases this with rfl|rfl|rfl
 ·exact td4 (aEB e) (aEC e) (aED e) (aEE e)
 ·exact td4 (aEF e) (aEG e) (aEH e) (aEI e)
 ·exact td4 (aEJ e) (aEK e) (aEL e) (aEM e)
theorem OM{l:Cs}{lT:T}{cl:List T}{j:Nat}(D:l=jL j)(hl:IsSl lT l.length cl)(hcl:cW l cl): ∃e,lT=vB e j∧cl= .s sN::fw (mL j):=by
 subst D
 unfold jL at hl hcl
 rw[cW]at hcl
 obtain⟨ex,r,rfl,h1,h2⟩:=hcl
 rw[cW]at h2
 subst h2
 rw[show ex=fw (mL j)from h1,List.append_nil]at hl ⊢
 rcases hl with⟨_,h,_⟩|⟨e,rfl⟩
 ·simp at h
 ·exact⟨e,rfl,rfl⟩
theorem Q4(l:Cs)(lT:T)(cl:List T)(hl:IsSl lT l.length cl)(hcl:cW l cl)(r: ∃j,j≤2∧l=jL j):ae pE 56 [lT] []=some (bG l.length (ints (sd l l.length)),[]):=by
 obtain⟨j,D,r⟩:=r
 obtain⟨e,rfl,_⟩:=OM r hl hcl
 subst r
 exact tyv e j (j3 D)
def aC{α:Type}(R:α→List T→Prop):List α→List T→Prop
 | [],cs=>cs= []
 |x::xs,cs=> ∃c r,cs=c++r∧R x c∧aC R xs r
section
variable{α:Type}{R:α→List T→Prop}{k:Nat}
theorem aC.len(D: ∀x c,R x c→c.length=k): ∀{xs:List α} {cs:List T},aC R xs cs→cs.length=xs.length*k
 | [],cs,h=>by grind [aC]
 |x::xs,cs,h=>by
  rw[aC]at h
  obtain⟨c,r,rfl,h1,h2⟩:=h
  rw[List.length_append,D _ _ h1,aC.len D h2,List.length_cons,Nat.add_mul,Nat.one_mul,Nat.add_comm]
theorem aC.drop(D: ∀x c,R x c→c.length=k): ∀{xs:List α} {cs:List T} (i:Nat) (hi:i<xs.length),aC R xs cs→ ∃c r,cs.drop (i*k)=c++r∧R xs[i] c
 | [],cs,i,hi,h=>by simp at hi
 |x::xs,cs,0,hi,h=>by
  grind [aC]
 |x::xs,cs,i+1,hi,h=>by
  rw[aC]at h
  obtain⟨c,r,rfl,h1,h2⟩:=h
  obtain⟨F,H,e,h3⟩:=aC.drop D i (by simpa using hi) h2
  refine⟨F,H, ?_,h3⟩
  have:(i+1)*k=c.length+i*k:=by rw[D _ _ h1,Nat.add_mul,Nat.one_mul,Nat.add_comm]
  grind [List.drop_append,Nat.add_sub_cancel_left,List.drop_eq_nil_of_le]
theorem gJ(D: ∀x c,R x c→c.length=k){xs:List α}{a:T}{F:List T}(h1:IsSl a xs.length F)(h2:aC R xs F)(i:Nat)(hi:i<xs.length): ∃c r,(∀kk,iaV a (.i kk (i:Int)) k=some (.vp (c++r)))∧R xs[i] c:=by
 obtain⟨c,r,e,h3⟩:=aC.drop D i hi h2
 exact⟨c,r,fun kk=>by rw[h1.ia (sz:=k) (aC.len D h2) hi,e],h3⟩
theorem aC.append: ∀{xs D:List α} {c r:List T},aC R xs c→aC R D r→aC R (xs++D) (c++r)
 | [],D,c,r,h1,h2=>by grind [aC]
 |x::xs,D,c,r,h1,h2=>by
  rw[aC]at h1
  obtain⟨F,H,rfl,h3,h4⟩:=h1
  rw[List.append_assoc]
  exact⟨F,H++r,rfl,h3,aC.append h4 h2⟩
theorem aC.one{x:α}{c:List T}(h:R x c):aC R [x] c:=⟨c,[],by simp,h,rfl⟩
end
structure Li where
 nm:List Nat
 me:List Nat
 mo:Int
 da:Int
structure Of where
 nm:List Nat
 ct:Int
 da:Int
def RP(u:Ru)(c:List T):Prop:= ∃a r,c= [.i .i64 u.sc,.s u.nm,.i .i64 u.x.op,.i .i64 u.x.num,.s u.x.name,a]∧IsSl a u.x.args.length r∧gr u.x [.i .i64 u.x.op,.i .i64 u.x.num,.s u.x.name,a]
def ZW(u:Co)(c:List T):Prop:= ∃a r,c= [.i .i64 u.sc,.i .i64 u.x.op,.i .i64 u.x.num,.s u.x.name,a]∧IsSl a u.x.args.length r∧gr u.x [.i .i64 u.x.op,.i .i64 u.x.num,.s u.x.name,a]
def LiR(u:Li)(c:List T):Prop:=c= [.s u.nm,.s u.me,.i .i64 u.mo,.i .i64 u.da]
def OfR(u:Of)(c:List T):Prop:=c= [.s u.nm,.i .i64 u.ct,.i .i64 u.da]
theorem RP.len(u:Ru)(c:List T)(h:RP u c):c.length=6:=by obtain⟨a,r,rfl,_⟩:=h;rfl
theorem ZW.len(u:Co)(c:List T)(h:ZW u c):c.length=5:=by obtain⟨a,r,rfl,_⟩:=h;rfl
theorem LiR.len(u:Li)(c:List T)(h:LiR u c):c.length=4:=by rw[h];rfl
theorem OfR.len(u:Of)(c:List T)(h:OfR u c):c.length=3:=by rw[h];rfl
theorem xP{xs:List Ru}{a:T}{F:List T}(h1:IsSl a xs.length F)(h2:aC RP xs F)(i:Nat)(hi:i<xs.length):
  ∃b D r,(∀kk,iaV a (.i kk (i:Int)) 6=some (.vp (.i .i64 xs[i].sc:: .s xs[i].nm:: .i .i64 xs[i].x.op:: .i .i64 xs[i].x.num:: .s xs[i].x.name::b::r)))∧IsSl b xs[i].x.args.length D∧gr xs[i].x [.i .i64 xs[i].x.op,.i .i64 xs[i].x.num,.s xs[i].x.name,b]:=by
 obtain⟨c,r,h3,b,D,rfl,h4,h5⟩:=gJ RP.len h1 h2 i hi
 exact⟨b,D,r,h3,h4,h5⟩
theorem AY{xs:List Co}{a:T}{F:List T}(h1:IsSl a xs.length F)(h2:aC ZW xs F)(i:Nat)(hi:i<xs.length):
  ∃b D r,(∀kk,iaV a (.i kk (i:Int)) 5=some (.vp (.i .i64 xs[i].sc:: .i .i64 xs[i].x.op:: .i .i64 xs[i].x.num:: .s xs[i].x.name::b::r)))∧IsSl b xs[i].x.args.length D∧gr xs[i].x [.i .i64 xs[i].x.op,.i .i64 xs[i].x.num,.s xs[i].x.name,b]:=by
 obtain⟨c,r,h3,b,D,rfl,h4,h5⟩:=gJ ZW.len h1 h2 i hi
 exact⟨b,D,r,h3,h4,h5⟩
theorem ON{xs:List Li}{a:T}{D:List T}(h1:IsSl a xs.length D)(h2:aC LiR xs D)(i:Nat)(hi:i<xs.length):
  ∃r,∀kk,iaV a (.i kk (i:Int)) 4=some (.vp (.s xs[i].nm:: .s xs[i].me:: .i .i64 xs[i].mo:: .i .i64 xs[i].da::r)):=by
 obtain⟨c,r,h3,h4⟩:=gJ LiR.len h1 h2 i hi
 rw[h4]at h3
 exact⟨r,h3⟩
theorem Zx{xs:List Of}{a:T}{D:List T}(h1:IsSl a xs.length D)(h2:aC OfR xs D)(i:Nat)(hi:i<xs.length):
  ∃r,∀kk,iaV a (.i kk (i:Int)) 3=some (.vp (.s xs[i].nm:: .i .i64 xs[i].ct:: .i .i64 xs[i].da::r)):=by
 obtain⟨c,r,h3,h4⟩:=gJ OfR.len h1 h2 i hi
 rw[h4]at h3
 exact⟨r,h3⟩
structure Ct where
 rp:Int
 rl:Int
 cn:Int
 st:Int
 ly:Int
 nf:Int
 nt:Int
 cs:Cs
 ru:List Ru
 co:List Co
 cr:List Ex
 li:List Li
 fs:List Of
 gu:Int
def jS(n lo hi:Int):Bool:=decide (lo≤n)&&decide (n≤hi)
def Ki(seen:List (List Nat)):Cs→Int
 | []=>0
 |c::l=>if iL c.1=false then 1 else if c.1∈seen then 7 else if bJ c.2≠0 then bJ c.2 else Ki (seen++ [c.1]) l
def Gy(seen:List (Int×List Nat)):List Ru→Int
 | []=>0
 |u::l=>if jS u.sc 1 3=false∨iL u.nm=false then 1 else if(u.sc,u.nm)∈seen then 7 else if bJ u.x≠0 then bJ u.x else Gy (seen++ [(u.sc,u.nm)]) l
def IM:List Co→Int
 | []=>0
 |u::l=>if jS u.sc 1 3=false then 1 else if bJ u.x≠0 then bJ u.x else IM l
def IP:List Ex→Int
 | []=>0
 |x::l=>if bJ x≠0 then bJ x else IP l
def Zy(s:List Nat):Int:=if s= [98,108,111,99,107]∨s= [115,112,97,110]∨s= [110,105,103,104,116]∨s= [99,114,101,100,105,116]then 3 else if s= [108,101,103,115]∨s= [104,101,97,100,115]∨s= [100,117,116,105,101,115]then 2 else 0
def OO(seen:List (List Nat)):List Li→Int
 | []=>0
 |u::l=>if iL u.nm=false then 1 else if u.nm∈seen then 7 else if Zy u.me=0 then 6 else if jS u.mo 0 599999=false∨jS u.da 1 31=false then 5 else OO (seen++ [u.nm]) l
def R9(seen:List (List Nat)):List Of→Int
 | []=>0
 |u::l=>if iL u.nm=false then 1 else if u.nm∈seen then 7 else if jS u.da 1 31=false∨jS u.ct 1 u.da=false then 5 else R9 (seen++ [u.nm]) l
def Zz(c:Ct):Int:=if OO [] c.li≠0 then OO [] c.li else R9 (c.li.map Li.nm) c.fs
def j4(c:Ct):Bool:=jS c.rp 0 1440&&(jS c.rl 0 1440&&(jS c.cn 0 1440&&(jS c.st c.cn 1440&&(jS c.ly 0 10080&&(jS c.nf 0 1439&&(jS c.nt 0 1439&&jS c.gu 0 599999))))))
def kz(c:Ct):Bool:=decide (c.cs.length≤32)&&(decide (c.ru.length≤40)&&(decide (c.co.length≤16)&&(decide (c.cr.length≤1)&&(decide (c.li.length≤16)&&decide (c.fs.length≤16)))))
def fR(c:Ct):Int:=if j4 c=false then 5 else if kz c=false then 10 else if Ki [] c.cs≠0 then Ki [] c.cs else if Gy [] c.ru≠0 then Gy [] c.ru else if IM c.co≠0 then IM c.co else if IP c.cr≠0 then IP c.cr else Zz c
theorem yV(n lo hi:Int):ae pE 211 [.i .i64 n,.i .i64 lo,.i .i64 hi] []=some (.b (jS n lo hi),[]):=by
 rw[av age (by simp[S7])]
 unfold jS
 by_cases h:lo≤n <;> simp only[qA,seval,S7,h]
theorem DX(n:Int):ae pE 214 [.i .i64 n] []=some (.b (jS n 1 3),[]):=by
 rw[av agi (by simp[Ta])]
 simp only[qA,seval,Ta,yV,MJ]
theorem nX{α:Type}[DecidableEq α](s:α): ∀l:List α,aM (l.map fun x=>(x,true)) s=if s∈l then some true else none
 | []=>by simp[aM]
 |a::l=>by
  rw[List.map_cons,aM,nX s l]
  grind
theorem Gj(seen:List (List Nat))(s:List Nat):iq (.one .str) ((seen.map fun x=>(x,true)).map fun p=>sK p.1) ((seen.map fun x=>(x,true)).map fun p=>T.b p.2) (.s s) (.b false) false=some (.b (decide (s∈seen))):=by
 have:=Wz (kT:=sK) (vT:=T.b) EZ (fun _=>rfl) (seen.map fun x=>(x,true)) s (.b false)
 rw[show(T.s s)=sK s from rfl,this,nX]
 grind
theorem BB(seen:List (List Nat))(s:List Nat)(h:s∉seen):lq (.one .str) (.s s) (.b true) ((seen.map fun x=>(x,true)).map fun p=>sK p.1) ((seen.map fun x=>(x,true)).map fun p=>T.b p.2)=some (((seen++ [s]).map fun x=>(x,true)).map (fun p=>sK p.1),((seen++ [s]).map fun x=>(x,true)).map (fun p=>T.b p.2)):=by
 have:=uK (kT:=sK) (vT:=T.b) EZ (seen.map fun x=>(x,true)) s true (by rw[nX,if_neg h])
 rw[show(T.s s)=sK s from rfl,show T.b true=T.b (true)from rfl,this]
 grind
theorem aEP(l:Cs)(a:T)(U:List T)(X:IsSl a l.length U)(hc:cW l U)(hlen:l.length≤iP)(rZ:ZY l)(g:Nat)(fr:Fr)(lh:aE ah)(sh:List ah)
  (h3:aa fr 3= .mp .L 7 g) (V:aa fr 8=a) (K:aa fr 9= .i .i64 (l.length:Int)) (N:aa fr 10= .i .i64 0) (D:ab lh 7=⟨g,.map [] [] false⟩):
  pj pE 32 qD fr lh sh 0 2 (Ki [] l) (fun I O=>O=sh):=by
 refine bV Pl (fun k f I O=>aa f 10= .i .i64 (k:Int)∧ab I 7=⟨g,.map ((((l.take k).map Prod.fst).map fun x=>(x,true)).map fun p=>sK p.1) ((((l.take k).map Prod.fst).map fun x=>(x,true)).map fun p=>T.b p.2) false⟩∧O=sh∧Ki [] l=Ki ((l.take k).map Prod.fst) (l.drop k)) l.length ⟨N,D,rfl,rfl⟩ ?_ ?_
 ·rintro k f I _ hk r ⟨J,D,rfl,hr⟩
  rw[List.drop_eq_getElem_cons hk,Ki]at hr
  have F:(k:Int)<l.length:=zZ
  have Y:=ba (k:=k) zZ
  obtain⟨b,cb,rr,H,eW,te,Z⟩:=fS X hc k hk
  obtain⟨xS,Z8⟩:=rZ l[k] (List.getElem_mem hk)
  have Bp:=cH (rf l[k].1)
  have Ms:=fun z fr lh sh=>nQ (z:=z) (fr:=fr) (lh:=lh) (sh:=sh) l[k].2 _ Z xS Z8
  have W:=Gj ((l.take k).map Prod.fst) l[k].1
  have iI:=BB ((l.take k).map Prod.fst) l[k].1
  have iQ:(l.take (k+1)).map Prod.fst=(l.take k).map Prod.fst++ [l[k].1]:=by rw[List.take_succ_eq_append_getElem hk,List.map_append];rfl
  by_cases hs:l[k].1∈(l.take k).map Prod.fst
  ·simp only[qB,seval,gd,qD,r,h3,V,K,J,D,F,H,Bp,xm,bO,W,hs]
   clear r
   grind
  ·simp only[qB,seval,gd,qD,r,h3,V,K,J,D,F,H,Y,Bp,xm,bO,W,hs,oL,xM,iI hs,Ms,iQ]
   clear r
   grind
 ·rintro f I _ r ⟨J,D,rfl,hr⟩
  simp only[qB,seval,gd,qD,r,K,J,Int.lt_irrefl,hr,List.drop_length,Ki]
theorem am7(l:Cs)(a:T)(r:List T)(D:IsSl a l.length r)(hc:cW l r)(hlen:l.length≤iP)(rZ:ZY l):ae pE 212 [a] []=some (.i .i64 (Ki [] l),[]):=by
 have F:=aEP l a r D hc hlen rZ 1
 rw[av agf (by simp[S8])]
 simp only[qB,seval,S8,D.lenI,F]
 grind
def rK(p:Int×List Nat):T:= .agg [.i .i64 p.1,.s p.2]
theorem ayr(a b:Int×List Nat):rD (.flat [.int,.str]) (rK a) (rK b)=some (decide (a=b)):=by
 unfold rK
 rw[akB]
 congr 1
 by_cases h1:a.1=b.1 <;> by_cases h2:a.2=b.2 <;> simp[h1,h2,Prod.ext_iff]
theorem ZA(seen:List (Int×List Nat))(s:Int×List Nat):iq (.flat [.int,.str]) ((seen.map fun x=>(x,true)).map fun p=>rK p.1) ((seen.map fun x=>(x,true)).map fun p=>T.b p.2) (.agg [.i .i64 s.1,.s s.2]) (.b false) false=some (.b (decide (s∈seen))):=by
 have:=Wz (kT:=rK) (vT:=T.b) ayr (fun _=>Wg) (seen.map fun x=>(x,true)) s (.b false)
 rw[show T.agg [.i .i64 s.1,.s s.2]=rK s from rfl,this,nX]
 by_cases h:s∈seen <;> simp[h]
theorem RE(seen:List (Int×List Nat))(s:Int×List Nat)(h:s∉seen):lq (.flat [.int,.str]) (.agg [.i .i64 s.1,.s s.2]) (.b true) ((seen.map fun x=>(x,true)).map fun p=>rK p.1) ((seen.map fun x=>(x,true)).map fun p=>T.b p.2)=some (((seen++ [s]).map fun x=>(x,true)).map (fun p=>rK p.1),((seen++ [s]).map fun x=>(x,true)).map (fun p=>T.b p.2)):=by
 have:=uK (kT:=rK) (vT:=T.b) ayr (seen.map fun x=>(x,true)) s true (by rw[nX,if_neg h])
 rw[show T.agg [.i .i64 s.1,.s s.2]=rK s from rfl,this]
 simp only[List.map_append,List.map_cons,List.map_nil]
def Xl(x:Ex):Prop:=0≤x.nodes∧x.sm
def GI(u:Ru):Int×List Nat:=(u.sc,u.nm)
theorem aEQ(l:List Ru)(a:T)(U:List T)(Y:IsSl a l.length U)(hc:aC RP l U)(hlen:l.length≤iP)(rZ: ∀u∈l,Xl u.x)(g:Nat)(fr:Fr)(lh:aE ah)(sh:List ah)
  (h3:aa fr 3= .mp .L 8 g) (V:aa fr 9=a) (r:aa fr 10= .i .i64 (l.length:Int)) (N:aa fr 11= .i .i64 0) (F:ab lh 8=⟨g,.map [] [] false⟩):
  pj pE 42 qE fr lh sh 0 2 (Gy [] l) (fun J O=>O=sh):=by
 refine bV Pm (fun k f J O=>aa f 11= .i .i64 (k:Int)∧ab J 8=⟨g,.map ((((l.take k).map GI).map fun x=>(x,true)).map fun p=>rK p.1) ((((l.take k).map GI).map fun x=>(x,true)).map fun p=>T.b p.2) false⟩∧O=sh∧Gy [] l=Gy ((l.take k).map GI) (l.drop k)) l.length ⟨N,F,rfl,rfl⟩ ?_ ?_
 ·rintro k f J _ hk D ⟨K,F,rfl,hr⟩
  rw[List.drop_eq_getElem_cons hk,Gy]at hr
  have H:(k:Int)<l.length:=zZ
  have Z:=ba (k:=k) zZ
  obtain⟨b,cb,rr,I,eW,hb⟩:=xP Y hc k hk
  obtain⟨xS,Z8⟩:=rZ l[k] (List.getElem_mem hk)
  have W:=cH (DX l[k].sc)
  have Bp:=cH (rf l[k].nm)
  have Ms:=fun z fr lh sh=>nQ (z:=z) (fr:=fr) (lh:=lh) (sh:=sh) l[k].x _ hb xS Z8
  have X:=ZA ((l.take k).map GI) (l[k].sc,l[k].nm)
  have iI:=RE ((l.take k).map GI) (l[k].sc,l[k].nm)
  have iQ:(l.take (k+1)).map GI=(l.take k).map GI++ [(l[k].sc,l[k].nm)]:=by rw[List.take_succ_eq_append_getElem hk,List.map_append];rfl
  by_cases hs:(l[k].sc,l[k].nm)∈(l.take k).map GI
  ·simp only[qB,seval,gd,qE,D,h3,V,r,K,F,H,I,W,Uf,Bp,xm,bO,X,hs]
   clear D
   grind
  ·simp only[qB,seval,gd,qE,D,h3,V,r,K,F,H,I,Z,W,Uf,Bp,xm,bO,X,hs,oL,Wg,iI hs,Ms,iQ]
   clear D
   grind
 ·rintro f J _ D ⟨K,F,rfl,hr⟩
  simp only[qB,seval,gd,qE,D,r,K,Int.lt_irrefl,hr,List.drop_length,Gy]
theorem am8(l:List Ru)(a:T)(r:List T)(D:IsSl a l.length r)(hc:aC RP l r)(hlen:l.length≤iP)(rZ: ∀u∈l,Xl u.x):ae pE 213 [a] []=some (.i .i64 (Gy [] l),[]):=by
 have F:=aEQ l a r D hc hlen rZ 1
 rw[av agh (by simp[S9])]
 simp only[qB,seval,S9,D.lenI,F]
 grind
def DY:List (List Nat):= [[98,108,111,99,107],[115,112,97,110],[110,105,103,104,116],[99,114,101,100,105,116],[108,101,103,115],[104,101,97,100,115],[100,117,116,105,101,115]]
theorem ZB(s:List Nat):ae pE 259 [.s s] []=some (.i .i64 (Zy s),[]):=by
 by_cases h:s∈DY
 ·simp only[DY,List.mem_cons,List.not_mem_nil,or_false]at h
  rcases h with rfl|rfl|rfl|rfl|rfl|rfl|rfl <;> exact cI (m:=20) (cG (by kernel_rfl))
 ·simp only[DY,List.mem_cons,List.not_mem_nil,or_false,not_or]at h
  obtain⟨h1,h2,h3,h4,h5,h6,r⟩:=h
  rw[av agI (by simp[Tq])]
  unfold Zy
  simp only[qA,seval,Tq,h1,h2,h3,h4,h5,h6,r,or_self]
theorem ZC(s:List Nat): ∃n:Int,(n=0↔Zy s=0)∧ae pE 198 [.s s] []=some (.i .i64 n,[]):=by
 by_cases h:s∈DY
 ·simp only[DY,List.mem_cons,List.not_mem_nil,or_false]at h
  rcases h with rfl|rfl|rfl|rfl|rfl|rfl|rfl
  iterate 4 exact⟨2,by decide,cI (m:=20) (cG (by kernel_rfl))⟩
  iterate 3 exact⟨1,by decide,cI (m:=20) (cG (by kernel_rfl))⟩
 ·simp only[DY,List.mem_cons,List.not_mem_nil,or_false,not_or]at h
  obtain⟨h1,h2,h3,h4,h5,h6,r⟩:=h
  refine⟨0, ?_, ?_⟩
  ·unfold Zy;simp[h1,h2,h3,h4,h5,h6,r]
  ·rw[av afZ (by simp[SX])]
   simp only[qA,seval,SX,h1,h2,h3,h4,h5,h6,r]
def pt(g:Nat)(seen:List (List Nat)):ah:=⟨g,.map ((seen.map fun x=>(x,true)).map fun p=>sK p.1) ((seen.map fun x=>(x,true)).map fun p=>T.b p.2) false⟩
theorem J2(g:Nat)(seen:List (List Nat))(s:List Nat):lkE (pt g seen) g (.one .str) (.s s) (.b false) false=some (.b (decide (s∈seen))):=by
 unfold pt;rw[bO,if_pos rfl,Gj]
theorem J3{lh:aE ah}{kk:Nat}(g:Nat)(seen:List (List Nat))(s:List Nat)(h:s∉seen):muE lh kk (pt g seen) g (.one .str) (.s s) (.b true)=some (iR lh kk (pt g (seen++ [s]))):=by
 unfold pt;rw[oL,if_pos ⟨rfl,rfl⟩,BB seen s h];rfl
theorem aER(l:List Li)(a:T)(cc:List T)(ha:IsSl a l.length cc)(hc:aC LiR l cc)(hlen:l.length≤iP)(g:Nat)(V:ah)(fr:Fr)(lh:aE ah)(sh:List ah)
  (h3:aa fr 3= .mp .L 8 g) (K:aa fr 10=a) (r:aa fr 11= .i .i64 (l.length:Int)) (W:aa fr 12= .i .i64 0) (D:ab lh 8=pt g []) (I:ab lh 1=V):
  pj pE 80 qH fr lh sh 0 2 (OO [] l) (fun F X=>(OO [] l=0→ab F 8=pt g (l.map Li.nm))∧ab F 1=V∧X=sh):=by
 refine bV CE (fun k f F X=>aa f 12= .i .i64 (k:Int)∧ab F 8=pt g ((l.take k).map Li.nm)∧ab F 1=V∧X=sh∧OO [] l=OO ((l.take k).map Li.nm) (l.drop k)) l.length ⟨W,D,I,rfl,rfl⟩ ?_ ?_
 ·rintro k f F _ hk J ⟨U,D,I,rfl,hr⟩
  rw[List.drop_eq_getElem_cons hk,OO]at hr
  have N:(k:Int)<l.length:=zZ
  have hw:=ba (k:=k) zZ
  obtain⟨rr,O⟩:=ON ha hc k hk
  have Bp:=cH (rf l[k].nm)
  have Y:=ZB l[k].me
  have Z:=fun n lo hi=>cH (yV n lo hi)
  have eZ:=J2 g ((l.take k).map Li.nm) l[k].nm
  have H:=fun lh kk=>J3 (lh:=lh) (kk:=kk) g ((l.take k).map Li.nm) l[k].nm
  have iQ:(l.take (k+1)).map Li.nm=(l.take k).map Li.nm++ [l[k].nm]:=by rw[List.take_succ_eq_append_getElem hk,List.map_append];rfl
  by_cases hs:l[k].nm∈(l.take k).map Li.nm
  ·simp only[qB,seval,gd,qH,J,h3,K,r,U,D,I,N,O,Bp,xm,eZ,hs]
   clear J Z H
   grind
  ·simp only[qB,seval,gd,qH,J,h3,K,r,U,D,I,N,O,hw,Bp,xm,eZ,hs,fun lh kk=>H lh kk hs,Y,auw,Z,MJ,iQ]
   clear J Z H
   grind (splits:=30)
 ·rintro f F _ J ⟨U,D,I,rfl,hr⟩
  rw[List.take_length]at D
  simp only[qB,seval,gd,qH,J,r,U,D,I,Int.lt_irrefl,hr,List.drop_length,OO]
  exact fun _=>trivial
theorem aET(l:List Of)(r:List (List Nat))(a:T)(Y:List T)(ha:IsSl a l.length Y)(hc:aC OfR l Y)(hlen:l.length≤iP)(g:Nat)(fr:Fr)(lh:aE ah)(sh:List ah)
  (h3:aa fr 3= .mp .L 8 g) (I:aa fr 47=a) (D:aa fr 48= .i .i64 (l.length:Int)) (V:aa fr 49= .i .i64 0) (J:ab lh 8=pt g r):
  pj pE 80 qG fr lh sh 3 2 (R9 r l) (fun O W=>W=sh):=by
 refine bV Pn (fun k f O W=>aa f 49= .i .i64 (k:Int)∧ab O 8=pt g (r++(l.take k).map Of.nm)∧W=sh∧R9 r l=R9 (r++(l.take k).map Of.nm) (l.drop k)) l.length ⟨V,by simpa using J,rfl,by simp⟩ ?_ ?_
 ·rintro k f O _ hk H ⟨U,J,rfl,hr⟩
  rw[List.drop_eq_getElem_cons hk,R9]at hr
  have K:(k:Int)<l.length:=zZ
  have hw:=ba (k:=k) zZ
  obtain⟨rr,N⟩:=Zx ha hc k hk
  have Bp:=cH (rf l[k].nm)
  have X:=fun n lo hi=>cH (yV n lo hi)
  have Z:=J2 g (r++(l.take k).map Of.nm) l[k].nm
  have F:=fun lh kk=>J3 (lh:=lh) (kk:=kk) g (r++(l.take k).map Of.nm) l[k].nm
  have iQ:r++(l.take (k+1)).map Of.nm=(r++(l.take k).map Of.nm)++ [l[k].nm]:=by rw[List.take_succ_eq_append_getElem hk,List.map_append,List.append_assoc];rfl
  by_cases hs:l[k].nm∈r++(l.take k).map Of.nm
  ·simp only[qB,seval,gd,qG,H,h3,I,D,U,J,K,N,Bp,xm,Z,hs]
   clear H X F
   grind
  ·simp only[qB,seval,gd,qG,H,h3,I,D,U,J,K,N,hw,Bp,xm,Z,hs,fun lh kk=>F lh kk hs,X,MJ,iQ]
   clear H X F
   grind
 ·rintro f O _ H ⟨U,J,rfl,hr⟩
  simp only[qB,seval,gd,qG,H,D,U,Int.lt_irrefl,hr,List.drop_length,R9]
structure kP (c:Ct) (a7 a8 a9 aw aA az:T):Prop where
 h7: ∃cc,IsSl a7 c.cs.length cc∧cW c.cs cc
 h8: ∃cc,IsSl a8 c.ru.length cc∧aC RP c.ru cc
 h9: ∃cc,IsSl a9 c.co.length cc∧aC ZW c.co cc
 h10: ∃cc,IsSl aw c.cr.length cc∧cw c.cr cc
 h11: ∃cc,IsSl aA c.li.length cc∧aC LiR c.li cc
 h12: ∃cc,IsSl az c.fs.length cc∧aC OfR c.fs cc
structure qh (c:Ct):Prop where
 s7:ZY c.cs∧c.cs.length≤iP
 s8:(∀u∈c.ru,Xl u.x)∧c.ru.length≤iP
 s9:(∀u∈c.co,Xl u.x)∧c.co.length≤iP
 s10:(∀x∈c.cr,Xl x)∧c.cr.length≤iP
 s11:c.li.length≤iP
 s12:c.fs.length≤iP
 b7: ∃j,j≤2∧c.cs=jL j
 b8: ∀u∈c.ru,(u.sc,u.x)∈nw
 b9: ∀u∈c.co,(u.sc,u.x)∈nw
 b10: ∀x∈c.cr,((1:Int),x)∈nw
section
variable(c:Ct)(a7 a8 a9 aw aA az:T)(hT:kP c a7 a8 a9 aw aA az)(hS:qh c)
def aV:List T:= [.i .i64 c.rp,.i .i64 c.rl,.i .i64 c.cn,.i .i64 c.st,.i .i64 c.ly,.i .i64 c.nf,.i .i64 c.nt,a7,a8,a9,aw,aA,az,.i .i64 c.gu]
include hT hS
theorem ana:ae pE 216 [.agg (aV c a7 a8 a9 aw aA az)] []=some (.i .i64 (Zz c),[]):=by
 obtain⟨Gv,r,BG⟩:=hT.h11
 obtain⟨Kd,D,Dr⟩:=hT.h12
 rw[av agl (by simp[Td])]
 have F:=fun fr lh sh x1 x2 x3 x4 x5 x6=>lpO (aER c.li aA Gv r BG hS.s11 1 ⟨1,.cells (aV c a7 a8 a9 aw aA az) 0 true⟩ fr lh sh x1 x2 x3 x4 x5 x6) (by simp[pt])
 have H:=aET c.fs (c.li.map Li.nm) az Kd D Dr hS.s12 1
 unfold aV at F ⊢
 unfold Zz
 have I:pt 1 []=⟨1,.map [] [] false⟩:=rfl
 simp(maxDischargeDepth:=6) only[qB,seval,Td,CE,r.lenI,D.lenI,I,F,H]
 grind
end
theorem aEU(l:List Co)(a:T)(W:List T)(X:IsSl a l.length W)(hc:aC ZW l W)(hlen:l.length≤iP)(rZ: ∀u∈l,Xl u.x)(I:ah)(fr:Fr)(lh:aE ah)(sh:List ah)
  (J:aa fr 84=a) (r:aa fr 85= .i .i64 (l.length:Int)) (K:aa fr 86= .i .i64 0) (D:ab lh 1=I):
  pj pE 116 tE fr lh sh 1 2 (IM l) (fun F N=>ab F 1=I∧N=sh):=by
 refine bV Cz (fun k f F N=>aa f 86= .i .i64 (k:Int)∧ab F 1=I∧N=sh∧IM l=IM (l.drop k)) l.length ⟨K,D,rfl,rfl⟩ ?_ ?_
 ·rintro k f F _ hk H ⟨O,D,rfl,hr⟩
  rw[List.drop_eq_getElem_cons hk,IM]at hr
  have U:(k:Int)<l.length:=zZ
  have Y:=ba (k:=k) zZ
  obtain⟨b,cb,rr,V,eW,Z⟩:=AY X hc k hk
  obtain⟨xS,Z8⟩:=rZ l[k] (List.getElem_mem hk)
  have eY:=cH (DX l[k].sc)
  have Ms:=fun z fr lh sh=>nQ (z:=z) (fr:=fr) (lh:=lh) (sh:=sh) l[k].x _ Z xS Z8
  simp only[qB,seval,gd,tE,H,J,r,O,D,U,V,Y,eY,Uf,Ms]
  clear H
  grind
 ·rintro f F _ H ⟨O,D,rfl,hr⟩
  simp only[qB,seval,gd,tE,H,r,O,D,Int.lt_irrefl,hr,List.drop_length,IM]
theorem aEV(l:List Ex)(a:T)(W:List T)(X:IsSl a l.length W)(hc:cw l W)(hlen:l.length≤iP)(rZ: ∀x∈l,Xl x)(I:ah)(fr:Fr)(lh:aE ah)(sh:List ah)
  (J:aa fr 102=a) (r:aa fr 103= .i .i64 (l.length:Int)) (K:aa fr 104= .i .i64 0) (D:ab lh 1=I):
  pj pE 116 tD fr lh sh 3 2 (IP l) (fun F N=>ab F 1=I∧N=sh):=by
 refine bV Cy (fun k f F N=>aa f 104= .i .i64 (k:Int)∧ab F 1=I∧N=sh∧IP l=IP (l.drop k)) l.length ⟨K,D,rfl,rfl⟩ ?_ ?_
 ·rintro k f F _ hk H ⟨O,D,rfl,hr⟩
  rw[List.drop_eq_getElem_cons hk,IP]at hr
  have U:(k:Int)<l.length:=zZ
  have Y:=ba (k:=k) zZ
  obtain⟨b,cb,rr,V,eW,te,Z⟩:=mK X hc k hk
  obtain⟨xS,Z8⟩:=rZ l[k] (List.getElem_mem hk)
  have Ms:=fun z fr lh sh=>nQ (z:=z) (fr:=fr) (lh:=lh) (sh:=sh) l[k] _ Z xS Z8
  simp only[qB,seval,gd,tD,H,J,r,O,D,U,V,Y,Ms]
  clear H
  grind
 ·rintro f F _ H ⟨O,D,rfl,hr⟩
  simp only[qB,seval,gd,tD,H,r,O,D,Int.lt_irrefl,hr,List.drop_length,IP]
section
variable(c:Ct)(a7 a8 a9 aw aA az:T)(hT:kP c a7 a8 a9 aw aA az)(hS:qh c)
include hT hS
theorem ZD:ae pE 130 [.agg (aV c a7 a8 a9 aw aA az)] []=some (.i .i64 (fR c),[]):=by
 have J:=ana c a7 a8 a9 aw aA az hT hS
 obtain⟨⟨c7,H,W⟩,⟨c8,I,X⟩,⟨c9,K,Y⟩,⟨ti,r,Z⟩,⟨Gv,D,BG⟩,⟨Kd,F,Dr⟩⟩:=hT
 have U:=am7 c.cs a7 c7 H W hS.s7.2 hS.s7.1
 have V:=am8 c.ru a8 c8 I X hS.s8.2 hS.s8.1
 have N:=aEU c.co a9 c9 K Y hS.s9.2 hS.s9.1 ⟨1,.cells (aV c a7 a8 a9 aw aA az) 0 true⟩
 have O:=aEV c.cr aw ti r Z hS.s10.2 hS.s10.1 ⟨1,.cells (aV c a7 a8 a9 aw aA az) 0 true⟩
 have w:=fun n lo hi=>cH (yV n lo hi)
 unfold aV at N O J ⊢
 rw[av afs (by simp[SA])]
 unfold fR j4 kz
 simp(maxDischargeDepth:=6) only[qB,seval,SA,Cy,Cz,H.froz,I.froz,H.lenI,I.lenI,K.lenI,r.lenI,D.lenI,F.lenI,H.froz1,I.froz1,K.froz1,r.froz1,D.froz1,F.froz1,w,MJ,U,V,auh,aui,N,O,J,auk]
 clear U V N O J w hS
 grind (splits:=40)
end
theorem mw(n lo hi:Int):ae pE 199 [.i .i64 n,.i .i64 lo,.i .i64 hi] []=some (.b (jS n lo hi),[]):=by
 rw[av af0 (by simp[SY])]
 unfold jS
 by_cases h:lo≤n <;> simp only[qA,seval,SY,h]
theorem aEY(l:List Li)(a:T)(J:List T)(N:IsSl a l.length J)(hc:aC LiR l J)(hlen:l.length≤iP)(n:Nat)(hn:n≤l.length)(s:List Nat)(c:Ct)(a7 a8 a9 aw az:T)(O:List T)(G4:Nat)(fr:Fr)(lh:aE ah)(sh:List ah)(U:aa fr 1= .ptr .L 1 1 0)(K:aa fr 3= .i .i64 (n:Int))(V:aa fr 4= .ptr .L 4 G4 0)(W:aa fr 5= .i .i64 0)(X:ab lh 1=⟨1,.cells (aV c a7 a8 a9 aw a az) 0 true⟩)(Y:ab lh 4=⟨G4,.cells (.s s::O) 0 true⟩):
  pj pE 112 tN fr lh sh 2 2 (if s∈(l.map Li.nm).take n then 7 else 0) (fun D F=>D=lh∧F=sh):=by
 refine bV CC (fun j f D F=>aa f 5= .i .i64 (j:Int)∧D=lh∧F=sh∧s∉(l.map Li.nm).take j) n ⟨W,rfl,rfl,by simp⟩ ?_ ?_
 ·rintro j f _ _ hj r ⟨H,rfl,rfl,hr⟩
  obtain⟨rr,I⟩:=ON N hc j zZ
  have Z:=ba (k:=j) zZ
  have Z9:(j:Int)<n:=zZ
  simp only[qB,seval,gd,tN,r,U,K,V,H,Z9,I,Z,X,Y,aV]
  clear r
  grind [List.mem_take_iff_getElem]
 ·rintro f _ _ r ⟨H,rfl,rfl,hr⟩
  simp only[qB,seval,gd,tN,r,K,H,Int.lt_irrefl,hr]
theorem aEZ(l:List Li)(a:T)(K:List T)(D:IsSl a l.length K)(hc:aC LiR l K)(hlen:l.length≤iP)(s:List Nat)(c:Ct)(a7 a8 a9 aw az:T)(U:List T)(G7:Nat)(fr:Fr)(lh:aE ah)(sh:List ah)(N:aa fr 1= .ptr .L 1 1 0)(V:aa fr 7= .ptr .L 7 G7 0)(W:aa fr 8= .i .i64 0)(O:ab lh 1=⟨1,.cells (aV c a7 a8 a9 aw a az) 0 true⟩)(X:ab lh 7=⟨G7,.cells (.s s::U) 0 true⟩):
  pj pE 112 tL fr lh sh 6 2 (if s∈l.map Li.nm then 7 else 0) (fun F H=>F=lh∧H=sh):=by
 refine bV CB (fun j f F H=>aa f 8= .i .i64 (j:Int)∧F=lh∧H=sh∧s∉(l.map Li.nm).take j) l.length ⟨W,rfl,rfl,by simp⟩ ?_ ?_
 ·rintro j f _ _ Y r ⟨I,rfl,rfl,hr⟩
  obtain⟨rr,J⟩:=ON D hc j Y
  have Z:=ba (k:=j) zZ
  have Z9:(j:Int)<l.length:=zZ
  simp only[qB,seval,gd,tL,r,N,V,I,D.lenI,Z9,J,Z,O,X,aV]
  clear r
  grind [List.mem_take_iff_getElem]
 ·rintro f _ _ r ⟨I,rfl,rfl,hr⟩
  rw[List.take_of_length_le zP]at hr
  simp only[qB,seval,gd,tL,r,N,I,D.lenI,O,aV,Int.lt_irrefl,hr]
theorem aE0(l:List Of)(a:T)(J:List T)(N:IsSl a l.length J)(hc:aC OfR l J)(hlen:l.length≤iP)(n:Nat)(hn:n≤l.length)(s:List Nat)(c:Ct)(a7 a8 a9 aw aA:T)(O:List T)(G7:Nat)(fr:Fr)(lh:aE ah)(sh:List ah)(U:aa fr 1= .ptr .L 1 1 0)(K:aa fr 6= .i .i64 (n:Int))(V:aa fr 7= .ptr .L 7 G7 0)(W:aa fr 9= .i .i64 0)(X:ab lh 1=⟨1,.cells (aV c a7 a8 a9 aw aA a) 0 true⟩)(Y:ab lh 7=⟨G7,.cells (.s s::O) 0 true⟩):
  pj pE 112 tK fr lh sh 8 2 (if s∈(l.map Of.nm).take n then 7 else 0) (fun D F=>D=lh∧F=sh):=by
 refine bV CA (fun j f D F=>aa f 9= .i .i64 (j:Int)∧D=lh∧F=sh∧s∉(l.map Of.nm).take j) n ⟨W,rfl,rfl,by simp⟩ ?_ ?_
 ·rintro j f _ _ hj r ⟨H,rfl,rfl,hr⟩
  obtain⟨rr,I⟩:=Zx N hc j zZ
  have Z:=ba (k:=j) zZ
  have Z9:(j:Int)<n:=zZ
  simp only[qB,seval,gd,tK,r,U,K,V,H,Z9,I,Z,X,Y,aV]
  clear r
  grind [List.mem_take_iff_getElem]
 ·rintro f _ _ r ⟨H,rfl,rfl,hr⟩
  simp only[qB,seval,gd,tK,r,K,H,Int.lt_irrefl,hr]
section
variable(c:Ct)(a7 a8 a9 aw aA az:T)(hT:kP c a7 a8 a9 aw aA az)(hS:qh c)
include hT hS
theorem aE1(fr:Fr)(lh:aE ah)(sh:List ah)(h1:aa fr 1= .ptr .L 1 1 0)(h3:aa fr 3= .i .i64 0)(D:ab lh 1=⟨1,.cells (aV c a7 a8 a9 aw aA az) 0 true⟩):
  pj pE 112 tO fr lh sh 0 2 (OO [] c.li) (fun F I=>ab F 1=⟨1,.cells (aV c a7 a8 a9 aw aA az) 0 true⟩∧I=sh):=by
 obtain⟨Gv,r,BG⟩:=hT.h11
 have hlen:=hS.s11
 refine bV CD (fun k f F I=>aa f 3= .i .i64 (k:Int)∧ab F 1=⟨1,.cells (aV c a7 a8 a9 aw aA az) 0 true⟩∧I=sh∧OO [] c.li=OO ((c.li.map Li.nm).take k) (c.li.drop k)) c.li.length ⟨h3,D,rfl,rfl⟩ ?_ ?_
 ·rintro k f F _ hk H ⟨J,D,rfl,hr⟩
  rw[List.drop_eq_getElem_cons hk,OO]at hr
  obtain⟨rr,K⟩:=ON r BG k hk
  have Bp:=cH (nv c.li[k].nm)
  obtain⟨me,V,N⟩:=ZC c.li[k].me
  have W:=cH (mw c.li[k].mo 0 599999)
  have X:=cH (mw c.li[k].da 1 31)
  obtain⟨G,Y⟩: ∃G,(ab F 4).g+1=G:=⟨_,rfl⟩
  have O:=aEY c.li aA Gv r BG hlen k zZ c.li[k].nm c a7 a8 a9 aw az [.s c.li[k].me,.i .i64 c.li[k].mo,.i .i64 c.li[k].da] G
  have Z:=ba (k:=k) zZ
  have U:(k:Int)<c.li.length:=zZ
  have iQ:(c.li.map Li.nm).take (k+1)=(c.li.map Li.nm).take k++ [c.li[k].nm]:=by simp[List.take_succ_eq_append_getElem,hk]
  unfold aV at D O ⊢
  simp only[qB,seval,gd,tO,CC,H,h1,J,D,r.lenI,U,K,Y,Bp,Hv,O,N,aub,W,X,CP,Z]
  clear H O
  grind
 ·rintro f F _ H ⟨J,D,rfl,hr⟩
  unfold aV at D ⊢
  simp only[qB,seval,gd,tO,H,h1,J,D,r.lenI,Int.lt_irrefl,hr,List.drop_length,OO]
theorem aE2(fr:Fr)(lh:aE ah)(sh:List ah)(h1:aa fr 1= .ptr .L 1 1 0)(h6:aa fr 6= .i .i64 0)(D:ab lh 1=⟨1,.cells (aV c a7 a8 a9 aw aA az) 0 true⟩):
  pj pE 112 tM fr lh sh 4 2 (R9 (c.li.map Li.nm) c.fs) (fun F I=>I=sh):=by
 obtain⟨Gv,J,BG⟩:=hT.h11
 obtain⟨Kd,r,Dr⟩:=hT.h12
 have K:=hS.s11
 have hlen:=hS.s12
 refine bV Pg (fun k f F I=>aa f 6= .i .i64 (k:Int)∧ab F 1=⟨1,.cells (aV c a7 a8 a9 aw aA az) 0 true⟩∧I=sh∧R9 (c.li.map Li.nm) c.fs=R9 (c.li.map Li.nm++(c.fs.map Of.nm).take k) (c.fs.drop k)) c.fs.length ⟨h6,D,rfl,by simp⟩ ?_ ?_
 ·rintro k f F _ hk H ⟨N,D,rfl,hr⟩
  rw[List.drop_eq_getElem_cons hk,R9]at hr
  obtain⟨rr,O⟩:=Zx r Dr k hk
  have Bp:=cH (nv c.fs[k].nm)
  have X:=cH (mw c.fs[k].da 1 31)
  have Y:=cH (mw c.fs[k].ct 1 c.fs[k].da)
  obtain⟨G,Z⟩: ∃G,(ab F 7).g+1=G:=⟨_,rfl⟩
  have U:=aEZ c.li aA Gv J BG K c.fs[k].nm c a7 a8 a9 aw az [.i .i64 c.fs[k].ct,.i .i64 c.fs[k].da] G
  have V:=aE0 c.fs az Kd r Dr hlen k zZ c.fs[k].nm c a7 a8 a9 aw aA [.i .i64 c.fs[k].ct,.i .i64 c.fs[k].da] G
  have hw:=ba (k:=k) zZ
  have W:(k:Int)<c.fs.length:=zZ
  have iQ:(c.fs.map Of.nm).take (k+1)=(c.fs.map Of.nm).take k++ [c.fs[k].nm]:=by simp[List.take_succ_eq_append_getElem,hk]
  unfold aV at D U V ⊢
  simp only[qB,seval,gd,tM,CB,CA,H,h1,N,D,r.lenI,W,O,Z,Bp,Hv,U,V,X,Y,CP,hw]
  clear H U V
  grind
 ·rintro f F _ H ⟨N,D,rfl,hr⟩
  unfold aV at D
  simp only[qB,seval,gd,tM,H,h1,N,D,r.lenI,Int.lt_irrefl,hr,List.drop_length,R9]
theorem aeR:ae pE 201 [.agg (aV c a7 a8 a9 aw aA az)] []=some (.i .i64 (Zz c),[]):=by
 have r:=aE1 c a7 a8 a9 aw aA az hT hS
 have D:=aE2 c a7 a8 a9 aw aA az hT hS
 rw[av af2 (by simp[S0])]
 unfold Zz
 unfold aV at r D ⊢
 simp(maxDischargeDepth:=6) only[qB,seval,S0,CD,r,D]
 grind
end
theorem aE4(l:Cs)(a:T)(J:List T)(K:IsSl a l.length J)(hc:cW l J)(hlen:l.length≤iP)(n:Nat)(U:n<l.length)(c:Ct)(a8 a9 aw aA az:T)(fr:Fr)(lh:aE ah)(sh:List ah)
  (V:aa fr 1= .ptr .L 1 1 0) (N:aa fr 3= .i .i64 (n:Int)) (W:aa fr 4= .i .i64 0) (O:ab lh 1=⟨1,.cells (aV c a a8 a9 aw aA az) 0 true⟩):
  pj pE 235 tw fr lh sh 2 2 (if l[n].1∈(l.map Prod.fst).take n then 7 else 0) (fun D F=>D=lh∧F=sh):=by
 refine bV Cw (fun j f D F=>aa f 4= .i .i64 (j:Int)∧D=lh∧F=sh∧l[n].1∉(l.map Prod.fst).take j) n ⟨W,rfl,rfl,by simp⟩ ?_ ?_
 ·rintro j f _ _ hj r ⟨H,rfl,rfl,hr⟩
  obtain⟨b,cb,rr,I,eW,te,hb⟩:=fS K hc j zZ
  obtain⟨b',X,Y,Z,_⟩:=fS K hc n U
  have hw:=ba (k:=j) zZ
  have Z9:(j:Int)<n:=zZ
  unfold aV at O
  simp only[qB,seval,gd,tw,r,V,N,H,Z9,I,Z,hw,O]
  clear r
  grind [List.mem_take_iff_getElem]
 ·rintro f _ _ r ⟨H,rfl,rfl,hr⟩
  simp only[qB,seval,gd,tw,r,N,H,Int.lt_irrefl,hr]
theorem aE5(l:List Ru)(a:T)(J:List T)(O:IsSl a l.length J)(hc:aC RP l J)(hlen:l.length≤iP)(n:Nat)(hn:n<l.length)(c:Ct)(a7 a9 aw aA az:T)(U:List T)(G7:Nat)(fr:Fr)(lh:aE ah)(sh:List ah)(V:aa fr 1= .ptr .L 1 1 0)(K:aa fr 6= .i .i64 (n:Int))(W:aa fr 7= .ptr .L 7 G7 0)(X:aa fr 8= .i .i64 0)(N:ab lh 1=⟨1,.cells (aV c a7 a a9 aw aA az) 0 true⟩)(Y:ab lh 7=⟨G7,.cells (.i .i64 l[n].sc:: .s l[n].nm::U) 0 true⟩):
  pj pE 235 tq fr lh sh 6 2 (if GI l[n]∈(l.map GI).take n then 7 else 0) (fun D F=>D=lh∧F=sh):=by
 refine bV Cu (fun j f D F=>aa f 8= .i .i64 (j:Int)∧D=lh∧F=sh∧GI l[n]∉(l.map GI).take j) n ⟨X,rfl,rfl,by simp⟩ ?_ ?_
 ·rintro j f _ _ hj r ⟨H,rfl,rfl,hr⟩
  obtain⟨b,cb,rr,I,eW,hb⟩:=xP O hc j zZ
  have Z:=ba (k:=j) zZ
  have Z9:(j:Int)<n:=zZ
  unfold aV at N
  simp only[qB,seval,gd,tq,r,V,K,W,H,Z9,I,Z,N,Y]
  clear r
  grind [List.mem_take_iff_getElem,GI]
 ·rintro f _ _ r ⟨H,rfl,rfl,hr⟩
  simp only[qB,seval,gd,tq,r,K,H,Int.lt_irrefl,hr]
section
variable(c:Ct)(a7 a8 a9 aw aA az:T)(hT:kP c a7 a8 a9 aw aA az)(hS:qh c)
include hT hS
theorem aE6(fr:Fr)(lh:aE ah)(sh:List ah)(h1:aa fr 1= .ptr .L 1 1 0)(hi:aa fr 3= .i .i64 0)(r:ab lh 1=⟨1,.cells (aV c a7 a8 a9 aw aA az) 0 true⟩):
  pj pE 235 tz fr lh sh 0 2 (Ki [] c.cs) (fun D H=>ab D 1=⟨1,.cells (aV c a7 a8 a9 aw aA az) 0 true⟩∧H=sh):=by
 obtain⟨c7,F,O⟩:=hT.h7
 have hlen:=hS.s7.2
 refine bV Cx (fun k f D H=>aa f 3= .i .i64 (k:Int)∧ab D 1=⟨1,.cells (aV c a7 a8 a9 aw aA az) 0 true⟩∧H=sh∧Ki [] c.cs=Ki ((c.cs.map Prod.fst).take k) (c.cs.drop k)) c.cs.length ⟨hi,r,rfl,rfl⟩ ?_ ?_
 ·rintro k f D _ hk I ⟨J,r,rfl,hr⟩
  rw[List.drop_eq_getElem_cons hk,Ki]at hr
  obtain⟨b,Y,Z,K,V,te,W⟩:=fS F O k hk
  have Bp:=cH (nv c.cs[k].1)
  have Ms:=rq c.cs[k].2 _ W (hS.s7.1 c.cs[k] (List.getElem_mem hk)).2
  have U:=aE4 c.cs a7 c7 F O hlen k hk c a8 a9 aw aA az
  have X:=ba (k:=k) zZ
  have N:(k:Int)<c.cs.length:=zZ
  have iQ:(c.cs.map Prod.fst).take (k+1)=(c.cs.map Prod.fst).take k++ [c.cs[k].1]:=by simp[List.take_succ_eq_append_getElem,hk]
  unfold aV at r U ⊢
  simp only[qB,seval,gd,tz,Cw,I,h1,J,r,F.lenI,N,K,Bp,Hv,U,V.froz1,Ms,MF,X]
  grind
 ·rintro f D _ I ⟨J,r,rfl,hr⟩
  unfold aV at r ⊢
  simp only[qB,seval,gd,tz,I,h1,J,r,F.lenI,Int.lt_irrefl,hr,List.drop_length,Ki]
theorem aE7(fr:Fr)(lh:aE ah)(sh:List ah)(h1:aa fr 1= .ptr .L 1 1 0)(hi:aa fr 6= .i .i64 0)(r:ab lh 1=⟨1,.cells (aV c a7 a8 a9 aw aA az) 0 true⟩):
  pj pE 235 tu fr lh sh 4 2 (Gy [] c.ru) (fun D H=>ab D 1=⟨1,.cells (aV c a7 a8 a9 aw aA az) 0 true⟩∧H=sh):=by
 obtain⟨c8,F,O⟩:=hT.h8
 have hlen:=hS.s8.2
 refine bV Cv (fun k f D H=>aa f 6= .i .i64 (k:Int)∧ab D 1=⟨1,.cells (aV c a7 a8 a9 aw aA az) 0 true⟩∧H=sh∧Gy [] c.ru=Gy ((c.ru.map GI).take k) (c.ru.drop k)) c.ru.length ⟨hi,r,rfl,rfl⟩ ?_ ?_
 ·rintro k f D _ hk I ⟨J,r,rfl,hr⟩
  rw[List.drop_eq_getElem_cons hk,Gy]at hr
  obtain⟨b,cb,rr,K,V,W⟩:=xP F O k hk
  have Bp:=cH (nv c.ru[k].nm)
  have X:=cH (mw c.ru[k].sc 1 3)
  have Ms:=rq c.ru[k].x _ W (hS.s8.1 c.ru[k] (List.getElem_mem hk)).2
  obtain⟨G,Y⟩: ∃G,(ab D 7).g+1=G:=⟨_,rfl⟩
  have U:=aE5 c.ru a8 c8 F O hlen k hk c a7 a9 aw aA az [.i .i64 c.ru[k].x.op,.i .i64 c.ru[k].x.num,.s c.ru[k].x.name,b] G
  have Z:=ba (k:=k) zZ
  have N:(k:Int)<c.ru.length:=zZ
  have iQ:(c.ru.map GI).take (k+1)=(c.ru.map GI).take k++ [(c.ru[k].sc,c.ru[k].nm)]:=by simp[List.take_succ_eq_append_getElem,hk,GI]
  unfold aV at r U ⊢
  simp only[qB,seval,gd,tu,Cu,I,h1,J,r,F.lenI,N,K,Y,Bp,Hv,X,CP,U,V.froz1,Ms,MF,Z]
  grind [GI]
 ·rintro f D _ I ⟨J,r,rfl,hr⟩
  unfold aV at r ⊢
  simp only[qB,seval,gd,tu,I,h1,J,r,F.lenI,Int.lt_irrefl,hr,List.drop_length,Gy]
theorem aE8(fr:Fr)(lh:aE ah)(sh:List ah)(h1:aa fr 1= .ptr .L 1 1 0)(hi:aa fr 10= .i .i64 0)(r:ab lh 1=⟨1,.cells (aV c a7 a8 a9 aw aA az) 0 true⟩):
  pj pE 235 tp fr lh sh 8 2 (IM c.co) (fun D H=>ab D 1=⟨1,.cells (aV c a7 a8 a9 aw aA az) 0 true⟩∧H=sh):=by
 obtain⟨c9,I,O⟩:=hT.h9
 have hlen:=hS.s9.2
 refine bV Cq (fun k f D H=>aa f 10= .i .i64 (k:Int)∧ab D 1=⟨1,.cells (aV c a7 a8 a9 aw aA az) 0 true⟩∧H=sh∧IM c.co=IM (c.co.drop k)) c.co.length ⟨hi,r,rfl,rfl⟩ ?_ ?_
 ·rintro k f D _ hk F ⟨J,r,rfl,hr⟩
  rw[List.drop_eq_getElem_cons hk,IM]at hr
  obtain⟨b,Y,Z,K,U,V⟩:=AY I O k hk
  have W:=cH (mw c.co[k].sc 1 3)
  have Ms:=rq c.co[k].x _ V (hS.s9.1 c.co[k] (List.getElem_mem hk)).2
  have X:=ba (k:=k) zZ
  have N:(k:Int)<c.co.length:=zZ
  unfold aV at r ⊢
  simp only[qB,seval,gd,tp,F,h1,J,r,I.lenI,N,K,W,CP,U.froz1,Ms,MF,X]
  clear F
  grind
 ·rintro f D _ F ⟨J,r,rfl,hr⟩
  unfold aV at r ⊢
  simp only[qB,seval,gd,tp,F,h1,J,r,I.lenI,Int.lt_irrefl,hr,List.drop_length,IM]
theorem aE9(fr:Fr)(lh:aE ah)(sh:List ah)(h1:aa fr 1= .ptr .L 1 1 0)(hi:aa fr 12= .i .i64 0)(r:ab lh 1=⟨1,.cells (aV c a7 a8 a9 aw aA az) 0 true⟩):
  pj pE 235 tn fr lh sh 10 2 (IP c.cr) (fun F I=>ab F 1=⟨1,.cells (aV c a7 a8 a9 aw aA az) 0 true⟩∧I=sh):=by
 obtain⟨ti,D,O⟩:=hT.h10
 have hlen:=hS.s10.2
 refine bV Cp (fun k f F I=>aa f 12= .i .i64 (k:Int)∧ab F 1=⟨1,.cells (aV c a7 a8 a9 aw aA az) 0 true⟩∧I=sh∧IP c.cr=IP (c.cr.drop k)) c.cr.length ⟨hi,r,rfl,rfl⟩ ?_ ?_
 ·rintro k f F _ hk H ⟨J,r,rfl,hr⟩
  rw[List.drop_eq_getElem_cons hk,IP]at hr
  obtain⟨b,X,Y,K,U,Z,V⟩:=mK D O k hk
  have Ms:=rq c.cr[k] _ V (hS.s10.1 c.cr[k] (List.getElem_mem hk)).2
  have W:=ba (k:=k) zZ
  have N:(k:Int)<c.cr.length:=zZ
  unfold aV at r ⊢
  simp only[qB,seval,gd,tn,H,h1,J,r,D.lenI,N,K,U.froz1,Ms,MF,W]
  clear H
  grind
 ·rintro f F _ H ⟨J,r,rfl,hr⟩
  unfold aV at r ⊢
  simp only[qB,seval,gd,tn,H,h1,J,r,D.lenI,Int.lt_irrefl,hr,List.drop_length,IP]
end
section
variable(c:Ct)(a7 a8 a9 aw aA az:T)(hT:kP c a7 a8 a9 aw aA az)(hS:qh c)
include hT hS
theorem JG:ae pE 118 [.agg (aV c a7 a8 a9 aw aA az)] []=some (.i .i64 (fR c),[]):=by
 have H:=aeR c a7 a8 a9 aw aA az hT hS
 have I:=aE6 c a7 a8 a9 aw aA az hT hS
 have J:=aE7 c a7 a8 a9 aw aA az hT hS
 have K:=aE8 c a7 a8 a9 aw aA az hT hS
 have N:=aE9 c a7 a8 a9 aw aA az hT hS
 obtain⟨⟨c7,O,W⟩,⟨c8,U,X⟩,⟨c9,V,Y⟩,⟨ti,r,Z⟩,⟨Gv,D,BG⟩,⟨Kd,F,Dr⟩⟩:=hT
 have w:=fun n lo hi=>cH (mw n lo hi)
 unfold aV at I J K N H ⊢
 rw[av Mz (by simp[Km])]
 unfold fR j4 kz
 simp(maxDischargeDepth:=6) only[qB,seval,Km,Cp,Cq,Cv,Cx,O.lenI,U.lenI,V.lenI,r.lenI,D.lenI,F.lenI,O.froz1,U.froz1,V.froz1,r.froz1,D.froz1,F.froz1,w,CP,I,J,K,N,H,auc]
 clear I J K N H w hS
 grind (splits:=40)
end
def Sa(s:List Nat):Prop:=dt 1 s≠0∨dt 2 s≠0∨dt 3 s≠0
instance (s:List Nat):Decidable (Sa s):=by unfold Sa;infer_instance
def LZ(l:Cs):Nat→Cs→Int
 |_,[]=>0
 |k,c::r=>if Sa c.1 then 7 else if(rR l k).2≠0 then(rR l k).2 else LZ l (k+1) r
def Gz(l:Cs)(scope:Int)(x:Ex)(r:Int):Int:=if(cg l scope x).2=0∧(cg l scope x).1≠r then 9 else(cg l scope x).2
def IQ(l:Cs):List Ru→Int
 | []=>0
 |u::r=>if Gz l u.sc u.x 4≠0 then Gz l u.sc u.x 4 else IQ l r
def IS(l:Cs):List Co→Int
 | []=>0
 |u::r=>if Gz l u.sc u.x 1≠0 then Gz l u.sc u.x 1 else IS l r
def Ke(l:Cs):List Ex→Int
 | []=>0
 |x::r=>if Gz l 1 x 2≠0 then Gz l 1 x 2 else Ke l r
def eV(c:Ct):Int:=if fR c≠0 then fR c else if LZ c.cs 0 c.cs≠0 then LZ c.cs 0 c.cs else if IQ c.cs c.ru≠0 then IQ c.cs c.ru else if IS c.cs c.co≠0 then IS c.cs c.co else Ke c.cs c.cr
def qu(l:Cs)(lT:T)(sh:List ah):Prop:= ∃kn,sh=ta lT (bA l l.length) kn∧vD l kn
def aeS(s:List Nat)(j:Nat):Prop:= ∀i:Nat,i<j→dt ((i:Int)+1) s=0
theorem aFa(s:List Nat)(K:List T)(G:Nat)(fr:Fr)(lh:aE ah)(sh:List ah)(N:aa fr 6= .ptr .L 6 G 0)(O:aa fr 7= .i .i64 1)(U:ab lh 6=⟨G,.cells (.s s::K) 0 true⟩):
  pj pE 115 zi fr lh sh 2 2 (if Sa s then 7 else 0) (fun F H=>F=lh∧H=sh):=by
 refine bV Hb (fun j f F H=>aa f 7= .i .i64 ((j:Int)+1)∧F=lh∧H=sh∧aeS s j) 3 ⟨O,rfl,rfl,fun i h=>by omega⟩ ?_ ?_
 ·rintro j f _ _ X r ⟨D,rfl,rfl,t⟩
  have I:=Iv ((j:Int)+1) s
  unfold qf at I
  have J:(j:Int)+1≤3:=zZ
  have V:wr .i64 ((j:Int)+1+1)=((j+1:Nat):Int)+1:=bI zZ
  have hc:j=0∨j=1∨j=2:=zZ
  by_cases W:dt ((j:Int)+1) s=0 <;> simp only[qB,seval,gd,zi,r,N,D,U,J,V,I,W,PC] <;> clear r I <;> grind [aeS,Sa]
 ·rintro f _ _ r ⟨D,rfl,rfl,t⟩
  rw[show((3:Nat):Int)+1=4 from rfl]at D
  have a:=t 0 zz
  have b:=t 1 zz
  have c:=t 2 zz
  simp only[qB,seval,gd,zi,r,D]
  unfold Sa
  grind
section
variable(l:Cs)(lT:T)(cl:List T)(hl:IsSl lT l.length cl)(hcl:cW l cl)(hlen:l.length≤iP)(rZ:ZY l)
include hl hcl hlen rZ
theorem Gk(scope r:Int)(x:Ex)(cs:List T)(hx:gr x cs)(J:Xl x)(sh:List ah)(N:qu l lT sh): ∃K,ae pE 133 [.ptr .S 2 1 0,.i .i64 scope,.i .i64 (l.length:Int),.agg cs,.i .i64 r] sh=some (.i .i64 (Gz l scope x r),K)∧qu l lT K:=by
 obtain⟨kn,rfl,O⟩:=N
 obtain⟨F,D,H,_⟩:=Mb l lT cl hl hcl hlen l.length (Nat.le_refl _) (fun j U=>Mc l lT cl hl hcl hlen rZ j U) scope x cs hx J.1 J.2 kn O
 have V:JM l l.length scope x=cg l scope x:=by unfold JM cg DM;rw[List.take_length]
 rw[V]at D
 obtain⟨a,Y,rfl,I,RW⟩:=hx.cells
 rw[av afx (by simp[Kp])]
 unfold Gz
 generalize cg l scope x=q at*
 obtain⟨W,X⟩:=q
 simp only at D ⊢
 by_cases h2:X=0
 ·subst h2
  by_cases h1:W=r
  ·subst h1
   simp only[qA,seval,dn,Kp,D,CQ,I.kept1]
   exact⟨_,rfl,F,rfl,H⟩
  ·simp only[qA,seval,dn,Kp,D,CQ,I.kept1,h1]
   exact⟨_,rfl,F,rfl,H⟩
 ·simp only[qA,seval,dn,Kp,D,CQ,I.kept1,h2]
  exact⟨_,rfl,F,rfl,H⟩
end
section
variable(c:Ct)(a7 a8 a9 aw aA az:T)(hT:kP c a7 a8 a9 aw aA az)(hS:qh c)
include hT hS
theorem aFb(I:ah)(fr:Fr)(lh:aE ah)(sh:List ah)(fB:qu c.cs a7 sh)
  (h4:aa fr 4= .ptr .S 2 1 0) (J:aa fr 31=a7) (Z0:aa fr 32= .i .i64 (c.cs.length:Int)) (K:aa fr 33= .i .i64 0) (D:ab lh 1=I):
  pj pE 115 zj fr lh sh 0 2 (LZ c.cs 0 c.cs) (fun r F=>ab r 1=I∧qu c.cs a7 F):=by
 obtain⟨c7,V,W⟩:=hT.h7
 have hlen:=hS.s7.2
 refine bV Hc (fun k f r F=>aa f 33= .i .i64 (k:Int)∧ab r 1=I∧qu c.cs a7 F∧LZ c.cs 0 c.cs=LZ c.cs k (c.cs.drop k)) c.cs.length ⟨K,D,fB,rfl⟩ ?_ ?_
 ·rintro k f r _ hk H ⟨N,D,⟨kn,rfl,X⟩,hr⟩
  have O:(k:Int)<c.cs.length:=zZ
  have hw:=ba (k:=k) zZ
  rw[List.drop_eq_getElem_cons hk,LZ]at hr
  obtain⟨b,cb,rr,U,eW,te,hb⟩:=fS V W k hk
  obtain⟨Y,Z,iU,_⟩:=Mc c.cs a7 c7 V W hlen hS.s7.1 k hk kn X
  obtain⟨G,hG⟩: ∃G,(ab r 6).g+1=G:=⟨_,rfl⟩
  have hD:=aFa c.cs[k].1 [.i .i64 c.cs[k].2.op,.i .i64 c.cs[k].2.num,.s c.cs[k].2.name,b] G
  have h1:qu c.cs a7 (ta a7 (bA c.cs c.cs.length) kn):=⟨kn,rfl,X⟩
  have h2:qu c.cs a7 (ta a7 (bA c.cs c.cs.length) Y):=⟨Y,rfl,iU⟩
  simp only[qB,seval,gd,dn,zj,H,h4,J,Z0,N,D,O,U,hw,hG,hD,Hb,Z,afw,h1,h2]
  clear H hD Z
  grind
 ·rintro f r F H ⟨N,D,h,hr⟩
  simp only[qB,seval,gd,zj,H,Z0,N,D,h,Int.lt_irrefl,hr,List.drop_length,LZ]
end
section
variable(c:Ct)(a7 a8 a9 aw aA az:T)(hT:kP c a7 a8 a9 aw aA az)(hS:qh c)
include hT hS
theorem aFc(I:ah)(fr:Fr)(lh:aE ah)(sh:List ah)(V:qu c.cs a7 sh)
  (h4:aa fr 4= .ptr .S 2 1 0) (J:aa fr 12= .i .i64 (c.cs.length:Int)) (hs:aa fr 65=a8) (hl:aa fr 66= .i .i64 (c.ru.length:Int)) (hi:aa fr 67= .i .i64 0) (D:ab lh 1=I):
  pj pE 115 zh fr lh sh 4 2 (IQ c.cs c.ru) (fun F r=>ab F 1=I∧qu c.cs a7 r):=by
 obtain⟨c7,W,X⟩:=hT.h7
 obtain⟨c8,Y,Z⟩:=hT.h8
 have hlen:=hS.s8.2
 refine bV Ha (fun k f F r=>aa f 67= .i .i64 (k:Int)∧ab F 1=I∧qu c.cs a7 r∧IQ c.cs c.ru=IQ c.cs (c.ru.drop k)) c.ru.length ⟨hi,D,V,rfl⟩ ?_ ?_
 ·rintro k f F r hk H ⟨K,D,rU,hr⟩
  have N:(k:Int)<c.ru.length:=zZ
  have hw:=ba (k:=k) zZ
  rw[List.drop_eq_getElem_cons hk,IQ]at hr
  obtain⟨b,cb,rr,O,eW,hb⟩:=xP Y Z k hk
  obtain⟨sh2,U,Gq⟩:=Gk c.cs a7 c7 W X hS.s7.2 hS.s7.1 c.ru[k].sc 4 c.ru[k].x _ hb (hS.s8.1 c.ru[k] (List.getElem_mem hk)) r rU
  simp only[qB,seval,gd,dn,zh,H,h4,J,hs,hl,K,D,N,O,hw,eW.kept1,U,TM,Gq]
  clear H U
  grind
 ·rintro f F r H ⟨K,D,h,hr⟩
  simp only[qB,seval,gd,zh,H,hl,K,D,h,Int.lt_irrefl,hr,List.drop_length,IQ]
theorem aFd(I:ah)(fr:Fr)(lh:aE ah)(sh:List ah)(V:qu c.cs a7 sh)
  (h4:aa fr 4= .ptr .S 2 1 0) (J:aa fr 12= .i .i64 (c.cs.length:Int)) (hs:aa fr 83=a9) (hl:aa fr 84= .i .i64 (c.co.length:Int)) (hi:aa fr 85= .i .i64 0) (D:ab lh 1=I):
  pj pE 115 zg fr lh sh 6 2 (IS c.cs c.co) (fun F r=>ab F 1=I∧qu c.cs a7 r):=by
 obtain⟨c7,W,X⟩:=hT.h7
 obtain⟨c8,Y,Z⟩:=hT.h9
 have hlen:=hS.s9.2
 refine bV G9 (fun k f F r=>aa f 85= .i .i64 (k:Int)∧ab F 1=I∧qu c.cs a7 r∧IS c.cs c.co=IS c.cs (c.co.drop k)) c.co.length ⟨hi,D,V,rfl⟩ ?_ ?_
 ·rintro k f F r hk H ⟨K,D,rU,hr⟩
  have N:(k:Int)<c.co.length:=zZ
  have hw:=ba (k:=k) zZ
  rw[List.drop_eq_getElem_cons hk,IS]at hr
  obtain⟨b,cb,rr,O,eW,hb⟩:=AY Y Z k hk
  obtain⟨sh2,U,Gq⟩:=Gk c.cs a7 c7 W X hS.s7.2 hS.s7.1 c.co[k].sc 1 c.co[k].x _ hb (hS.s9.1 c.co[k] (List.getElem_mem hk)) r rU
  simp only[qB,seval,gd,dn,zg,H,h4,J,hs,hl,K,D,N,O,hw,eW.kept1,U,TM,Gq]
  clear H U
  grind
 ·rintro f F r H ⟨K,D,h,hr⟩
  simp only[qB,seval,gd,zg,H,hl,K,D,h,Int.lt_irrefl,hr,List.drop_length,IS]
theorem aFe(I:ah)(fr:Fr)(lh:aE ah)(sh:List ah)(V:qu c.cs a7 sh)
  (h4:aa fr 4= .ptr .S 2 1 0) (J:aa fr 12= .i .i64 (c.cs.length:Int)) (hs:aa fr 101=aw) (hl:aa fr 102= .i .i64 (c.cr.length:Int)) (hi:aa fr 103= .i .i64 0) (D:ab lh 1=I):
  pj pE 115 ze fr lh sh 8 2 (Ke c.cs c.cr) (fun F r=>ab F 1=I∧qu c.cs a7 r):=by
 obtain⟨c7,W,X⟩:=hT.h7
 obtain⟨c8,Y,Z⟩:=hT.h10
 have hlen:=hS.s10.2
 refine bV G8 (fun k f F r=>aa f 103= .i .i64 (k:Int)∧ab F 1=I∧qu c.cs a7 r∧Ke c.cs c.cr=Ke c.cs (c.cr.drop k)) c.cr.length ⟨hi,D,V,rfl⟩ ?_ ?_
 ·rintro k f F r hk H ⟨K,D,rU,hr⟩
  have N:(k:Int)<c.cr.length:=zZ
  have hw:=ba (k:=k) zZ
  rw[List.drop_eq_getElem_cons hk,Ke]at hr
  obtain⟨b,cb,rr,O,eW,te,hb⟩:=mK Y Z k hk
  obtain⟨sh2,U,Gq⟩:=Gk c.cs a7 c7 W X hS.s7.2 hS.s7.1 1 2 c.cr[k] _ hb (hS.s10.1 c.cr[k] (List.getElem_mem hk)) r rU
  simp only[qB,seval,gd,dn,ze,H,h4,J,hs,hl,K,D,N,O,hw,eW.kept1,U,TM,Gq]
  clear H U
  grind
 ·rintro f F r H ⟨K,D,h,hr⟩
  simp only[qB,seval,gd,ze,H,hl,K,D,h,Int.lt_irrefl,hr,List.drop_length,Ke]
theorem NB: ∃s,ae pE 71 [.agg (aV c a7 a8 a9 aw aA az)] []=some (.i .i64 (eV c),s):=by
 have r:=ZD c a7 a8 a9 aw aA az hT hS
 have H:=aFb c a7 a8 a9 aw aA az hT hS ⟨1,.cells (aV c a7 a8 a9 aw aA az) 0 true⟩
 have I:=aFc c a7 a8 a9 aw aA az hT hS ⟨1,.cells (aV c a7 a8 a9 aw aA az) 0 true⟩
 have J:=aFd c a7 a8 a9 aw aA az hT hS ⟨1,.cells (aV c a7 a8 a9 aw aA az) 0 true⟩
 have K:=aFe c a7 a8 a9 aw aA az hT hS ⟨1,.cells (aV c a7 a8 a9 aw aA az) 0 true⟩
 obtain⟨⟨c7,F,Y⟩,⟨c8,V,Z⟩,⟨c9,W,j9⟩,⟨ti,D,ye⟩,⟨Gv,N,BG⟩,⟨Kd,O,Dr⟩⟩:=hT
 have X:=YZ c.cs a7 c7 F Y hS.s7.2
 have U:qu c.cs a7 (ta a7 (bA c.cs c.cs.length) []):=⟨[],rfl,fun i t h=>by cases h⟩
 unfold aV at H I J K r ⊢
 rw[av asT (by simp[c71])]
 unfold eV
 simp(maxDischargeDepth:=8) only[qB,seval,dn,c71,G8,G9,Ha,Hc,F.lenI,V.lenI,W.lenI,D.lenI,F.kept,F.froz1,V.froz1,W.froz1,D.froz1,N.froz1,O.froz1,r,atx,X,afu,U,H,I,J,K,aB6,AI]
 clear H I J K r X
 grind (splits:=30)
end
theorem aFf(s:List Nat)(fr:Fr)(lh:aE ah)(sh:List ah)(K:aa fr 0= .s s)(N:aa fr 3= .i .i64 1):
  WS pE 18 tJ fr lh sh 0 2 (¬Sa s) (.b true) (fun F H=>F=lh∧H=sh):=by
 refine lG Pb (by simp[aO]) (fun j f F H=>aa f 3= .i .i64 ((j:Int)+1)∧F=lh∧H=sh∧aeS s j) 3 ⟨N,rfl,rfl,fun i h=>by omega⟩ ?_ ?_
 ·rintro j f _ _ V r ⟨D,rfl,rfl,t⟩
  have I:=Iw ((j:Int)+1) s
  unfold qf at I
  have J:(j:Int)+1≤3:=zZ
  have O:wr .i64 ((j:Int)+1+1)=((j+1:Nat):Int)+1:=bI zZ
  have hc:j=0∨j=1∨j=2:=zZ
  by_cases U:dt ((j:Int)+1) s=0 <;> simp only[qB,seval,gd,tJ,r,K,D,J,O,I,U,CM] <;> clear r I <;> grind [aeS,Sa]
 ·rintro f _ _ r ⟨D,rfl,rfl,t⟩
  rw[show((3:Nat):Int)+1=4 from rfl]at D
  have a:=t 0 zz
  have b:=t 1 zz
  have c:=t 2 zz
  simp only[qB,seval,gd,tJ,r,D]
  grind [Sa]
theorem RF(s:List Nat):ae pE 166 [.s s] []=some (.b (decide (Sa s)),[]):=by
 have r:=aFf s
 rw[av afK (by simp[SL])]
 by_cases h:Sa s <;> simp only[qB,seval,SL,r,h]
section
variable(c:Ct)(a7 a8 a9 aw aA az:T)(hT:kP c a7 a8 a9 aw aA az)(hS:qh c)
include hT hS
theorem Gl(scope r:Int)(x:Ex)(cs:List T)(hx:gr x cs)(J:(scope,x)∈nw):ae pE 167 [.agg (aV c a7 a8 a9 aw aA az),.i .i64 scope,.agg cs,.i .i64 r] []=some (.i .i64 (Gz c.cs scope x r),[]):=by
 obtain⟨c7,H,K⟩:=hT.h7
 obtain⟨j,N,I⟩:=hS.b7
 obtain⟨e,F,_⟩:=OM I H K
 have D:=aEO e j N _ J
 rw[←F,←I,←show cs=fw x from hx]at D
 obtain⟨a,U,rfl,O,RW⟩:=hx.cells
 rw[av TY (by simp[SM])]
 unfold Gz aV
 simp only[qB,seval,SM,D,ae8,O.froz1,H.froz]
 grind
theorem aFg(fr:Fr)(lh:aE ah)(sh:List ah)(h1:aa fr 1= .ptr .L 1 1 0)(hi:aa fr 4= .i .i64 0)(r:ab lh 1=⟨1,.cells (aV c a7 a8 a9 aw aA az) 0 true⟩):
  pj pE 114 zw fr lh sh 0 2 (LZ c.cs 0 c.cs) (fun H K=>ab H 1=⟨1,.cells (aV c a7 a8 a9 aw aA az) 0 true⟩∧K=sh):=by
 obtain⟨c7,N,X⟩:=hT.h7
 have hlen:=hS.s7.2
 have rZ:=hS.s7.1
 refine bV Hm (fun k f H K=>aa f 4= .i .i64 (k:Int)∧ab H 1=⟨1,.cells (aV c a7 a8 a9 aw aA az) 0 true⟩∧K=sh∧LZ c.cs 0 c.cs=LZ c.cs k (c.cs.drop k)) c.cs.length ⟨hi,r,rfl,rfl⟩ ?_ ?_
 ·rintro k f H _ hk J ⟨O,r,rfl,hr⟩
  have U:(k:Int)<c.cs.length:=zZ
  have D:k≤c.cs.length:=Nat.le_of_lt hk
  have Y:=ba (k:=k) zZ
  rw[List.drop_eq_getElem_cons hk,LZ]at hr
  obtain⟨b,cb,rr,V,Z,te,hb⟩:=fS N X k hk
  obtain⟨xS,Z8⟩:=rZ c.cs[k] (List.getElem_mem hk)
  have iY:=RF c.cs[k].1
  obtain⟨ex,rfl,rU,Gq,W⟩:=aeQ c.cs a7 c7 hk N X
  have hlt:(c.cs.take k).length=k:=by rw[List.length_take,Nat.min_eq_left D]
  have F:ae pE 102 [.sl (List.take (k*5) c7) k (ex&&decide (k=c.cs.length)),.i .i64 0,.agg [.i .i64 c.cs[k].2.op,.i .i64 c.cs[k].2.num,.s c.cs[k].2.name,b]] []=some (.tup [.i .i64 (cg (c.cs.take k) 0 c.cs[k].2).1,.i .i64 (cg (c.cs.take k) 0 c.cs[k].2).2],[]):=by
   obtain⟨j,hj,I⟩:=hS.b7
   have BI:k=0:=by rw[I]at hk;simpa[jL]using hk
   subst BI
   have hx:c.cs[0].2=mL j:=by simp[I,jL]
   rw[show [T.i .i64 c.cs[0].2.op,.i .i64 c.cs[0].2.num,.s c.cs[0].2.name,b]=fw c.cs[0].2 from hb,hx]
   exact tyc _ j (j3 hj)
  rw[Mr c.cs D,←F2 c.cs hk]at F
  unfold aV at r ⊢
  by_cases hs:Sa c.cs[k].1 <;> simp only[qB,seval,gd,sI,bj,aH,zw,J,h1,O,r,U,V,Z.froz1,iY,hs,atU,Y,D,W,Nat.sub_zero,F,ae8,ath] <;> clear J F <;> grind
 ·rintro f H _ J ⟨O,r,rfl,hr⟩
  unfold aV at r ⊢
  simp only[qB,seval,gd,zw,J,h1,O,r,N.lenI,Int.lt_irrefl,hr,List.drop_length,LZ]
theorem aFi(fr:Fr)(lh:aE ah)(sh:List ah)(h1:aa fr 1= .ptr .L 1 1 0)(hi:aa fr 7= .i .i64 0)(r:ab lh 1=⟨1,.cells (aV c a7 a8 a9 aw aA az) 0 true⟩):
  pj pE 114 zu fr lh sh 2 2 (IQ c.cs c.ru) (fun D I=>ab D 1=⟨1,.cells (aV c a7 a8 a9 aw aA az) 0 true⟩∧I=sh):=by
 have J:=hT
 obtain⟨⟨c7,Y,j7⟩,⟨c8,H,Z⟩,⟨c9,i9,j9⟩,⟨ti,K,ye⟩,⟨Gv,N,BG⟩,⟨Kd,O,Dr⟩⟩:=hT
 have hlen:=hS.s8.2
 refine bV Hl (fun k f D I=>aa f 7= .i .i64 (k:Int)∧ab D 1=⟨1,.cells (aV c a7 a8 a9 aw aA az) 0 true⟩∧I=sh∧IQ c.cs c.ru=IQ c.cs (c.ru.drop k)) c.ru.length ⟨hi,r,rfl,rfl⟩ ?_ ?_
 ·rintro k f D _ hk U ⟨V,r,rfl,hr⟩
  have W:(k:Int)<c.ru.length:=zZ
  have hw:=ba (k:=k) zZ
  rw[List.drop_eq_getElem_cons hk,IQ]at hr
  obtain⟨b,cb,rr,X,eW,hb⟩:=xP H Z k hk
  have F:=Gl c a7 a8 a9 aw aA az J hS c.ru[k].sc 4 c.ru[k].x _ hb (hS.b8 c.ru[k] (List.getElem_mem hk))
  unfold aV at r F ⊢
  simp only[qB,seval,gd,bj,aH,zu,U,h1,V,r,H.lenI,W,X,eW.froz1,Y.froz1,H.froz1,i9.froz1,K.froz1,N.froz1,O.froz1,F,TZ,T1,hw]
  grind
 ·rintro f D _ U ⟨V,r,rfl,hr⟩
  unfold aV at r ⊢
  simp only[qB,seval,gd,zu,U,h1,V,r,H.lenI,Int.lt_irrefl,hr,List.drop_length,IQ]
theorem aFj(fr:Fr)(lh:aE ah)(sh:List ah)(h1:aa fr 1= .ptr .L 1 1 0)(hi:aa fr 9= .i .i64 0)(r:ab lh 1=⟨1,.cells (aV c a7 a8 a9 aw aA az) 0 true⟩):
  pj pE 114 zt fr lh sh 4 2 (IS c.cs c.co) (fun D I=>ab D 1=⟨1,.cells (aV c a7 a8 a9 aw aA az) 0 true⟩∧I=sh):=by
 have J:=hT
 obtain⟨⟨c7,Y,j7⟩,⟨c8,Z,j8⟩,⟨c9,H,j9⟩,⟨ti,K,ye⟩,⟨Gv,N,BG⟩,⟨Kd,O,Dr⟩⟩:=hT
 have hlen:=hS.s9.2
 refine bV Hk (fun k f D I=>aa f 9= .i .i64 (k:Int)∧ab D 1=⟨1,.cells (aV c a7 a8 a9 aw aA az) 0 true⟩∧I=sh∧IS c.cs c.co=IS c.cs (c.co.drop k)) c.co.length ⟨hi,r,rfl,rfl⟩ ?_ ?_
 ·rintro k f D _ hk U ⟨V,r,rfl,hr⟩
  have W:(k:Int)<c.co.length:=zZ
  have hw:=ba (k:=k) zZ
  rw[List.drop_eq_getElem_cons hk,IS]at hr
  obtain⟨b,cb,rr,X,eW,hb⟩:=AY H j9 k hk
  have F:=Gl c a7 a8 a9 aw aA az J hS c.co[k].sc 1 c.co[k].x _ hb (hS.b9 c.co[k] (List.getElem_mem hk))
  unfold aV at r F ⊢
  simp only[qB,seval,gd,bj,aH,zt,U,h1,V,r,H.lenI,W,X,eW.froz1,Y.froz1,Z.froz1,H.froz1,K.froz1,N.froz1,O.froz1,F,TZ,T1,hw]
  grind
 ·rintro f D _ U ⟨V,r,rfl,hr⟩
  unfold aV at r ⊢
  simp only[qB,seval,gd,zt,U,h1,V,r,H.lenI,Int.lt_irrefl,hr,List.drop_length,IS]
theorem aFk(fr:Fr)(lh:aE ah)(sh:List ah)(h1:aa fr 1= .ptr .L 1 1 0)(hi:aa fr 11= .i .i64 0)(D:ab lh 1=⟨1,.cells (aV c a7 a8 a9 aw aA az) 0 true⟩):
  pj pE 114 zr fr lh sh 6 2 (Ke c.cs c.cr) (fun F I=>ab F 1=⟨1,.cells (aV c a7 a8 a9 aw aA az) 0 true⟩∧I=sh):=by
 have J:=hT
 obtain⟨⟨c7,X,j7⟩,⟨c8,Y,j8⟩,⟨c9,Z,j9⟩,⟨ti,r,ye⟩,⟨Gv,K,BG⟩,⟨Kd,N,Dr⟩⟩:=hT
 have hlen:=hS.s10.2
 refine bV Hj (fun k f F I=>aa f 11= .i .i64 (k:Int)∧ab F 1=⟨1,.cells (aV c a7 a8 a9 aw aA az) 0 true⟩∧I=sh∧Ke c.cs c.cr=Ke c.cs (c.cr.drop k)) c.cr.length ⟨hi,D,rfl,rfl⟩ ?_ ?_
 ·rintro k f F _ hk O ⟨U,D,rfl,hr⟩
  have V:(k:Int)<c.cr.length:=zZ
  have hw:=ba (k:=k) zZ
  rw[List.drop_eq_getElem_cons hk,Ke]at hr
  obtain⟨b,cb,rr,W,eW,te,hb⟩:=mK r ye k hk
  have H:=Gl c a7 a8 a9 aw aA az J hS 1 2 c.cr[k] _ hb (hS.b10 c.cr[k] (List.getElem_mem hk))
  unfold aV at D H ⊢
  simp only[qB,seval,gd,bj,aH,zr,O,h1,U,D,r.lenI,V,W,eW.froz1,X.froz1,Y.froz1,Z.froz1,r.froz1,K.froz1,N.froz1,H,TZ,T1,hw]
  grind
 ·rintro f F _ O ⟨U,D,rfl,hr⟩
  unfold aV at D ⊢
  simp only[qB,seval,gd,zr,O,h1,U,D,r.lenI,Int.lt_irrefl,hr,List.drop_length,Ke]
theorem QM:ae pE 93 [.agg (aV c a7 a8 a9 aw aA az)] []=some (.i .i64 (eV c),[]):=by
 have r:=JG c a7 a8 a9 aw aA az hT hS
 have I:=aFg c a7 a8 a9 aw aA az hT hS
 have J:=aFi c a7 a8 a9 aw aA az hT hS
 have K:=aFj c a7 a8 a9 aw aA az hT hS
 have N:=aFk c a7 a8 a9 aw aA az hT hS
 obtain⟨⟨c7,O,W⟩,⟨c8,U,X⟩,⟨c9,V,Y⟩,⟨ti,D,Z⟩,⟨Gv,F,BG⟩,⟨Kd,H,Dr⟩⟩:=hT
 unfold aV at I J K N r ⊢
 rw[av ai6 (by simp[c93])]
 unfold eV
 simp(maxDischargeDepth:=8) only[qB,seval,c93,Hj,Hk,Hl,Hm,O.froz1,U.froz1,V.froz1,D.froz1,F.froz1,H.froz1,r,aff,I,J,K,N]
 grind
end
def uY(n:Int):Bool:=decide (-840≤n)&&decide (n≤840)
def qk(n:Int):Bool:=decide (0≤n)&&decide (n<52596000)
theorem OP(n:Int):ae pE 208 [.i .i64 n] []=some (.b (uY n),[]):=by
 rw[av aga (by simp[S5])]
 unfold uY
 by_cases h: -840≤n <;> simp only[qA,seval,S5,h]
theorem OQ(n:Int):ae pE 234 [.i .i64 n] []=some (.b (uY n),[]):=by
 rw[av ags (by simp[Tg])]
 unfold uY
 by_cases h: -840≤n <;> simp only[qA,seval,Tg,h]
theorem aeT(n:Int):ae pE 209 [.i .i64 n] []=some (.b (qk n),[]):=by
 rw[av agb (by simp[S6])]
 unfold qk
 by_cases h:0≤n <;> simp only[qA,seval,S6,h]
theorem NJ(n:Int):ae pE 235 [.i .i64 n] []=some (.b (qk n),[]):=by
 rw[av agt (by simp[Th])]
 unfold qk
 by_cases h:0≤n <;> simp only[qA,seval,Th,h]
structure Zo where
 nm:List Nat
 o:Int
 sh:List (Int×Int)
def RT(s:Int×Int)(c:List T):Prop:=c= [.i .i64 s.1,.i .i64 s.2]
theorem RT.len(s:Int×Int)(c:List T)(h:RT s c):c.length=2:=by rw[h];rfl
def Dv(D:Option Int):List (Int×Int)→Int
 | []=>0
 |s::r=>if(qk s.1&&uY s.2)=false then 5 else if(match D with|some p=>decide (s.1≤p)|none=>false)=true then 8 else Dv (some s.1) r
def qv(l:List (Int×Int))(k:Nat):Option Int:=if k=0 then none else(l[k-1]?).map (·.1)
theorem ZE{l:List (Int×Int)}{k:Nat}(hk:k<l.length):Dv (qv l k) (l.drop k)=if(qk l[k].1&&uY l[k].2)=false then 5 else if(match qv l k with|some p=>decide (l[k].1≤p)|none=>false)=true then 8 else Dv (qv l (k+1)) (l.drop (k+1)):=by
 have e:qv l (k+1)=some l[k].1:=by unfold qv;rw[if_neg zZ,Nat.add_sub_cancel,List.getElem?_eq_getElem hk];rfl
 rw[List.drop_eq_getElem_cons hk,e]
 conv=>lhs;unfold Dv
theorem DZ{l:List (Int×Int)}{k:Nat}(h0:0<k)(hk:k-1<l.length):qv l k=some l[k-1].1:=by
 unfold qv;rw[if_neg zZ,List.getElem?_eq_getElem hk];rfl
theorem kR{k:Nat}(h0:0<k)(h:k<4611686018427387904):wr .i64 ((k:Int)-1)=((k-1:Nat):Int):=by rw[bI zZ];omega
def gG(z:Zo):Int:=if iX z.nm=false then 1 else if uY z.o=false then 5 else if 16<z.sh.length then 10 else Dv none z.sh
theorem I2{l:List (Int×Int)}{a:T}{D:List T}(F:IsSl a l.length D)(hc:aC RT l D){k:Nat}(hk:k<l.length): ∃r,∀kk,iaV a (.i kk (k:Int)) 2=some (.vp (.i .i64 l[k].1:: .i .i64 l[k].2::r)):=by
 obtain⟨c,r,h1,h2⟩:=gJ (k:=2) RT.len F hc k hk
 rw[RT]at h2
 subst h2
 exact⟨r,h1⟩
theorem aFl(z:Zo)(a:T)(U:List T)(V:IsSl a z.sh.length U)(hc:aC RT z.sh U)(hlen:z.sh.length≤16)(fr:Fr)(lh:aE ah)(sh:List ah)
  (h1:aa fr 1= .ptr .L 1 1 0) (W:aa fr 18=a) (Fy:aa fr 19= .i .i64 (z.sh.length:Int)) (K:aa fr 20= .i .i64 0) (D:ab lh 1=⟨1,.cells [.s z.nm,.i .i64 z.o,a] 0 true⟩):
  pj pE 50 qy fr lh sh 0 2 (Dv none z.sh) (fun I N=>N=sh):=by
 refine bV OV (fun k f I N=>aa f 20= .i .i64 (k:Int)∧ab I 1=⟨1,.cells [.s z.nm,.i .i64 z.o,a] 0 true⟩∧N=sh∧Dv none z.sh=Dv (qv z.sh k) (z.sh.drop k)) z.sh.length ⟨K,D,rfl,rfl⟩ ?_ ?_
 ·rintro k f I _ hk r ⟨J,D,rfl,hr⟩
  rw[ZE hk]at hr
  have F:(k:Int)<z.sh.length:=zZ
  have X:=aG (k:=k) zZ
  obtain⟨rr,H⟩:=I2 V hc hk
  have Y:=cH (aeT z.sh[k].1)
  have Z:=cH (OP z.sh[k].2)
  by_cases BI:k=0
  ·have O: ¬(0:Int)<k:=zZ
   have hp:qv z.sh k=none:=by rw[BI];rfl
   simp only[qB,seval,gd,qy,r,W,Fy,J,D,F,H,Y,Z,O,X,agc,MI]
   clear r
   grind
  ·have O:(0:Int)<k:=zZ
   have GA:=kR (k:=k) zZ zZ
   obtain⟨r2,Kf⟩:=I2 V hc (k:=k-1) zZ
   have hp:=DZ (l:=z.sh) (k:=k) zZ zZ
   simp only[qB,seval,gd,qy,r,h1,W,Fy,J,D,F,H,Y,Z,O,X,GA,Kf,agc,MI]
   clear r
   grind
 ·rintro f I _ r ⟨J,D,rfl,hr⟩
  simp only[qB,seval,gd,qy,r,Fy,J,Int.lt_irrefl,hr,List.drop_length,Dv]
theorem ZF(z:Zo)(a:T)(r:List T)(D:IsSl a z.sh.length r)(hc:aC RT z.sh r):ae pE 126 [.agg [.s z.nm,.i .i64 z.o,a]] []=some (.i .i64 (gG z),[]):=by
 rw[av afm (by simp[OW])]
 have F:=cH (uM z.nm)
 have H:=cH (OP z.o)
 unfold gG
 by_cases hl:z.sh.length≤16
 ·have I:=aFl z a r D hc hl
  simp only[qB,seval,OW,F,H,D.lenI,I,PB,MI]
  grind
 ·simp only[qB,seval,OW,F,H,D.lenI,PB,MI]
  grind
theorem aFm(z:Zo)(a:T)(V:List T)(F:IsSl a z.sh.length V)(hc:aC RT z.sh V)(hlen:z.sh.length≤16)(fr:Fr)(lh:aE ah)(sh:List ah)
  (h1:aa fr 1= .ptr .L 1 1 0) (N:aa fr 3= .i .i64 0) (r:ab lh 1=⟨1,.cells [.s z.nm,.i .i64 z.o,a] 0 true⟩):
  pj pE 59 qC fr lh sh 0 2 (Dv none z.sh) (fun J O=>O=sh):=by
 refine bV O4 (fun k f J O=>aa f 3= .i .i64 (k:Int)∧ab J 1=⟨1,.cells [.s z.nm,.i .i64 z.o,a] 0 true⟩∧O=sh∧Dv none z.sh=Dv (qv z.sh k) (z.sh.drop k)) z.sh.length ⟨N,r,rfl,rfl⟩ ?_ ?_
 ·rintro k f J _ hk D ⟨K,r,rfl,hr⟩
  rw[ZE hk]at hr
  have H:(k:Int)<z.sh.length:=zZ
  have W:=aG (k:=k) zZ
  obtain⟨rr,I⟩:=I2 F hc hk
  have X:=cH (NJ z.sh[k].1)
  have Y:=cH (OQ z.sh[k].2)
  by_cases BI:k=0
  ·have U: ¬(0:Int)<k:=zZ
   have Z:qv z.sh k=none:=by rw[BI];rfl
   simp only[qB,seval,gd,qC,D,h1,F.lenI,K,r,H,I,X,Y,U,W,Uj,MK]
   clear D
   grind
  ·have U:(0:Int)<k:=zZ
   have GA:=kR (k:=k) zZ zZ
   obtain⟨r2,Kf⟩:=I2 F hc (k:=k-1) zZ
   have Z:=DZ (l:=z.sh) (k:=k) zZ zZ
   simp only[qB,seval,gd,qC,D,h1,F.lenI,K,r,H,I,X,Y,U,W,GA,Kf,Uj,MK]
   clear D
   grind
 ·rintro f J _ D ⟨K,r,rfl,hr⟩
  simp only[qB,seval,gd,qC,D,h1,F.lenI,K,r,Int.lt_irrefl,hr,List.drop_length,Dv]
theorem Ba(z:Zo)(a:T)(r:List T)(D:IsSl a z.sh.length r)(hc:aC RT z.sh r):ae pE 161 [.agg [.s z.nm,.i .i64 z.o,a]] []=some (.i .i64 (gG z),[]):=by
 rw[av afG (by simp[O5])]
 have F:=cH (AL z.nm)
 have H:=cH (OQ z.o)
 unfold gG
 by_cases hl:z.sh.length≤16
 ·have I:=aFm z a r D hc hl
  simp only[qB,seval,O5,F,H,D.lenI,I,TD,MK]
  grind
 ·simp only[qB,seval,O5,F,H,D.lenI,TD,MK]
  grind
def GJ(c:Nat):Prop:=(65:Int)≤c∧(c:Int)≤90
instance (c:Nat):Decidable (GJ c):=by unfold GJ;infer_instance
def Gm(c:Nat):Bool:=decide (GJ c∨EU c)
def DI(s:List Nat):Bool:=decide (1≤s.length)&&(decide (s.length≤8)&&s.all Gm)
def Cd(s:List Nat):Bool:=decide (s.length=3)&&s.all fun c=>decide (GJ c)
structure Ap where
 cd:List Nat
 zn:List Nat
structure Fl where
 nu:List Nat
 fr:List Nat
 to:List Nat
 dp:Int
 ar:Int
 ty:List Nat
 n0:Int
 n1:Int
 n2:Int
structure Tt where
 zo:List Zo
 ap:List Ap
 fl:List Fl
def BE(z:Zo)(c:List T):Prop:= ∃a r,c= [.s z.nm,.i .i64 z.o,a]∧IsSl a z.sh.length r∧aC RT z.sh r
def Ls(u:Ap)(c:List T):Prop:=c= [.s u.cd,.s u.zn]
def sV(f:Fl):List T:= [.s f.nu,.s f.fr,.s f.to,.i .i64 f.dp,.i .i64 f.ar,.s f.ty,.i .i64 f.n0,.i .i64 f.n1,.i .i64 f.n2]
def RR(f:Fl)(c:List T):Prop:=c=sV f
theorem BE.len(z:Zo)(c:List T)(h:BE z c):c.length=3:=by obtain⟨a,r,rfl,_⟩:=h;rfl
theorem Ls.len(u:Ap)(c:List T)(h:Ls u c):c.length=2:=by rw[h];rfl
theorem RR.len(f:Fl)(c:List T)(h:RR f c):c.length=9:=by rw[h];rfl
theorem IC{xs:List Zo}{a:T}{H:List T}(h1:IsSl a xs.length H)(h2:aC BE xs H)(i:Nat)(hi:i<xs.length): ∃D F r,(∀kk,iaV a (.i kk (i:Int)) 3=some (.vp (.s xs[i].nm:: .i .i64 xs[i].o::D::r)))∧IsSl D xs[i].sh.length F∧aC RT xs[i].sh F:=by
 obtain⟨c,r,e,h⟩:=gJ (k:=3) BE.len h1 h2 i hi
 obtain⟨D,F,rfl,I,J⟩:=h
 exact⟨D,F,r,e,I,J⟩
theorem ID{xs:List Ap}{a:T}{D:List T}(h1:IsSl a xs.length D)(h2:aC Ls xs D)(i:Nat)(hi:i<xs.length): ∃r,∀kk,iaV a (.i kk (i:Int)) 2=some (.vp (.s xs[i].cd:: .s xs[i].zn::r)):=by
 obtain⟨c,r,e,h⟩:=gJ (k:=2) Ls.len h1 h2 i hi
 rw[Ls]at h
 subst h
 exact⟨r,e⟩
theorem mr{xs:List Fl}{a:T}{D:List T}(h1:IsSl a xs.length D)(h2:aC RR xs D)(i:Nat)(hi:i<xs.length): ∃r,∀kk,iaV a (.i kk (i:Int)) 9=some (.vp (.s xs[i].nu:: .s xs[i].fr:: .s xs[i].to:: .i .i64 xs[i].dp:: .i .i64 xs[i].ar:: .s xs[i].ty:: .i .i64 xs[i].n0:: .i .i64 xs[i].n1:: .i .i64 xs[i].n2::r)):=by
 obtain⟨c,r,e,h⟩:=gJ (k:=9) RR.len h1 h2 i hi
 rw[RR]at h
 subst h
 exact⟨r,e⟩
def Gw(seen:List (List Nat)):List Zo→Int
 | []=>0
 |z::r=>if gG z≠0 then gG z else if z.nm∈seen then 7 else Gw (seen++ [z.nm]) r
def Gx(D seen:List (List Nat)):List Ap→Int
 | []=>0
 |a::r=>if Cd a.cd=false then 1 else if a.cd∈seen then 7 else if a.zn∉D then 6 else Gx D (seen++ [a.cd]) r
def pq(n:Int):Bool:=decide (0≤n)&&decide (n≤8)
def IW(f:Fl):Bool:=decide (2880≤f.dp)&&(decide (f.ar≤52593120)&&(decide (f.dp<f.ar)&&decide (f.ar-f.dp≤1440)))
def Ce(r:List (List Nat))(f:Fl):Int:=
 if DI f.nu=false then 1 else if iX f.ty=false then 1 else if f.fr∉r then 6 else if f.to∉r then 6 else if f.fr=f.to then 14 else if IW f=false then 5 else if(pq f.n0&&(pq f.n1&&pq f.n2))=false then 5 else 0
def FG(f g:Fl):Bool:=if f.dp≠g.dp then decide (f.dp<g.dp)else lessN f.nu g.nu
def BH(F:List (List Nat))(D:Option Fl):List Fl→Int
 | []=>0
 |f::r=>if Ce F f≠0 then Ce F f else if(match D with|some p=> !FG p f|none=>false)=true then 8 else BH F (some f) r
def Tt.big(t:Tt):Prop:=16<t.zo.length∨64<t.ap.length∨200<t.fl.length
def pG(t:Tt):Int:=
 if 16<t.zo.length then 10 else if 64<t.ap.length then 10 else if 200<t.fl.length then 10 else if Gw [] t.zo≠0 then Gw [] t.zo else if Gx (t.zo.map Zo.nm) [] t.ap≠0 then Gx (t.zo.map Zo.nm) [] t.ap else BH (t.ap.map Ap.cd) none t.fl
def Sb(seen:List (List Nat)):List T:=(seen.map fun x=>(x,true)).map fun p=>sK p.1
def Sc(seen:List (List Nat)):List T:=(seen.map fun x=>(x,true)).map fun p=>T.b p.2
theorem J4(seen:List (List Nat))(s:List Nat):iq (.one .str) (Sb seen) (Sc seen) (.s s) (.b false) false=some (.b (decide (s∈seen))):=Gj seen s
theorem ZG(seen:List (List Nat))(s:List Nat)(h:s∉seen):lq (.one .str) (.s s) (.b true) (Sb seen) (Sc seen)=some (Sb (seen++ [s]),Sc (seen++ [s])):=BB seen s h
theorem vI{α β:Type}(f:α→β){l:List α}{k:Nat}(hk:k<l.length):(l.take (k+1)).map f=(l.take k).map f++ [f l[k]]:=by rw[List.take_succ_eq_append_getElem hk,List.map_append];rfl
theorem ayu(s:List Nat)(hs:s.length≤8)(fr:Fr)(lh:aE ah)(sh:List ah)(h0:aa fr 0= .s s)(J:aa fr 14= .i .i64 (s.length:Int))(K:aa fr 15= .i .i64 0):
  WS pE 37 tP fr lh sh 0 2 (s.all Gm=true) (.b false) (fun D F=>F=sh):=by
 refine lG Pj (by simp[aO]) (fun k f D F=>aa f 15= .i .i64 (k:Int)∧F=sh∧s.all Gm=(s.drop k).all Gm) s.length ⟨K,rfl,rfl⟩ ?_ ?_
 ·rintro k f D _ hk r ⟨H,rfl,hr⟩
  have I:(k:Int)<s.length:=zZ
  have N:=aG (k:=k) zZ
  have QF:=xO hk
  rw[List.drop_eq_getElem_cons hk,List.all_cons]at hr
  simp only[qB,seval,gd,tP,r,h0,J,H,I,QF,N]
  clear r QF
  unfold Gm GJ EU at*
  grind
 ·rintro f D _ r ⟨H,rfl,hr⟩
  rw[List.drop_length,List.all_nil]at hr
  simp only[qB,seval,gd,tP,r,J,H,Int.lt_irrefl,hr]
theorem ZH(s:List Nat):ae pE 210 [.s s] []=some (.b (DI s),[]):=by
 rw[av agd (by simp[Pk])]
 unfold DI
 by_cases h:s.length≤8
 ·have r:=ayu s h
  simp only[qB,seval,Pk,r]
  clear r
  grind
 ·simp only[qB,seval,Pk]
  grind
theorem vJ(c:Nat):ae pE 236 [.i .u8 c] []=some (.b (decide (GJ c)),[]):=by
 rw[av agu (by simp[Pp])]
 by_cases h1:(65:Int)≤c
 ·by_cases h2:(c:Int)≤90 <;> simp only[qA,seval,Pp,h1,h2,GJ]
 ·simp only[qA,seval,Pp,h1,GJ]
theorem ayv(s:List Nat)(hs:s.length≤fX)(fr:Fr)(lh:aE ah)(sh:List ah)(h0:aa fr 0= .s s)(h3:aa fr 3= .i .i64 0):
  WS pE 30 tQ fr lh sh 0 2 (s.all Gm=true) (.b false) (fun D F=>F=sh):=by
 refine lG CF (by simp[aO]) (fun k f D F=>aa f 3= .i .i64 (k:Int)∧F=sh∧s.all Gm=(s.drop k).all Gm) s.length ⟨h3,rfl,rfl⟩ ?_ ?_
 ·rintro k f D _ hk r ⟨H,rfl,hr⟩
  have I:(k:Int)<s.length:=zZ
  have N:=Y9 (k:=k) zZ
  have QF:=xO hk
  have J:=cH (vJ s[k])
  have K:=cH (De s[k])
  rw[List.drop_eq_getElem_cons hk,List.all_cons]at hr
  simp only[qB,seval,gd,tQ,r,h0,H,I,QF,N,J,K,agv,afN]
  clear r QF J K
  unfold Gm at*
  grind
 ·rintro f D _ r ⟨H,rfl,hr⟩
  rw[List.drop_length,List.all_nil]at hr
  simp only[qB,seval,gd,tQ,r,h0,H,Int.lt_irrefl,hr]
theorem ZI(s:List Nat)(hs:s.length≤fX):ae pE 237 [.s s] []=some (.b (DI s),[]):=by
 rw[av agw (by simp[Ti])]
 unfold DI
 have r:=ayv s hs
 simp only[qB,seval,Ti,CF,r]
 clear r
 grind
theorem ayw(s:List Nat)(hs:s.length=3)(fr:Fr)(lh:aE ah)(sh:List ah)(h0:aa fr 0= .s s)(J:aa fr 8= .i .i64 (s.length:Int))(K:aa fr 9= .i .i64 0):
  WS pE 23 tB fr lh sh 0 2 ((s.all fun c=>decide (GJ c))=true) (.b false) (fun D F=>F=sh):=by
 refine lG OX (by simp[aO]) (fun k f D F=>aa f 9= .i .i64 (k:Int)∧F=sh∧(s.all fun c=>decide (GJ c))=(s.drop k).all fun c=>decide (GJ c)) s.length ⟨K,rfl,rfl⟩ ?_ ?_
 ·rintro k f D _ hk r ⟨H,rfl,hr⟩
  have I:(k:Int)<s.length:=zZ
  have N:=aG (k:=k) zZ
  have QF:=xO hk
  rw[List.drop_eq_getElem_cons hk,List.all_cons]at hr
  simp only[qB,seval,gd,tB,r,h0,J,H,I,QF,N]
  clear r QF
  unfold GJ at*
  grind
 ·rintro f D _ r ⟨H,rfl,hr⟩
  rw[List.drop_length,List.all_nil]at hr
  simp only[qB,seval,gd,tB,r,J,H,Int.lt_irrefl,hr]
theorem aeU(s:List Nat):ae pE 127 [.s s] []=some (.b (Cd s),[]):=by
 rw[av afo (by simp[OY])]
 unfold Cd
 by_cases h1:s.length=3
 ·have r:=ayw s h1
  rw[h1]at r
  simp only[qB,seval,OY,h1,r]
  clear r
  grind
 ·have D: ¬(s.length:Int)=3:=zZ
  simp only[qA,seval,OY,h1,D]
theorem aeV(s:List Nat):ae pE 163 [.s s] []=some (.b (Cd s),[]):=by
 rw[av afI (by simp[O7])]
 by_cases h1:s.length=3
 ·obtain⟨a,b,c,rfl⟩: ∃a b c,s= [a,b,c]:=by
   match s,h1 with
   | [a,b,c],_=>exact⟨a,b,c,rfl⟩
  have r:=vJ a
  have D:=vJ b
  have F:=vJ c
  have H: ∀kk,B7 (.s [a,b,c]) (.i kk 0)=some (.i .u8 (a:Int)):=fun kk=>xO (s:= [a,b,c]) (k:=0) zP kk
  have I: ∀kk,B7 (.s [a,b,c]) (.i kk 1)=some (.i .u8 (b:Int)):=fun kk=>xO (s:= [a,b,c]) (k:=1) zP kk
  have J: ∀kk,B7 (.s [a,b,c]) (.i kk 2)=some (.i .u8 (c:Int)):=fun kk=>xO (s:= [a,b,c]) (k:=2) zP kk
  have e:Cd [a,b,c]=(decide (GJ a)&&(decide (GJ b)&&decide (GJ c))):=by simp[Cd]
  rw[e]
  cases h1:decide (GJ a) <;> cases h2:decide (GJ b) <;> cases h3:decide (GJ c) <;> rw[h1]at r <;> rw[h2]at D <;> rw[h3]at F <;> simp only[qA,seval,O7,H,I,J,r,D,F,agv]
 ·have K: ¬(s.length:Int)=3:=zZ
  have e:Cd s=false:=by simp[Cd,h1]
  rw[e]
  simp only[qA,seval,O7,K]
theorem aFn(r D F:Int)(fr:Fr)(lh:aE ah)(sh:List ah)(I:aa fr 62= .agg [.i .i64 r,.i .i64 D,.i .i64 F])(O:aa fr 63= .i .i64 0):
  pj pE 73 tC fr lh sh 1 4 (if [r,D,F].all pq then 0 else 5) (fun J K=>K=sh):=by
 refine bV OZ (fun k f J K=>aa f 63= .i .i64 (k:Int)∧K=sh∧ [r,D,F].all pq=([r,D,F].drop k).all pq) 3 ⟨O,rfl,rfl⟩ ?_ ?_
 ·rintro k f J _ hk H ⟨N,rfl,hr⟩
  have hc:k=0∨k=1∨k=2:=zZ
  unfold pq at*
  rcases hc with rfl|rfl|rfl <;> simp only[qB,seval,gd,abp,tC,H,I,N,Int.ofNat_zero,Int.ofNat_one] <;> clear H <;> simp at hr ⊢ <;> grind
 ·rintro f J _ H ⟨N,rfl,hr⟩
  simp only[qB,seval,gd,tC,H,N,Int.lt_irrefl,hr]
theorem anb(r:List (List Nat))(f:Fl):ae pE 128 [.agg (sV f),.vm (Sb r) (Sc r)] []=some (.i .i64 (Ce r f),[]):=by
 have D:=cH (ZH f.nu)
 have F:=cH (uM f.ty)
 have H:=J4 r f.fr
 have I:=J4 r f.to
 have J:=aFn f.n0 f.n1 f.n2
 have O:= @bI (f.ar-f.dp)
 rw[av afq (by simp[Sy])]
 unfold Ce sV
 by_cases K:f.fr∈r <;> by_cases N:f.to∈r <;> simp only[qB,seval,Sy,D,F,aug,PB,H,I,K,N,J]
 all_goals clear J D F H I
 all_goals try unfold IW
 all_goals grind (splits:=30)
theorem aeW(f g:Fl):ae pE 129 [.agg (sV f),.agg (sV g)] []=some (.b (FG f g),[]):=by
 rw[av TK (by simp[Sz])]
 unfold FG sV
 by_cases h:f.dp=g.dp <;> simp only[qA,seval,Sz,h]
theorem aFo(l:List Zo)(a:T)(Y:List T)(ha:IsSl a l.length Y)(hc:aC BE l Y)(hlen:l.length≤100)(g:Nat)(U D:ah)(fr:Fr)(lh:aE ah)(sh:List ah)
  (h3:aa fr 3= .mp .L 29 g) (J:aa fr 31=a) (Z0:aa fr 32= .i .i64 (l.length:Int)) (V:aa fr 33= .i .i64 0) (F:ab lh 1=U) (J5:ab lh 29=⟨g,.map [] [] false⟩) (H:ab lh 50=D):
  pj pE 106 wh fr lh sh 0 2 (Gw [] l) (fun r W=>(Gw [] l=0→ab r 29=⟨g,.map (Sb (l.map Zo.nm)) (Sc (l.map Zo.nm)) false⟩)∧ab r 1=U∧ab r 50=D∧W=sh):=by
 refine bV G6 (fun k f r W=>aa f 33= .i .i64 (k:Int)∧ab r 29=⟨g,.map (Sb ((l.take k).map Zo.nm)) (Sc ((l.take k).map Zo.nm)) false⟩∧ab r 1=U∧ab r 50=D∧W=sh∧Gw [] l=Gw ((l.take k).map Zo.nm) (l.drop k)) l.length ⟨V,J5,F,H,rfl,rfl⟩ ?_ ?_
 ·rintro k f r _ hk I ⟨O,J5,F,H,rfl,hr⟩
  rw[List.drop_eq_getElem_cons hk,Gw]at hr
  have K:(k:Int)<l.length:=zZ
  have hw:=aG (k:=k) zZ
  obtain⟨sT,sc,rr,N,X,Gq⟩:=IC ha hc k hk
  have Z:=ZF l[k] sT sc X Gq
  have eZ:=J4 ((l.take k).map Zo.nm) l[k].nm
  have iI:=ZG ((l.take k).map Zo.nm) l[k].nm
  have iQ:=vI Zo.nm hk
  by_cases hs:l[k].nm∈(l.take k).map Zo.nm
  ·simp only[qB,seval,gd,wh,I,h3,J,Z0,O,J5,F,H,K,N,X.froz1,Z,afn,bO,eZ,hs]
   clear I
   grind
  ·simp only[qB,seval,gd,wh,I,h3,J,Z0,O,J5,F,H,K,N,hw,X.froz1,Z,afn,bO,eZ,hs,oL,xM,iI hs,iQ]
   clear I
   grind
 ·rintro f r _ I ⟨O,J5,F,H,rfl,hr⟩
  rw[List.take_length]at J5
  simp only[qB,seval,gd,wh,I,Z0,O,J5,F,H,Int.lt_irrefl,hr,List.drop_length,Gw]
  exact fun _=>trivial
theorem aFq(r:List (List Nat))(l:List Ap)(a:T)(X:List T)(ha:IsSl a l.length X)(hc:aC Ls l X)(hlen:l.length≤100)(g O:Nat)(U:ah)(fr:Fr)(lh:aE ah)(sh:List ah)
  (h3:aa fr 3= .mp .L 29 O) (Y:aa fr 7= .mp .L 50 g) (RN:aa fr 52=a) (Dp:aa fr 53= .i .i64 (l.length:Int)) (Gu:aa fr 54= .i .i64 0) (H:ab lh 1=U) (J5:ab lh 29=⟨O,.map (Sb r) (Sc r) false⟩) (F:ab lh 50=⟨g,.map [] [] false⟩):
  pj pE 106 wg fr lh sh 2 2 (Gx r [] l) (fun D V=>(Gx r [] l=0→ab D 50=⟨g,.map (Sb (l.map Ap.cd)) (Sc (l.map Ap.cd)) false⟩)∧ab D 1=U∧V=sh):=by
 refine bV G5 (fun k f D V=>aa f 54= .i .i64 (k:Int)∧ab D 50=⟨g,.map (Sb ((l.take k).map Ap.cd)) (Sc ((l.take k).map Ap.cd)) false⟩∧ab D 1=U∧ab D 29=⟨O,.map (Sb r) (Sc r) false⟩∧V=sh∧Gx r [] l=Gx r ((l.take k).map Ap.cd) (l.drop k)) l.length ⟨Gu,F,H,J5,rfl,rfl⟩ ?_ ?_
 ·rintro k f D _ hk I ⟨N,F,H,J5,rfl,hr⟩
  rw[List.drop_eq_getElem_cons hk,Gx]at hr
  have J:(k:Int)<l.length:=zZ
  have hw:=aG (k:=k) zZ
  obtain⟨rr,K⟩:=ID ha hc k hk
  have Z:=cH (aeU l[k].cd)
  have eZ:=J4 ((l.take k).map Ap.cd) l[k].cd
  have iI:=ZG ((l.take k).map Ap.cd) l[k].cd
  have W:=J4 r l[k].zn
  have iQ:=vI Ap.cd hk
  by_cases hs:l[k].cd∈(l.take k).map Ap.cd
  ·simp only[qB,seval,gd,wg,I,Y,RN,Dp,N,F,H,J5,J,K,Z,afp,bO,eZ,hs]
   clear I
   grind
  ·by_cases hz:l[k].zn∈r <;> simp only[qB,seval,gd,wg,I,h3,Y,RN,Dp,N,F,H,J5,J,K,hw,Z,afp,bO,eZ,hs,W,hz,oL,xM,iI hs,iQ] <;> clear I <;> grind
 ·rintro f D _ I ⟨N,F,H,J5,rfl,hr⟩
  rw[List.take_length]at F
  simp only[qB,seval,gd,wg,I,Dp,N,F,H,Int.lt_irrefl,hr,List.drop_length,Gx]
  exact fun _=>trivial
def pv(l:List Fl)(k:Nat):Option Fl:=if k=0 then none else l[k-1]?
theorem D0{l:List Fl}{k:Nat}(h0:0<k)(hk:k-1<l.length):pv l k=some l[k-1]:=by
 unfold pv;rw[if_neg zZ,List.getElem?_eq_getElem hk]
theorem ZJ(r:List (List Nat)){l:List Fl}{k:Nat}(hk:k<l.length):BH r (pv l k) (l.drop k)=if Ce r l[k]≠0 then Ce r l[k]else if(match pv l k with|some p=> !FG p l[k]|none=>false)=true then 8 else BH r (pv l (k+1)) (l.drop (k+1)):=by
 have e:pv l (k+1)=some l[k]:=by unfold pv;rw[if_neg zZ,Nat.add_sub_cancel,List.getElem?_eq_getElem hk]
 rw[List.drop_eq_getElem_cons hk,e]
 conv=>lhs;unfold BH
 try rfl
theorem aFr(r:List (List Nat))(zT aT:T)(l:List Fl)(a:T)(cc:List T)(ha:IsSl a l.length cc)(hc:aC RR l cc)(hlen:l.length≤1000)(g:Nat)(fr:Fr)(lh:aE ah)(sh:List ah)
  (h1:aa fr 1= .ptr .L 1 1 0) (h7:aa fr 7= .mp .L 50 g) (H:aa fr 79=a) (D:aa fr 80= .i .i64 (l.length:Int)) (V:aa fr 81= .i .i64 0) (I:ab lh 1=⟨1,.cells [zT,aT,a] 0 true⟩) (J:ab lh 50=⟨g,.map (Sb r) (Sc r) false⟩):
  pj pE 106 we fr lh sh 5 2 (BH r none l) (fun K W=>W=sh):=by
 refine bV Sg (fun k f K W=>aa f 81= .i .i64 (k:Int)∧ab K 1=⟨1,.cells [zT,aT,a] 0 true⟩∧(∃X,ab K 50=⟨g,.map (Sb r) (Sc r) X⟩)∧W=sh∧BH r none l=BH r (pv l k) (l.drop k)) l.length ⟨V,I,⟨_,J⟩,rfl,rfl⟩ ?_ ?_
 ·rintro k f K _ hk F ⟨U,I,⟨X,J⟩,rfl,hr⟩
  rw[ZJ r hk]at hr
  have N:(k:Int)<l.length:=zZ
  have hw:=aG (k:=k) zZ
  obtain⟨rr,O⟩:=mr ha hc k hk
  have Y:=anb r l[k]
  unfold sV at Y
  by_cases BI:k=0
  ·have Z: ¬(0:Int)<k:=zZ
   have hp:pv l k=none:=by rw[BI];rfl
   simp only[qB,seval,gd,bj,we,F,h7,H,D,U,I,J,N,O,hw,Y,afr,Z]
   clear F
   grind
  ·have Z:(0:Int)<k:=zZ
   have GA:=kR (k:=k) zZ zZ
   obtain⟨r2,Kf⟩:=mr ha hc (k-1) zZ
   have hb:=cH (aeW l[k-1] l[k])
   have hp:=D0 (l:=l) (k:=k) zZ zZ
   unfold sV at hb
   simp only[qB,seval,gd,bj,aH,we,F,h1,h7,H,D,U,I,J,N,O,hw,Y,afr,Z,GA,Kf,hb,atv,atw]
   clear F
   grind
 ·rintro f K _ F ⟨U,I,⟨X,J⟩,rfl,hr⟩
  simp only[qB,seval,gd,we,F,D,U,Int.lt_irrefl,hr,List.drop_length,BH]
structure ky (t:Tt) (zT aT fT:T):Prop where
 z: ∃c,IsSl zT t.zo.length c∧aC BE t.zo c
 a: ∃c,IsSl aT t.ap.length c∧aC Ls t.ap c
 f: ∃c,IsSl fT t.fl.length c∧aC RR t.fl c
theorem akZ(t:Tt)(r D F:T)(hT:ky t r D F):ae pE 70 [.agg [r,D,F]] []=some (.i .i64 (pG t),[]):=by
 obtain⟨⟨X,H,Y⟩,⟨ac,a1,a2⟩,⟨Z,I,f2⟩⟩:=hT
 rw[av asS (by simp[c70])]
 unfold pG
 by_cases q:t.zo.length≤16∧t.ap.length≤64∧t.fl.length≤200
 ·have U:=fun fr lh sh h3 J Z0 K N J5 O=>lpO (aFo t.zo r X H Y zZ 1 ⟨1,.cells [r,D,F] 0 true⟩ ⟨0,.none⟩ fr lh sh h3 J Z0 K N J5 O) zP
  have V:=fun fr lh sh h3 h7 RN Dp Gu N J5 O=>lpO (aFq (t.zo.map Zo.nm) t.ap D ac a1 a2 zZ 1 1 ⟨1,.cells [r,D,F] 0 true⟩ fr lh sh h3 h7 RN Dp Gu N J5 O) zP
  have W:=aFr (t.ap.map Ap.cd) r D t.fl F Z I f2 zZ 1
  simp(maxDischargeDepth:=6) only[qB,seval,c70,G5,G6,H.lenI,a1.lenI,I.lenI,U,V,W]
  clear U V W
  grind
 ·simp only[qB,seval,c70,H.lenI,a1.lenI,I.lenI]
  grind
theorem ql: ∀a:List Nat,lessN a a=false
 | []=>rfl
 |x::a=>by simp[lessN,ql a]
theorem D1: ∀a b:List Nat,lessN a b=true→lessN b a=false
 | [],[],h=>by simp[lessN]at h
 | [],y::b,h=>rfl
 |x::a,[],h=>by simp[lessN]at h
 |x::a,y::b,h=>by
  simp[lessN]at h ⊢
  refine⟨by omega,fun e=> ?_⟩
  subst e
  rcases h with h|h
  ·omega
  ·exact D1 a b h.2
theorem uV: ∀a b:List Nat,lessN a b=false→lessN b a=false→a=b
 | [],[],_,_=>rfl
 | [],y::b,h,_=>by simp[lessN]at h
 |x::a,[],_,h=>by simp[lessN]at h
 |x::a,y::b,h1,h2=>by
  simp[lessN]at h1 h2
  have:x=y:=zZ
  subst this
  rw[uV a b (by simpa using h1) (by simpa using h2)]
theorem aeX(a b:List Nat):(lessN a b||a==b)= !lessN b a:=by
 cases h:lessN b a with
 |true=>
  rw[D1 _ _ h]
  have:a≠b:=fun e=>by subst e;rw[ql]at h;cases h
  simp[this]
 |false=>
  cases h2:lessN a b with
  |true=>rfl
  |false=>rw[uV _ _ h2 h];simp
theorem IX{s t:List Nat}:Ev.bin .leq (.s s) (.s t)=some (.b (!lessN t s)):=by
 rw[←aeX];rfl
def ixA(s:List Nat):List (List Nat)→Nat→Int
 | [],_=> -1
 |x::r,k=>if x=s then(k:Int)else ixA s r (k+1)
theorem yF(s:List Nat): ∀(l:List (List Nat)) (k:Nat),ixA s l k<0↔s∉l
 | [],k=>by simp[ixA]
 |x::r,k=>by
  rw[ixA]
  by_cases h:x=s
  ·rw[if_pos h];subst h;simp
  ·rw[if_neg h,yF s r (k+1)]
   simp[Ne.symm h]
theorem Bb(s:List Nat): ∀(ns:List (List Nat)) (k:Nat),ixA s ns k<0→ixA s ns k= -1
 | [],_,_=>rfl
 |x::ns,k,h=>by
  rw[ixA]at h ⊢
  by_cases e:x=s
  ·rw[if_pos e]at h;omega
  ·rw[if_neg e]at h ⊢; exact Bb s ns _ h
theorem zi1(s:List Nat)(l:List Zo)(a:T)(N:List T)(D:IsSl a l.length N)(hc:aC BE l N)(hlen:l.length≤1000)(fr:Fr)(lh:aE ah)(sh:List ah)(h0:aa fr 0=a)(h1:aa fr 1= .s s)(h5:aa fr 5= .i .i64 0):
  WS pE 20 tG fr lh sh 0 4 (ixA s (l.map Zo.nm) 0<0) (.i .i64 (ixA s (l.map Zo.nm) 0)) (fun F H=>H=sh):=by
 refine lG O6 (by simp[aO]) (fun k f F H=>aa f 5= .i .i64 (k:Int)∧H=sh∧ixA s (l.map Zo.nm) 0=ixA s ((l.drop k).map Zo.nm) k) l.length ⟨h5,rfl,rfl⟩ ?_ ?_
 ·rintro k f F _ hk r ⟨I,rfl,hr⟩
  have J:(k:Int)<l.length:=zZ
  have O:=aG (k:=k) zZ
  obtain⟨U,V,W,K,_⟩:=IC D hc k hk
  rw[List.drop_eq_getElem_cons hk,List.map_cons,ixA]at hr
  simp only[qB,seval,gd,tG,r,h0,h1,I,D.lenI,J,K,O]
  clear r
  grind
 ·rintro f F _ r ⟨I,rfl,hr⟩
  simp only[qB,seval,gd,tG,r,h0,I,D.lenI,Int.lt_irrefl,hr,List.drop_length,List.map_nil,ixA]
theorem ahC(s:List Nat)(l:List Zo)(a:T)(r:List T)(F:IsSl a l.length r)(hc:aC BE l r)(hlen:l.length≤1000):ae pE 162 [a,.s s] []=some (.i .i64 (ixA s (l.map Zo.nm) 0),[]):=by
 have D:=zi1 s l a r F hc hlen
 have XE:=Bb s (l.map Zo.nm) 0
 rw[av TV (by simp[SJ])]
 simp only[qB,seval,SJ,D]
 clear D
 grind
theorem aid(s:List Nat)(l:List Zo)(a:T)(r:List T)(D:IsSl a l.length r)(hc:aC BE l r)(hlen:l.length≤1000): ∃v:Int,ae pE 162 [a,.s s] []=some (.i .i64 v,[])∧(v<0↔s∉l.map Zo.nm):=⟨_,ahC s l a r D hc hlen,yF s _ 0⟩
theorem ai1(s:List Nat)(l:List Ap)(a:T)(N:List T)(D:IsSl a l.length N)(hc:aC Ls l N)(hlen:l.length≤1000)(fr:Fr)(lh:aE ah)(sh:List ah)(h0:aa fr 0=a)(h1:aa fr 1= .s s)(h5:aa fr 5= .i .i64 0):
  WS pE 20 tH fr lh sh 0 4 (ixA s (l.map Ap.cd) 0<0) (.i .i64 (ixA s (l.map Ap.cd) 0)) (fun F H=>H=sh):=by
 refine lG O8 (by simp[aO]) (fun k f F H=>aa f 5= .i .i64 (k:Int)∧H=sh∧ixA s (l.map Ap.cd) 0=ixA s ((l.drop k).map Ap.cd) k) l.length ⟨h5,rfl,rfl⟩ ?_ ?_
 ·rintro k f F _ hk r ⟨I,rfl,hr⟩
  have J:(k:Int)<l.length:=zZ
  have O:=aG (k:=k) zZ
  obtain⟨U,K⟩:=ID D hc k hk
  rw[List.drop_eq_getElem_cons hk,List.map_cons,ixA]at hr
  simp only[qB,seval,gd,tH,r,h0,h1,I,D.lenI,J,K,O]
  clear r
  grind
 ·rintro f F _ r ⟨I,rfl,hr⟩
  simp only[qB,seval,gd,tH,r,h0,I,D.lenI,Int.lt_irrefl,hr,List.drop_length,List.map_nil,ixA]
theorem ahB(s:List Nat)(l:List Ap)(a:T)(r:List T)(F:IsSl a l.length r)(hc:aC Ls l r)(hlen:l.length≤1000):ae pE 164 [a,.s s] []=some (.i .i64 (ixA s (l.map Ap.cd) 0),[]):=by
 have D:=ai1 s l a r F hc hlen
 have XE:=Bb s (l.map Ap.cd) 0
 rw[av TX (by simp[SK])]
 simp only[qB,seval,SK,D]
 clear D
 grind
theorem ZK(s:List Nat)(l:List Ap)(a:T)(r:List T)(D:IsSl a l.length r)(hc:aC Ls l r)(hlen:l.length≤1000): ∃v:Int,ae pE 164 [a,.s s] []=some (.i .i64 v,[])∧(v<0↔s∉l.map Ap.cd):=⟨_,ahB s l a r D hc hlen,yF s _ 0⟩
theorem aFt(f:Fl)(J c7:ah)(fr:Fr)(lh:aE ah)(sh:List ah)(h5:aa fr 5= .ptr .L 5 1 0)(h6:aa fr 6= .i .i64 0)(K:ab lh 2=J)(F:ab lh 5=⟨1,.cells (sV f) 0 true⟩)(N:ab lh 7=c7):
  pj pE 108 tI fr lh sh 0 4 (if [f.n0,f.n1,f.n2].all pq then 0 else 5) (fun r H=>ab r 2=J∧ab r 5=⟨1,.cells (sV f) 0 true⟩∧ab r 7=c7∧H=sh):=by
 refine bV wu (fun k g r H=>aa g 6= .i .i64 (k:Int)∧r=lh∧H=sh∧ [f.n0,f.n1,f.n2].all pq=([f.n0,f.n1,f.n2].drop k).all pq) 3 ⟨h6,rfl,rfl,rfl⟩ ?_ ?_
 ·rintro k g _ _ hk D ⟨I,rfl,rfl,hr⟩
  have hc:k=0∨k=1∨k=2:=zZ
  unfold pq at*
  unfold sV at F ⊢
  rcases hc with rfl|rfl|rfl <;> simp only[qB,seval,gd,eI,tI,D,h5,I,K,F,N,Int.ofNat_zero,Int.ofNat_one] <;> clear D <;> simp at hr ⊢ <;> grind
 ·rintro g _ _ D ⟨I,rfl,rfl,hr⟩
  simp only[qB,seval,gd,tI,D,I,K,F,N,Int.lt_irrefl,hr]
def flS(D:List (List Nat))(r:Option Fl)(f:Fl):Int:=if Ce D f≠0 then Ce D f else if(match r with|some p=> !FG p f|none=>false)=true then 8 else 0
theorem Mt(t:Tt)(O r U:T)(hT:ky t O r U)(ha:t.ap.length≤100)(hf:t.fl.length≤1000)(Y: ∀f∈t.fl,f.nu.length≤fX)(k:Nat)(hk:k<t.fl.length):
  ae pE 165 [.agg [O,r,U],.i .i64 (k:Int)] []=some (.i .i64 (flS (t.ap.map Ap.cd) (pv t.fl k) t.fl[k]),[]):=by
 obtain⟨⟨zc,z1,z2⟩,⟨ac,a1,a2⟩,⟨fc,W,X⟩⟩:=hT
 obtain⟨rr,D⟩:=mr W X k hk
 have I:=cH (ZI t.fl[k].nu (Y _ (List.getElem_mem hk)))
 have J:=cH (AL t.fl[k].ty)
 obtain⟨v1,K,e1⟩:=ZK t.fl[k].fr t.ap r ac a1 a2 zZ
 obtain⟨v2,N,e2⟩:=ZK t.fl[k].to t.ap r ac a1 a2 zZ
 have F:=aFt t.fl[k] ⟨1,.cells [O,r,U] 0 true⟩ ⟨0,.none⟩
 have hw:= @bI (t.fl[k].ar-t.fl[k].dp)
 rw[av afJ (by simp[O9])]
 unfold sV at F
 by_cases BI:k=0
 ·have V: ¬(0:Int)<k:=zZ
  have Z:pv t.fl k=none:=by rw[BI];rfl
  rw[Z]
  simp only[qB,seval,O9,wu,a1.froz,D,I,J,agx,TD,K,N,MD,F,V]
  clear F I J K N
  unfold flS Ce IW
  grind (splits:=30)
 ·have V:(0:Int)<k:=zZ
  have GA:=kR (k:=k) zZ zZ
  obtain⟨r2,Kf⟩:=mr W X (k-1) zZ
  rw[D0 zZ zZ]
  have H:Ev.bin .leq (.s t.fl[k].nu) (.s t.fl[k-1].nu)=if lessN t.fl[k-1].nu t.fl[k].nu=true then some (.b false)else some (.b true):=by rw[IX];cases lessN t.fl[k-1].nu t.fl[k].nu <;> rfl
  simp only[qB,seval,O9,wu,a1.froz,D,I,J,agx,TD,K,N,MD,F,V,GA,Kf,H]
  clear F I J K N H
  unfold flS Ce IW FG
  grind (splits:=30)
theorem aC.take{α:Type}{R:α→List T→Prop}{k:Nat}(D: ∀x c,R x c→c.length=k): ∀{xs:List α} {cs:List T} (i:Nat),aC R xs cs→aC R (xs.take i) (cs.take (i*k))
 | [],cs,i,h=>by rw[aC]at h;subst h;simp[aC]
 |x::xs,cs,0,h=>by simp[aC]
 |x::xs,cs,i+1,h=>by
  rw[aC]at h
  obtain⟨c,r,rfl,h1,h2⟩:=h
  have e:(c++r).take ((i+1)*k)=c++r.take (i*k):=by
   rw[show(i+1)*k=c.length+i*k by rw[D _ _ h1,Nat.add_mul,Nat.one_mul,Nat.add_comm],List.take_append,List.take_of_length_le zZ,Nat.add_sub_cancel_left]
  rw[e]
  exact⟨c,r.take (i*k),rfl,h1,aC.take D i h2⟩
theorem ZL{n i:Nat}{a:T}{r:List T}(hi:i<n)(D:IsSl a n r): ∃ex,a= .sl r n ex:=by
 rcases D with⟨_,hz,_⟩|⟨ex,rfl⟩
 ·omega
 ·exact⟨ex,rfl⟩
theorem aFu(l:List Zo)(N O a:T)(I:List T)(J:IsSl a l.length I)(hc:aC BE l I)(hlen:l.length≤100)(fr:Fr)(lh:aE ah)(sh:List ah)
  (h1:aa fr 1= .ptr .L 1 1 0) (h3:aa fr 3= .i .i64 0) (r:ab lh 1=⟨1,.cells [a,N,O] 0 true⟩):
  pj pE 96 zq fr lh sh 0 2 (Gw [] l) (fun D U=>ab D 1=⟨1,.cells [a,N,O] 0 true⟩∧U=sh):=by
 refine bV Hi (fun k f D U=>aa f 3= .i .i64 (k:Int)∧ab D 1=⟨1,.cells [a,N,O] 0 true⟩∧U=sh∧Gw [] l=Gw ((l.take k).map Zo.nm) (l.drop k)) l.length ⟨h3,r,rfl,rfl⟩ ?_ ?_
 ·rintro k f D _ hk K ⟨V,r,rfl,hr⟩
  have W:(k:Int)<l.length:=zZ
  have F:k≤l.length:=zZ
  have Z:=aG (k:=k) zZ
  obtain⟨sT,sc,rr,X,Y,Gq⟩:=IC J hc k hk
  have hz:=Ba l[k] sT sc Y Gq
  have hcl:=aC.len BE.len hc
  obtain⟨ex,rfl⟩:=ZL hk J
  have H:(l.take k).length=k:=by rw[List.length_take,Nat.min_eq_left F]
  obtain⟨v,Ec,wD⟩:=aid l[k].nm (l.take k) (.sl (I.take (k*3)) k (ex&&decide (k=l.length))) (I.take (k*3)) (by rw[H];exact Or.inr ⟨_,rfl⟩) (aC.take BE.len k hc) (by rw[H];omega)
  rw[List.drop_eq_getElem_cons hk,Gw]at hr
  have iQ:=vI Zo.nm hk
  simp only[qB,seval,gd,sI,bj,aH,zq,K,h1,V,r,J.lenI,W,F,hcl,Nat.sub_zero,X,Z,Y.froz1,hz,TU,Ec,TW,afH]
  clear K
  grind
 ·rintro f D _ K ⟨V,r,rfl,hr⟩
  simp only[qB,seval,gd,zq,K,h1,V,r,J.lenI,Int.lt_irrefl,hr,List.drop_length,Gw]
theorem aFv(r:List Zo)(D:T)(U:List T)(z1:IsSl D r.length U)(z2:aC BE r U)(hzl:r.length≤100)(l:List Ap)(V a:T)(K:List T)(N:IsSl a l.length K)(hc:aC Ls l K)(hlen:l.length≤100)(fr:Fr)(lh:aE ah)(sh:List ah)
  (h1:aa fr 1= .ptr .L 1 1 0) (h5:aa fr 5= .i .i64 0) (F:ab lh 1=⟨1,.cells [D,a,V] 0 true⟩):
  pj pE 96 zp fr lh sh 2 2 (Gx (r.map Zo.nm) [] l) (fun H W=>ab H 1=⟨1,.cells [D,a,V] 0 true⟩∧W=sh):=by
 refine bV Hh (fun k f H W=>aa f 5= .i .i64 (k:Int)∧ab H 1=⟨1,.cells [D,a,V] 0 true⟩∧W=sh∧Gx (r.map Zo.nm) [] l=Gx (r.map Zo.nm) ((l.take k).map Ap.cd) (l.drop k)) l.length ⟨h5,F,rfl,rfl⟩ ?_ ?_
 ·rintro k f H _ hk O ⟨X,F,rfl,hr⟩
  have Y:(k:Int)<l.length:=zZ
  have I:k≤l.length:=zZ
  have hw:=aG (k:=k) zZ
  obtain⟨rr,Z⟩:=ID N hc k hk
  have hp:=cH (aeV l[k].cd)
  have hcl:=aC.len Ls.len hc
  obtain⟨ex,rfl⟩:=ZL hk N
  have J:(l.take k).length=k:=by rw[List.length_take,Nat.min_eq_left I]
  obtain⟨v,Ec,wD⟩:=ZK l[k].cd (l.take k) (.sl (K.take (k*2)) k (ex&&decide (k=l.length))) (K.take (k*2)) (by rw[J];exact Or.inr ⟨_,rfl⟩) (aC.take Ls.len k hc) (by rw[J];omega)
  obtain⟨u,hu1,hu2⟩:=aid l[k].zn r D U z1 z2 zZ
  rw[List.drop_eq_getElem_cons hk,Gx]at hr
  have iQ:=vI Ap.cd hk
  simp only[qB,seval,gd,sI,bj,aH,zp,O,h1,X,F,N.lenI,Y,I,hcl,Nat.sub_zero,Z,hw,hp,atP,Ec,MD,atQ,z1.froz,hu1,TW]
  clear O
  grind
 ·rintro f H _ O ⟨X,F,rfl,hr⟩
  simp only[qB,seval,gd,zp,O,h1,X,F,N.lenI,Int.lt_irrefl,hr,List.drop_length,Gx]
theorem aFw(t:Tt)(D F H:T)(hT:ky t D F H)(X:t.ap.length≤100)(Y:t.fl.length≤1000)(Z: ∀f∈t.fl,f.nu.length≤fX)(fr:Fr)(lh:aE ah)(sh:List ah)
  (h1:aa fr 1= .ptr .L 1 1 0) (h7:aa fr 7= .i .i64 0) (r:ab lh 1=⟨1,.cells [D,F,H] 0 true⟩):
  pj pE 96 zl fr lh sh 4 2 (BH (t.ap.map Ap.cd) none t.fl) (fun I K=>K=sh):=by
 have N:=hT
 obtain⟨⟨zc,z1,z2⟩,⟨ac,a1,a2⟩,⟨fc,O,f2⟩⟩:=N
 refine bV Sl (fun k f I K=>aa f 7= .i .i64 (k:Int)∧ab I 1=⟨1,.cells [D,F,H] 0 true⟩∧K=sh∧BH (t.ap.map Ap.cd) none t.fl=BH (t.ap.map Ap.cd) (pv t.fl k) (t.fl.drop k)) t.fl.length ⟨h7,r,rfl,rfl⟩ ?_ ?_
 ·rintro k f I _ hk J ⟨U,r,rfl,hr⟩
  have V:(k:Int)<t.fl.length:=zZ
  have hw:=aG (k:=k) zZ
  have W:=Mt t D F H hT X Y Z k hk
  rw[ZJ _ hk]at hr
  simp only[qB,seval,gd,zl,J,h1,U,r,z1.froz1,a1.froz1,O.froz1,O.lenI,V,hw,W,atS]
  clear J W
  unfold flS
  grind
 ·rintro f I _ J ⟨U,r,rfl,hr⟩
  simp only[qB,seval,gd,zl,J,h1,U,r,O.lenI,Int.lt_irrefl,hr,List.drop_length,BH]
theorem ala(t:Tt)(r D F:T)(hT:ky t r D F)(W: ∀f∈t.fl,f.nu.length≤fX):ae pE 92 [.agg [r,D,F]] []=some (.i .i64 (pG t),[]):=by
 have I:=hT
 obtain⟨⟨J,H,K⟩,⟨ac,a1,a2⟩,⟨X,N,Y⟩⟩:=I
 rw[av ata (by simp[c92])]
 unfold pG
 by_cases q:t.zo.length≤16∧t.ap.length≤64∧t.fl.length≤200
 ·have O:=aFu t.zo D F r J H K zZ
  have U:=aFv t.zo r J H K zZ t.ap F D ac a1 a2 zZ
  have V:=aFw t r D F hT zZ zZ W
  simp(maxDischargeDepth:=6) only[qB,seval,c92,Hh,Hi,H.lenI,a1.lenI,N.lenI,O,U,V]
  clear O U V
  grind
 ·simp only[qB,seval,c92,H.lenI,a1.lenI,N.lenI]
  grind
end Go.Proofs.YtnkgnjecmfkcfaaGreat
