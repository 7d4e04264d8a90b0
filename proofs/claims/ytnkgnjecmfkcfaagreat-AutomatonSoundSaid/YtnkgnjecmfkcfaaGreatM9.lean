/- Walks, plain laws (9). Conditions: the theorems' own. -/
import Derived.Test.YtnkgnjecmfkcfaaGreatM6
import Derived.Test.YtnkgnjecmfkcfaaGreatM7
set_option maxRecDepth 100000
set_option linter.all false
set_option maxHeartbeats 16000000
namespace Go.Proofs.YtnkgnjecmfkcfaaGreat
open Go Go.Ev
def j3{j:Nat}(h:j≤2):j∈ [0,1,2]:=by
 have:j=0∨j=1∨j=2:=zV
 simpa using this
def td4{α:Type}{P:α→Prop}{L:List α}(a: ∀x∈(L.drop 0).take 8,P x)(b: ∀x∈(L.drop 8).take 8,P x)(c: ∀x∈(L.drop 16).take 8,P x)(d: ∀x∈L.drop 24,P x): ∀x∈L,P x:=
 td 8 a (td 8 b (by rw[List.drop_drop];exact td 8 c (by rw[List.drop_drop];exact d)))
def aKv(e:Bool)(j:Nat)(r:j≤2): ∀p∈oB,ae pE 102 [vB e j,qi p.1,.agg (fN p.2)] []=some (.tup [qi (cj (kJ j) p.1 p.2).1,qi (cj (kJ j) p.1 p.2).2],[]):=by
 have:j=0∨j=1∨j=2:=zV
 rcases this with rfl|rfl|rfl
 ·exact td4 (aKi e) (aKj e) (aKk e) (aKl e)
 ·exact td4 (aKm e) (aKn e) (aKo e) (aKp e)
 ·exact td4 (aKq e) (aKr e) (aKs e) (aKt e)
def Rz{l:Cs}{lT:T}{cl:List T}{j:Nat}(D:l=kJ j)(hl:IsSl lT l.length cl)(hcl:dc l cl): ∃e,lT=vB e j∧cl= .s ug::fN (nP j):=by
 subst D
 unfold kJ at hl hcl
 rw[dc]at hcl
 obtain⟨ex,r,rfl,h1,h2⟩:=hcl
 rw[dc]at h2
 subst h2
 rw[show ex=fN (nP j)from h1,List.append_nil]at hl ⊢
 rcases hl with⟨_,h,_⟩|⟨e,rfl⟩
 ·simp at h
 ·exact⟨e,rfl,rfl⟩
def Uh(l:Cs)(lT:T)(cl:List T)(hl:IsSl lT l.length cl)(hcl:dc l cl)(r: ∃j,j≤2∧l=kJ j):ae pE 56 [lT] []=some (bj l.length (ints (tE l l.length)),[]):=by
 obtain⟨j,D,r⟩:=r
 obtain⟨e,rfl,_⟩:=Rz r hl hcl
 subst r
 exact tyv e j (j3 D)
def aD{α:Type}(R:α→List T→Prop):List α→List T→Prop
 | [],cs=>cs= []
 |x::xs,cs=> ∃c r,cs=c++r∧R x c∧aD R xs r
section
variable{α:Type}{R:α→List T→Prop}{k:Nat}
theorem aD.len(D: ∀x c,R x c→c.length=k): ∀{xs:List α} {cs:List T},aD R xs cs→cs.length=xs.length*k
 | [],cs,h=>by grind [aD]
 |x::xs,cs,h=>by
  rw[aD]at h
  obtain⟨c,r,rfl,h1,h2⟩:=h
  rw[List.length_append,D _ _ h1,aD.len D h2,List.length_cons,Nat.add_mul,Nat.one_mul,Nat.add_comm]
theorem aD.drop(D: ∀x c,R x c→c.length=k): ∀{xs:List α} {cs:List T} (i:Nat) (hi:i<xs.length),aD R xs cs→ ∃c r,cs.drop (i*k)=c++r∧R xs[i] c
 | [],cs,i,hi,h=>by simp at hi
 |x::xs,cs,0,hi,h=>by
  grind [aD]
 |x::xs,cs,i+1,hi,h=>by
  rw[aD]at h
  obtain⟨c,r,rfl,h1,h2⟩:=h
  obtain⟨F,H,e,h3⟩:=aD.drop D i (by simpa using hi) h2
  refine⟨F,H, ?_,h3⟩
  have:(i+1)*k=c.length+i*k:=by rw[D _ _ h1,Nat.add_mul,Nat.one_mul,Nat.add_comm]
  grind [List.drop_append,Nat.add_sub_cancel_left,List.drop_eq_nil_of_le]
def gI(D: ∀x c,R x c→c.length=k){xs:List α}{a:T}{F:List T}(h1:IsSl a xs.length F)(h2:aD R xs F)(i:Nat)(hi:i<xs.length): ∃c r,(∀kk,iaV a (.i kk (i:Int)) k=some (.vp (c++r)))∧R xs[i] c:=by
 obtain⟨c,r,e,h3⟩:=aD.drop D i hi h2
 exact⟨c,r,fun kk=>by rw[h1.ia (sz:=k) (aD.len D h2) hi,e],h3⟩
theorem aD.append: ∀{xs D:List α} {c r:List T},aD R xs c→aD R D r→aD R (xs++D) (c++r)
 | [],D,c,r,h1,h2=>by grind [aD]
 |x::xs,D,c,r,h1,h2=>by
  rw[aD]at h1
  obtain⟨F,H,rfl,h3,h4⟩:=h1
  rw[List.append_assoc]
  exact⟨F,H++r,rfl,h3,aD.append h4 h2⟩
theorem aD.one{x:α}{c:List T}(h:R x c):aD R [x] c:=⟨c,[],by simp,h,rfl⟩
end
structure Li where
 nm:List Nat
 me:List Nat
 mo:Int
 da:Int
structure Of where
 nm:List Nat
 ct:Int
 da:Int
def U2(u:Ru)(c:List T):Prop:= ∃a r,c= [qi u.sc,.s u.nm,qi u.x.op,qi u.x.num,.s u.x.name,a]∧IsSl a u.x.args.length r∧iD u.x [qi u.x.op,qi u.x.num,.s u.x.name,a]
def CoR(u:Co)(c:List T):Prop:= ∃a r,c= [qi u.sc,qi u.x.op,qi u.x.num,.s u.x.name,a]∧IsSl a u.x.args.length r∧iD u.x [qi u.x.op,qi u.x.num,.s u.x.name,a]
def LiR(u:Li)(c:List T):Prop:=c= [.s u.nm,.s u.me,qi u.mo,qi u.da]
def OfR(u:Of)(c:List T):Prop:=c= [.s u.nm,qi u.ct,qi u.da]
theorem U2.len(u:Ru)(c:List T)(h:U2 u c):c.length=6:=by obtain⟨a,r,rfl,_⟩:=h;rfl
theorem CoR.len(u:Co)(c:List T)(h:CoR u c):c.length=5:=by obtain⟨a,r,rfl,_⟩:=h;rfl
theorem LiR.len(u:Li)(c:List T)(h:LiR u c):c.length=4:=by rw[h];rfl
theorem OfR.len(u:Of)(c:List T)(h:OfR u c):c.length=3:=by rw[h];rfl
def zR{xs:List Ru}{a:T}{F:List T}(h1:IsSl a xs.length F)(h2:aD U2 xs F)(i:Nat)(hi:i<xs.length):
  ∃b D r,(∀kk,iaV a (.i kk (i:Int)) 6=some (.vp (qi xs[i].sc:: .s xs[i].nm:: qi xs[i].x.op:: qi xs[i].x.num:: .s xs[i].x.name::b::r)))∧IsSl b xs[i].x.args.length D∧iD xs[i].x [qi xs[i].x.op,qi xs[i].x.num,.s xs[i].x.name,b]:=by
 obtain⟨c,r,h3,b,D,rfl,h4,h5⟩:=gI U2.len h1 h2 i hi
 exact⟨b,D,r,h3,h4,h5⟩
def CS{xs:List Co}{a:T}{F:List T}(h1:IsSl a xs.length F)(h2:aD CoR xs F)(i:Nat)(hi:i<xs.length):
  ∃b D r,(∀kk,iaV a (.i kk (i:Int)) 5=some (.vp (qi xs[i].sc:: qi xs[i].x.op:: qi xs[i].x.num:: .s xs[i].x.name::b::r)))∧IsSl b xs[i].x.args.length D∧iD xs[i].x [qi xs[i].x.op,qi xs[i].x.num,.s xs[i].x.name,b]:=by
 obtain⟨c,r,h3,b,D,rfl,h4,h5⟩:=gI CoR.len h1 h2 i hi
 exact⟨b,D,r,h3,h4,h5⟩
def RA{xs:List Li}{a:T}{D:List T}(h1:IsSl a xs.length D)(h2:aD LiR xs D)(i:Nat)(hi:i<xs.length):
  ∃r,∀kk,iaV a (.i kk (i:Int)) 4=some (.vp (.s xs[i].nm:: .s xs[i].me:: qi xs[i].mo:: qi xs[i].da::r)):=by
 obtain⟨c,r,h3,h4⟩:=gI LiR.len h1 h2 i hi
 rw[h4]at h3
 exact⟨r,h3⟩
def ac3{xs:List Of}{a:T}{D:List T}(h1:IsSl a xs.length D)(h2:aD OfR xs D)(i:Nat)(hi:i<xs.length):
  ∃r,∀kk,iaV a (.i kk (i:Int)) 3=some (.vp (.s xs[i].nm:: qi xs[i].ct:: qi xs[i].da::r)):=by
 obtain⟨c,r,h3,h4⟩:=gI OfR.len h1 h2 i hi
 rw[h4]at h3
 exact⟨r,h3⟩
structure Ct where
 rp:Int
 rl:Int
 cn:Int
 st:Int
 ly:Int
 nf:Int
 nt:Int
 cs:Cs
 ru:List Ru
 co:List Co
 cr:List Ex
 li:List Li
 fs:List Of
 gu:Int
def kS(n lo hi:Int):Bool:=decide (lo≤n)&&decide (n≤hi)
def Mw(seen:List (List Nat)):Cs→Int
 | []=>0
 |c::l=>if jt c.1=false then 1 else if c.1∈seen then 7 else if bM c.2≠0 then bM c.2 else Mw (seen++ [c.1]) l
def IF(seen:List (Int×List Nat)):List Ru→Int
 | []=>0
 |u::l=>if kS u.sc 1 3=false∨jt u.nm=false then 1 else if(u.sc,u.nm)∈seen then 7 else if bM u.x≠0 then bM u.x else IF (seen++ [(u.sc,u.nm)]) l
def KO:List Co→Int
 | []=>0
 |u::l=>if kS u.sc 1 3=false then 1 else if bM u.x≠0 then bM u.x else KO l
def KP:List Ex→Int
 | []=>0
 |x::l=>if bM x≠0 then bM x else KP l
def ac4(s:List Nat):Int:=if s= [98,108,111,99,107]∨s= [115,112,97,110]∨s= [110,105,103,104,116]∨s= [99,114,101,100,105,116]then 3 else if s= [108,101,103,115]∨s= [104,101,97,100,115]∨s= [100,117,116,105,101,115]then 2 else 0
def RB(seen:List (List Nat)):List Li→Int
 | []=>0
 |u::l=>if jt u.nm=false then 1 else if u.nm∈seen then 7 else if ac4 u.me=0 then 6 else if kS u.mo 0 599999=false∨kS u.da 1 31=false then 5 else RB (seen++ [u.nm]) l
def Vi(seen:List (List Nat)):List Of→Int
 | []=>0
 |u::l=>if jt u.nm=false then 1 else if u.nm∈seen then 7 else if kS u.da 1 31=false∨kS u.ct 1 u.da=false then 5 else Vi (seen++ [u.nm]) l
def ac5(c:Ct):Int:=if RB [] c.li≠0 then RB [] c.li else Vi (c.li.map Li.nm) c.fs
def ln(c:Ct):Bool:=kS c.rp 0 1440&&(kS c.rl 0 1440&&(kS c.cn 0 1440&&(kS c.st c.cn 1440&&(kS c.ly 0 10080&&(kS c.nf 0 1439&&(kS c.nt 0 1439&&kS c.gu 0 599999))))))
def lD(c:Ct):Bool:=decide (c.cs.length≤32)&&(decide (c.ru.length≤40)&&(decide (c.co.length≤16)&&(decide (c.cr.length≤1)&&(decide (c.li.length≤16)&&decide (c.fs.length≤16)))))
def gr(c:Ct):Int:=if ln c=false then 5 else if lD c=false then 10 else if Mw [] c.cs≠0 then Mw [] c.cs else if IF [] c.ru≠0 then IF [] c.ru else if KO c.co≠0 then KO c.co else if KP c.cr≠0 then KP c.cr else ac5 c
theorem Bb(n lo hi:Int):ae pE 211 [qi n,qi lo,qi hi] []=some (.b (kS n lo hi),[]):=by
 rw[au aj3 (by simp[Wk])]
 unfold kS
 by_cases h:lo≤n <;> simp only[qA,seval,Wk,h]
def Ga(n:Int):ae pE 214 [qi n] []=some (.b (kS n 1 3),[]):=by
 rw[au aj6 (by simp[Wn])]
 simp only[qA,seval,Wn,Bb,Pk]
theorem oV{α:Type}[DecidableEq α](s:α): ∀l:List α,aP (l.map fun x=>(x,true)) s=if s∈l then some true else none
 | []=>by simp[aP]
 |a::l=>by
  rw[List.map_cons,aP,oV s l]
  grind
theorem Iq(seen:List (List Nat))(s:List Nat):iN (.one .str) ((seen.map fun x=>(x,true)).map fun p=>sK p.1) ((seen.map fun x=>(x,true)).map fun p=>T.b p.2) (.s s) (.b false) false=some (.b (decide (s∈seen))):=by
 have:=P3 (kT:=sK) (vT:=T.b) D7 (fun _=>rfl) (seen.map fun x=>(x,true)) s (.b false)
 rw[show(T.s s)=sK s from rfl,this,oV]
 grind
theorem DB(seen:List (List Nat))(s:List Nat)(h:s∉seen):l8 (.one .str) (.s s) (.b true) ((seen.map fun x=>(x,true)).map fun p=>sK p.1) ((seen.map fun x=>(x,true)).map fun p=>T.b p.2)=some (((seen++ [s]).map fun x=>(x,true)).map (fun p=>sK p.1),((seen++ [s]).map fun x=>(x,true)).map (fun p=>T.b p.2)):=by
 have:=wz (kT:=sK) (vT:=T.b) D7 (seen.map fun x=>(x,true)) s true (by rw[oV,if_neg h])
 rw[show(T.s s)=sK s from rfl,show T.b true=T.b (true)from rfl,this]
 grind
def aKw(l:Cs)(a:T)(V:List T)(Y:IsSl a l.length V)(hc:dc l V)(hlen:l.length≤jA)(tz:smC l)(g:Nat)(fr:Fr)(lh:aE ah)(sh:List ah)
  (h3:aa fr 3= .mp .L 7 g) (W:aa fr 8=a) (K:aa fr 9= qi (l.length:Int)) (N:aa fr 10= qi 0) (D:ab lh 7=⟨g,.map [] [] false⟩):
  pN pE 32 rW fr lh sh 0 2 (Mw [] l) (fun I O=>O=sh):=by
 refine bW Sd (fun k f I O=>aa f 10= qi (k:Int)∧ab I 7=⟨g,.map ((((l.take k).map Prod.fst).map fun x=>(x,true)).map fun p=>sK p.1) ((((l.take k).map Prod.fst).map fun x=>(x,true)).map fun p=>T.b p.2) false⟩∧O=sh∧Mw [] l=Mw ((l.take k).map Prod.fst) (l.drop k)) l.length ⟨N,D,rfl,rfl⟩ ?_ ?_
 ·rintro k f I _ hk r ⟨J,D,rfl,hr⟩
  rw[List.drop_eq_getElem_cons hk,Mw]at hr
  have F:(k:Int)<l.length:=zV
  have Z:=bn (k:=k) zV
  obtain⟨b,cb,rr,H,fg,sH,hb⟩:=gv Y hc k hk
  obtain⟨zX,U⟩:=tz l[k] (List.getElem_mem hk)
  have Dl:=cJ (sG l[k].1)
  have OY:=fun z fr lh sh=>oO (z:=z) (fr:=fr) (lh:=lh) (sh:=sh) l[k].2 _ hb zX U
  have X:=Iq ((l.take k).map Prod.fst) l[k].1
  have jo:=DB ((l.take k).map Prod.fst) l[k].1
  have iK:(l.take (k+1)).map Prod.fst=(l.take k).map Prod.fst++ [l[k].1]:=by rw[List.take_succ_eq_append_getElem hk,List.map_append];rfl
  by_cases hs:l[k].1∈(l.take k).map Prod.fst
  ·simp only[qB,seval,gd,rW,r,h3,W,K,J,D,F,H,Dl,zk,bZ,X,hs]
   clear r
   grind
  ·simp only[qB,seval,gd,rW,r,h3,W,K,J,D,F,H,Z,Dl,zk,bZ,X,hs,pJ,zP,jo hs,OY,iK]
   clear r
   grind
 ·rintro f I _ r ⟨J,D,rfl,hr⟩
  simp only[qB,seval,gd,rW,r,K,J,Int.lt_irrefl,hr,List.drop_length,Mw]
def arq(l:Cs)(a:T)(r:List T)(D:IsSl a l.length r)(hc:dc l r)(hlen:l.length≤jA)(tz:smC l):ae pE 212 [a] []=some (qi (Mw [] l),[]):=by
 have F:=aKw l a r D hc hlen tz 1
 rw[au aj4 (by simp[Wl])]
 simp only[qB,seval,Wl,D.lenI,F]
 grind
def rK(p:Int×List Nat):T:= .agg [qi p.1,.s p.2]
def aDB(a b:Int×List Nat):sS (.flat [.int,.str]) (rK a) (rK b)=some (decide (a=b)):=by
 unfold rK
 rw[aoP]
 congr 1
 by_cases h1:a.1=b.1 <;> by_cases h2:a.2=b.2 <;> simp[h1,h2,Prod.ext_iff]
def ac6(seen:List (Int×List Nat))(s:Int×List Nat):iN (.flat [.int,.str]) ((seen.map fun x=>(x,true)).map fun p=>rK p.1) ((seen.map fun x=>(x,true)).map fun p=>T.b p.2) (.agg [qi s.1,.s s.2]) (.b false) false=some (.b (decide (s∈seen))):=by
 have:=P3 (kT:=rK) (vT:=T.b) aDB (fun _=>ZJ) (seen.map fun x=>(x,true)) s (.b false)
 rw[show T.agg [qi s.1,.s s.2]=rK s from rfl,this,oV]
 by_cases h:s∈seen <;> simp[h]
def UP(seen:List (Int×List Nat))(s:Int×List Nat)(h:s∉seen):l8 (.flat [.int,.str]) (.agg [qi s.1,.s s.2]) (.b true) ((seen.map fun x=>(x,true)).map fun p=>rK p.1) ((seen.map fun x=>(x,true)).map fun p=>T.b p.2)=some (((seen++ [s]).map fun x=>(x,true)).map (fun p=>rK p.1),((seen++ [s]).map fun x=>(x,true)).map (fun p=>T.b p.2)):=by
 have:=wz (kT:=rK) (vT:=T.b) aDB (seen.map fun x=>(x,true)) s true (by rw[oV,if_neg h])
 rw[show T.agg [qi s.1,.s s.2]=rK s from rfl,this]
 simp only[List.map_append,List.map_cons,List.map_nil]
def smE(x:Ex):Prop:=0≤x.nodes∧x.sm
def IU(u:Ru):Int×List Nat:=(u.sc,u.nm)
def aKx(l:List Ru)(a:T)(V:List T)(Z:IsSl a l.length V)(hc:aD U2 l V)(hlen:l.length≤jA)(tz: ∀u∈l,smE u.x)(g:Nat)(fr:Fr)(lh:aE ah)(sh:List ah)
  (h3:aa fr 3= .mp .L 8 g) (W:aa fr 9=a) (r:aa fr 10= qi (l.length:Int)) (N:aa fr 11= qi 0) (F:ab lh 8=⟨g,.map [] [] false⟩):
  pN pE 42 rX fr lh sh 0 2 (IF [] l) (fun J O=>O=sh):=by
 refine bW Se (fun k f J O=>aa f 11= qi (k:Int)∧ab J 8=⟨g,.map ((((l.take k).map IU).map fun x=>(x,true)).map fun p=>rK p.1) ((((l.take k).map IU).map fun x=>(x,true)).map fun p=>T.b p.2) false⟩∧O=sh∧IF [] l=IF ((l.take k).map IU) (l.drop k)) l.length ⟨N,F,rfl,rfl⟩ ?_ ?_
 ·rintro k f J _ hk D ⟨K,F,rfl,hr⟩
  rw[List.drop_eq_getElem_cons hk,IF]at hr
  have H:(k:Int)<l.length:=zV
  have hw:=bn (k:=k) zV
  obtain⟨b,cb,rr,I,fg,hb⟩:=zR Z hc k hk
  obtain⟨zX,U⟩:=tz l[k] (List.getElem_mem hk)
  have X:=cJ (Ga l[k].sc)
  have Dl:=cJ (sG l[k].nm)
  have OY:=fun z fr lh sh=>oO (z:=z) (fr:=fr) (lh:=lh) (sh:=sh) l[k].x _ hb zX U
  have Y:=ac6 ((l.take k).map IU) (l[k].sc,l[k].nm)
  have jo:=UP ((l.take k).map IU) (l[k].sc,l[k].nm)
  have iK:(l.take (k+1)).map IU=(l.take k).map IU++ [(l[k].sc,l[k].nm)]:=by rw[List.take_succ_eq_append_getElem hk,List.map_append];rfl
  by_cases hs:(l[k].sc,l[k].nm)∈(l.take k).map IU
  ·simp only[qB,seval,gd,rX,D,h3,W,r,K,F,H,I,X,XA,Dl,zk,bZ,Y,hs]
   clear D
   grind
  ·simp only[qB,seval,gd,rX,D,h3,W,r,K,F,H,I,hw,X,XA,Dl,zk,bZ,Y,hs,pJ,ZJ,jo hs,OY,iK]
   clear D
   grind
 ·rintro f J _ D ⟨K,F,rfl,hr⟩
  simp only[qB,seval,gd,rX,D,r,K,Int.lt_irrefl,hr,List.drop_length,IF]
def art(l:List Ru)(a:T)(r:List T)(D:IsSl a l.length r)(hc:aD U2 l r)(hlen:l.length≤jA)(tz: ∀u∈l,smE u.x):ae pE 213 [a] []=some (qi (IF [] l),[]):=by
 have F:=aKx l a r D hc hlen tz 1
 rw[au aj5 (by simp[Wm])]
 simp only[qB,seval,Wm,D.lenI,F]
 grind
def Gb:List (List Nat):= [[98,108,111,99,107],[115,112,97,110],[110,105,103,104,116],[99,114,101,100,105,116],[108,101,103,115],[104,101,97,100,115],[100,117,116,105,101,115]]
def ac7(s:List Nat):ae pE 259 [.s s] []=some (qi (ac4 s),[]):=by
 by_cases h:s∈Gb
 ·simp only[Gb,List.mem_cons,List.not_mem_nil,or_false]at h
  rcases h with rfl|rfl|rfl|rfl|rfl|rfl|rfl <;> exact cK (m:=20) (cI (by kernel_rfl))
 ·simp only[Gb,List.mem_cons,List.not_mem_nil,or_false,not_or]at h
  obtain⟨h1,h2,h3,h4,h5,h6,r⟩:=h
  rw[au akB (by simp[WD])]
  unfold ac4
  simp only[qA,seval,WD,h1,h2,h3,h4,h5,h6,r,or_self]
def ac8(s:List Nat): ∃n:Int,(n=0↔ac4 s=0)∧ae pE 198 [.s s] []=some (qi n,[]):=by
 by_cases h:s∈Gb
 ·simp only[Gb,List.mem_cons,List.not_mem_nil,or_false]at h
  rcases h with rfl|rfl|rfl|rfl|rfl|rfl|rfl
  iterate 4 exact⟨2,by decide,cK (m:=20) (cI (by kernel_rfl))⟩
  iterate 3 exact⟨1,by decide,cK (m:=20) (cI (by kernel_rfl))⟩
 ·simp only[Gb,List.mem_cons,List.not_mem_nil,or_false,not_or]at h
  obtain⟨h1,h2,h3,h4,h5,h6,r⟩:=h
  refine⟨0, ?_, ?_⟩
  ·unfold ac4;simp[h1,h2,h3,h4,h5,h6,r]
  ·rw[au ajP (by simp[Wa])]
   simp only[qA,seval,Wa,h1,h2,h3,h4,h5,h6,r]
def qt(g:Nat)(seen:List (List Nat)):ah:=⟨g,.map ((seen.map fun x=>(x,true)).map fun p=>sK p.1) ((seen.map fun x=>(x,true)).map fun p=>T.b p.2) false⟩
def Mg(g:Nat)(seen:List (List Nat))(s:List Nat):lkE (qt g seen) g (.one .str) (.s s) (.b false) false=some (.b (decide (s∈seen))):=by
 unfold qt;rw[bZ,if_pos rfl,Iq]
def Mh{lh:aE ah}{kk:Nat}(g:Nat)(seen:List (List Nat))(s:List Nat)(h:s∉seen):muE lh kk (qt g seen) g (.one .str) (.s s) (.b true)=some (jB lh kk (qt g (seen++ [s]))):=by
 unfold qt;rw[pJ,if_pos ⟨rfl,rfl⟩,DB seen s h];rfl
def aKy(l:List Li)(a:T)(cc:List T)(ha:IsSl a l.length cc)(hc:aD LiR l cc)(hlen:l.length≤jA)(g:Nat)(V:ah)(fr:Fr)(lh:aE ah)(sh:List ah)
  (h3:aa fr 3= .mp .L 8 g) (K:aa fr 10=a) (r:aa fr 11= qi (l.length:Int)) (W:aa fr 12= qi 0) (D:ab lh 8=qt g []) (I:ab lh 1=V):
  pN pE 80 rZ fr lh sh 0 2 (RB [] l) (fun F X=>(RB [] l=0→ab F 8=qt g (l.map Li.nm))∧ab F 1=V∧X=sh):=by
 refine bW EL (fun k f F X=>aa f 12= qi (k:Int)∧ab F 8=qt g ((l.take k).map Li.nm)∧ab F 1=V∧X=sh∧RB [] l=RB ((l.take k).map Li.nm) (l.drop k)) l.length ⟨W,D,I,rfl,rfl⟩ ?_ ?_
 ·rintro k f F _ hk J ⟨U,D,I,rfl,hr⟩
  rw[List.drop_eq_getElem_cons hk,RB]at hr
  have N:(k:Int)<l.length:=zV
  have hw:=bn (k:=k) zV
  obtain⟨rr,O⟩:=RA ha hc k hk
  have Dl:=cJ (sG l[k].nm)
  have Y:=ac7 l[k].me
  have Z:=fun n lo hi=>cJ (Bb n lo hi)
  have fq:=Mg g ((l.take k).map Li.nm) l[k].nm
  have H:=fun lh kk=>Mh (lh:=lh) (kk:=kk) g ((l.take k).map Li.nm) l[k].nm
  have iK:(l.take (k+1)).map Li.nm=(l.take k).map Li.nm++ [l[k].nm]:=by rw[List.take_succ_eq_append_getElem hk,List.map_append];rfl
  by_cases hs:l[k].nm∈(l.take k).map Li.nm
  ·simp only[qB,seval,gd,rZ,J,h3,K,r,U,D,I,N,O,Dl,zk,fq,hs]
   clear J Z H
   grind
  ·simp only[qB,seval,gd,rZ,J,h3,K,r,U,D,I,N,O,hw,Dl,zk,fq,hs,fun lh kk=>H lh kk hs,Y,azu,Z,Pk,iK]
   clear J Z H
   grind (splits:=30)
 ·rintro f F _ J ⟨U,D,I,rfl,hr⟩
  rw[List.take_length]at D
  simp only[qB,seval,gd,rZ,J,r,U,D,I,Int.lt_irrefl,hr,List.drop_length,RB]
  exact fun _=>trivial
def aKA(l:List Of)(r:List (List Nat))(a:T)(Y:List T)(ha:IsSl a l.length Y)(hc:aD OfR l Y)(hlen:l.length≤jA)(g:Nat)(fr:Fr)(lh:aE ah)(sh:List ah)
  (h3:aa fr 3= .mp .L 8 g) (I:aa fr 47=a) (D:aa fr 48= qi (l.length:Int)) (V:aa fr 49= qi 0) (J:ab lh 8=qt g r):
  pN pE 80 rY fr lh sh 3 2 (Vi r l) (fun O W=>W=sh):=by
 refine bW Sf (fun k f O W=>aa f 49= qi (k:Int)∧ab O 8=qt g (r++(l.take k).map Of.nm)∧W=sh∧Vi r l=Vi (r++(l.take k).map Of.nm) (l.drop k)) l.length ⟨V,by simpa using J,rfl,by simp⟩ ?_ ?_
 ·rintro k f O _ hk H ⟨U,J,rfl,hr⟩
  rw[List.drop_eq_getElem_cons hk,Vi]at hr
  have K:(k:Int)<l.length:=zV
  have hw:=bn (k:=k) zV
  obtain⟨rr,N⟩:=ac3 ha hc k hk
  have Dl:=cJ (sG l[k].nm)
  have X:=fun n lo hi=>cJ (Bb n lo hi)
  have Z:=Mg g (r++(l.take k).map Of.nm) l[k].nm
  have F:=fun lh kk=>Mh (lh:=lh) (kk:=kk) g (r++(l.take k).map Of.nm) l[k].nm
  have iK:r++(l.take (k+1)).map Of.nm=(r++(l.take k).map Of.nm)++ [l[k].nm]:=by rw[List.take_succ_eq_append_getElem hk,List.map_append,List.append_assoc];rfl
  by_cases hs:l[k].nm∈r++(l.take k).map Of.nm
  ·simp only[qB,seval,gd,rY,H,h3,I,D,U,J,K,N,Dl,zk,Z,hs]
   clear H X F
   grind
  ·simp only[qB,seval,gd,rY,H,h3,I,D,U,J,K,N,hw,Dl,zk,Z,hs,fun lh kk=>F lh kk hs,X,Pk,iK]
   clear H X F
   grind
 ·rintro f O _ H ⟨U,J,rfl,hr⟩
  simp only[qB,seval,gd,rY,H,D,U,Int.lt_irrefl,hr,List.drop_length,Vi]
structure kR (c:Ct) (a7 a8 a9 aw aA az:T):Prop where
 h7: ∃cc,IsSl a7 c.cs.length cc∧dc c.cs cc
 h8: ∃cc,IsSl a8 c.ru.length cc∧aD U2 c.ru cc
 h9: ∃cc,IsSl a9 c.co.length cc∧aD CoR c.co cc
 h10: ∃cc,IsSl aw c.cr.length cc∧cD c.cr cc
 h11: ∃cc,IsSl aA c.li.length cc∧aD LiR c.li cc
 h12: ∃cc,IsSl az c.fs.length cc∧aD OfR c.fs cc
structure rk (c:Ct):Prop where
 s7:smC c.cs∧c.cs.length≤jA
 s8:(∀u∈c.ru,smE u.x)∧c.ru.length≤jA
 s9:(∀u∈c.co,smE u.x)∧c.co.length≤jA
 s10:(∀x∈c.cr,smE x)∧c.cr.length≤jA
 s11:c.li.length≤jA
 s12:c.fs.length≤jA
 b7: ∃j,j≤2∧c.cs=kJ j
 b8: ∀u∈c.ru,(u.sc,u.x)∈oB
 b9: ∀u∈c.co,(u.sc,u.x)∈oB
 b10: ∀x∈c.cr,((1:Int),x)∈oB
section
variable(c:Ct)(a7 a8 a9 aw aA az:T)(hT:kR c a7 a8 a9 aw aA az)(hS:rk c)
def aO:List T:= [qi c.rp,qi c.rl,qi c.cn,qi c.st,qi c.ly,qi c.nf,qi c.nt,a7,a8,a9,aw,aA,az,qi c.gu]
include hT hS
def arv:ae pE 216 [.agg (aO c a7 a8 a9 aw aA az)] []=some (qi (ac5 c),[]):=by
 obtain⟨IC,r,DJ⟩:=hT.h11
 obtain⟨Mq,D,FA⟩:=hT.h12
 rw[au aj9 (by simp[Wo])]
 have F:=fun fr lh sh x1 x2 x3 x4 x5 x6=>lpO (aKy c.li aA IC r DJ hS.s11 1 ⟨1,.cells (aO c a7 a8 a9 aw aA az) 0 true⟩ fr lh sh x1 x2 x3 x4 x5 x6) (by simp[qt])
 have H:=aKA c.fs (c.li.map Li.nm) az Mq D FA hS.s12 1
 unfold aO at F ⊢
 unfold ac5
 have I:qt 1 []=⟨1,.map [] [] false⟩:=rfl
 simp(maxDischargeDepth:=6) only[qB,seval,Wo,EL,r.lenI,D.lenI,I,F,H]
 grind
end
def aKB(l:List Co)(a:T)(X:List T)(Y:IsSl a l.length X)(hc:aD CoR l X)(hlen:l.length≤jA)(tz: ∀u∈l,smE u.x)(I:ah)(fr:Fr)(lh:aE ah)(sh:List ah)
  (J:aa fr 84=a) (r:aa fr 85= qi (l.length:Int)) (K:aa fr 86= qi 0) (D:ab lh 1=I):
  pN pE 116 uS fr lh sh 1 2 (KO l) (fun F N=>ab F 1=I∧N=sh):=by
 refine bW EF (fun k f F N=>aa f 86= qi (k:Int)∧ab F 1=I∧N=sh∧KO l=KO (l.drop k)) l.length ⟨K,D,rfl,rfl⟩ ?_ ?_
 ·rintro k f F _ hk H ⟨O,D,rfl,hr⟩
  rw[List.drop_eq_getElem_cons hk,KO]at hr
  have U:(k:Int)<l.length:=zV
  have Z:=bn (k:=k) zV
  obtain⟨b,cb,rr,V,fg,hb⟩:=CS Y hc k hk
  obtain⟨zX,W⟩:=tz l[k] (List.getElem_mem hk)
  have fw:=cJ (Ga l[k].sc)
  have OY:=fun z fr lh sh=>oO (z:=z) (fr:=fr) (lh:=lh) (sh:=sh) l[k].x _ hb zX W
  simp only[qB,seval,gd,uS,H,J,r,O,D,U,V,Z,fw,XA,OY]
  clear H
  grind
 ·rintro f F _ H ⟨O,D,rfl,hr⟩
  simp only[qB,seval,gd,uS,H,r,O,D,Int.lt_irrefl,hr,List.drop_length,KO]
def aKC(l:List Ex)(a:T)(X:List T)(Y:IsSl a l.length X)(hc:cD l X)(hlen:l.length≤jA)(tz: ∀x∈l,smE x)(I:ah)(fr:Fr)(lh:aE ah)(sh:List ah)
  (J:aa fr 102=a) (r:aa fr 103= qi (l.length:Int)) (K:aa fr 104= qi 0) (D:ab lh 1=I):
  pN pE 116 uR fr lh sh 3 2 (KP l) (fun F N=>ab F 1=I∧N=sh):=by
 refine bW EE (fun k f F N=>aa f 104= qi (k:Int)∧ab F 1=I∧N=sh∧KP l=KP (l.drop k)) l.length ⟨K,D,rfl,rfl⟩ ?_ ?_
 ·rintro k f F _ hk H ⟨O,D,rfl,hr⟩
  rw[List.drop_eq_getElem_cons hk,KP]at hr
  have U:(k:Int)<l.length:=zV
  have Z:=bn (k:=k) zV
  obtain⟨b,cb,rr,V,fg,sH,hb⟩:=nO Y hc k hk
  obtain⟨zX,W⟩:=tz l[k] (List.getElem_mem hk)
  have OY:=fun z fr lh sh=>oO (z:=z) (fr:=fr) (lh:=lh) (sh:=sh) l[k] _ hb zX W
  simp only[qB,seval,gd,uR,H,J,r,O,D,U,V,Z,OY]
  clear H
  grind
 ·rintro f F _ H ⟨O,D,rfl,hr⟩
  simp only[qB,seval,gd,uR,H,r,O,D,Int.lt_irrefl,hr,List.drop_length,KP]
section
variable(c:Ct)(a7 a8 a9 aw aA az:T)(hT:kR c a7 a8 a9 aw aA az)(hS:rk c)
include hT hS
def ac9:ae pE 130 [.agg (aO c a7 a8 a9 aw aA az)] []=some (qi (gr c),[]):=by
 have J:=arv c a7 a8 a9 aw aA az hT hS
 obtain⟨⟨c7,H,W⟩,⟨c8,I,X⟩,⟨c9,K,Y⟩,⟨uF,r,Ah⟩,⟨IC,D,DJ⟩,⟨Mq,F,FA⟩⟩:=hT
 have U:=arq c.cs a7 c7 H W hS.s7.2 hS.s7.1
 have V:=art c.ru a8 c8 I X hS.s8.2 hS.s8.1
 have N:=aKB c.co a9 c9 K Y hS.s9.2 hS.s9.1 ⟨1,.cells (aO c a7 a8 a9 aw aA az) 0 true⟩
 have O:=aKC c.cr aw uF r Ah hS.s10.2 hS.s10.1 ⟨1,.cells (aO c a7 a8 a9 aw aA az) 0 true⟩
 have w:=fun n lo hi=>cJ (Bb n lo hi)
 unfold aO at N O J ⊢
 rw[au ajc (by simp[VJ])]
 unfold gr ln lD
 simp(maxDischargeDepth:=6) only[qB,seval,VJ,EE,EF,H.froz,I.froz,H.lenI,I.lenI,K.lenI,r.lenI,D.lenI,F.lenI,H.froz1,I.froz1,K.froz1,r.froz1,D.froz1,F.froz1,w,Pk,U,V,azb,azc,N,O,J,aze]
 clear U V N O J w hS
 grind (splits:=40)
end
def nw(n lo hi:Int):ae pE 199 [qi n,qi lo,qi hi] []=some (.b (kS n lo hi),[]):=by
 rw[au ajQ (by simp[Wb])]
 unfold kS
 by_cases h:lo≤n <;> simp only[qA,seval,Wb,h]
def aKF(l:List Li)(a:T)(K:List T)(O:IsSl a l.length K)(hc:aD LiR l K)(hlen:l.length≤jA)(n:Nat)(hn:n≤l.length)(s:List Nat)(c:Ct)(a7 a8 a9 aw az:T)(U:List T)(G4:Nat)(fr:Fr)(lh:aE ah)(sh:List ah)(V:aa fr 1= .ptr .L 1 1 0)(N:aa fr 3= qi (n:Int))(W:aa fr 4= .ptr .L 4 G4 0)(X:aa fr 5= qi 0)(Y:ab lh 1=⟨1,.cells (aO c a7 a8 a9 aw a az) 0 true⟩)(Z:ab lh 4=⟨G4,.cells (.s s::U) 0 true⟩):
  pN pE 112 u9 fr lh sh 2 2 (if s∈(l.map Li.nm).take n then 7 else 0) (fun D F=>D=lh∧F=sh):=by
 refine bW EI (fun j f D F=>aa f 5= qi (j:Int)∧D=lh∧F=sh∧s∉(l.map Li.nm).take j) n ⟨X,rfl,rfl,by simp⟩ ?_ ?_
 ·rintro j f _ _ hj r ⟨H,rfl,rfl,hr⟩
  obtain⟨rr,I⟩:=RA O hc j zV
  have hw:=bn (k:=j) zV
  have J:(j:Int)<n:=zV
  simp only[qB,seval,gd,u9,r,V,N,W,H,J,I,hw,Y,Z,aO]
  clear r
  grind [List.mem_take_iff_getElem]
 ·rintro f _ _ r ⟨H,rfl,rfl,hr⟩
  simp only[qB,seval,gd,u9,r,N,H,Int.lt_irrefl,hr]
def aKG(l:List Li)(a:T)(N:List T)(D:IsSl a l.length N)(hc:aD LiR l N)(hlen:l.length≤jA)(s:List Nat)(c:Ct)(a7 a8 a9 aw az:T)(V:List T)(G7:Nat)(fr:Fr)(lh:aE ah)(sh:List ah)(O:aa fr 1= .ptr .L 1 1 0)(W:aa fr 7= .ptr .L 7 G7 0)(X:aa fr 8= qi 0)(U:ab lh 1=⟨1,.cells (aO c a7 a8 a9 aw a az) 0 true⟩)(Y:ab lh 7=⟨G7,.cells (.s s::V) 0 true⟩):
  pN pE 112 uZ fr lh sh 6 2 (if s∈l.map Li.nm then 7 else 0) (fun F H=>F=lh∧H=sh):=by
 refine bW EH (fun j f F H=>aa f 8= qi (j:Int)∧F=lh∧H=sh∧s∉(l.map Li.nm).take j) l.length ⟨X,rfl,rfl,by simp⟩ ?_ ?_
 ·rintro j f _ _ Z r ⟨I,rfl,rfl,hr⟩
  obtain⟨rr,J⟩:=RA D hc j Z
  have hw:=bn (k:=j) zV
  have K:(j:Int)<l.length:=zV
  simp only[qB,seval,gd,uZ,r,O,W,I,D.lenI,K,J,hw,U,Y,aO]
  clear r
  grind [List.mem_take_iff_getElem]
 ·rintro f _ _ r ⟨I,rfl,rfl,hr⟩
  rw[List.take_of_length_le yv]at hr
  simp only[qB,seval,gd,uZ,r,O,I,D.lenI,U,aO,Int.lt_irrefl,hr]
def aKH(l:List Of)(a:T)(K:List T)(O:IsSl a l.length K)(hc:aD OfR l K)(hlen:l.length≤jA)(n:Nat)(hn:n≤l.length)(s:List Nat)(c:Ct)(a7 a8 a9 aw aA:T)(U:List T)(G7:Nat)(fr:Fr)(lh:aE ah)(sh:List ah)(V:aa fr 1= .ptr .L 1 1 0)(N:aa fr 6= qi (n:Int))(W:aa fr 7= .ptr .L 7 G7 0)(X:aa fr 9= qi 0)(Y:ab lh 1=⟨1,.cells (aO c a7 a8 a9 aw aA a) 0 true⟩)(Z:ab lh 7=⟨G7,.cells (.s s::U) 0 true⟩):
  pN pE 112 uY fr lh sh 8 2 (if s∈(l.map Of.nm).take n then 7 else 0) (fun D F=>D=lh∧F=sh):=by
 refine bW EG (fun j f D F=>aa f 9= qi (j:Int)∧D=lh∧F=sh∧s∉(l.map Of.nm).take j) n ⟨X,rfl,rfl,by simp⟩ ?_ ?_
 ·rintro j f _ _ hj r ⟨H,rfl,rfl,hr⟩
  obtain⟨rr,I⟩:=ac3 O hc j zV
  have hw:=bn (k:=j) zV
  have J:(j:Int)<n:=zV
  simp only[qB,seval,gd,uY,r,V,N,W,H,J,I,hw,Y,Z,aO]
  clear r
  grind [List.mem_take_iff_getElem]
 ·rintro f _ _ r ⟨H,rfl,rfl,hr⟩
  simp only[qB,seval,gd,uY,r,N,H,Int.lt_irrefl,hr]
section
variable(c:Ct)(a7 a8 a9 aw aA az:T)(hT:kR c a7 a8 a9 aw aA az)(hS:rk c)
include hT hS
def aKI(fr:Fr)(lh:aE ah)(sh:List ah)(h1:aa fr 1= .ptr .L 1 1 0)(h3:aa fr 3= qi 0)(D:ab lh 1=⟨1,.cells (aO c a7 a8 a9 aw aA az) 0 true⟩):
  pN pE 112 vd fr lh sh 0 2 (RB [] c.li) (fun F I=>ab F 1=⟨1,.cells (aO c a7 a8 a9 aw aA az) 0 true⟩∧I=sh):=by
 obtain⟨IC,r,DJ⟩:=hT.h11
 have hlen:=hS.s11
 refine bW EJ (fun k f F I=>aa f 3= qi (k:Int)∧ab F 1=⟨1,.cells (aO c a7 a8 a9 aw aA az) 0 true⟩∧I=sh∧RB [] c.li=RB ((c.li.map Li.nm).take k) (c.li.drop k)) c.li.length ⟨h3,D,rfl,rfl⟩ ?_ ?_
 ·rintro k f F _ hk H ⟨J,D,rfl,hr⟩
  rw[List.drop_eq_getElem_cons hk,RB]at hr
  obtain⟨rr,K⟩:=RA r DJ k hk
  have Dl:=cJ (oz c.li[k].nm)
  obtain⟨me,V,N⟩:=ac8 c.li[k].me
  have W:=cJ (nw c.li[k].mo 0 599999)
  have X:=cJ (nw c.li[k].da 1 31)
  obtain⟨G,Y⟩: ∃G,(ab F 4).g+1=G:=⟨_,rfl⟩
  have O:=aKF c.li aA IC r DJ hlen k zV c.li[k].nm c a7 a8 a9 aw az [.s c.li[k].me,qi c.li[k].mo,qi c.li[k].da] G
  have Z:=bn (k:=k) zV
  have U:(k:Int)<c.li.length:=zV
  have iK:(c.li.map Li.nm).take (k+1)=(c.li.map Li.nm).take k++ [c.li[k].nm]:=by simp[List.take_succ_eq_append_getElem,hk]
  unfold aO at D O ⊢
  simp only[qB,seval,gd,vd,EI,H,h1,J,D,r.lenI,U,K,Y,Dl,JH,O,N,ay5,W,X,EU,Z]
  clear H O
  grind
 ·rintro f F _ H ⟨J,D,rfl,hr⟩
  unfold aO at D ⊢
  simp only[qB,seval,gd,vd,H,h1,J,D,r.lenI,Int.lt_irrefl,hr,List.drop_length,RB]
def aKJ(fr:Fr)(lh:aE ah)(sh:List ah)(h1:aa fr 1= .ptr .L 1 1 0)(h6:aa fr 6= qi 0)(D:ab lh 1=⟨1,.cells (aO c a7 a8 a9 aw aA az) 0 true⟩):
  pN pE 112 u7 fr lh sh 4 2 (Vi (c.li.map Li.nm) c.fs) (fun F I=>I=sh):=by
 obtain⟨IC,J,DJ⟩:=hT.h11
 obtain⟨Mq,r,FA⟩:=hT.h12
 have K:=hS.s11
 have hlen:=hS.s12
 refine bW R9 (fun k f F I=>aa f 6= qi (k:Int)∧ab F 1=⟨1,.cells (aO c a7 a8 a9 aw aA az) 0 true⟩∧I=sh∧Vi (c.li.map Li.nm) c.fs=Vi (c.li.map Li.nm++(c.fs.map Of.nm).take k) (c.fs.drop k)) c.fs.length ⟨h6,D,rfl,by simp⟩ ?_ ?_
 ·rintro k f F _ hk H ⟨N,D,rfl,hr⟩
  rw[List.drop_eq_getElem_cons hk,Vi]at hr
  obtain⟨rr,O⟩:=ac3 r FA k hk
  have Dl:=cJ (oz c.fs[k].nm)
  have X:=cJ (nw c.fs[k].da 1 31)
  have Y:=cJ (nw c.fs[k].ct 1 c.fs[k].da)
  obtain⟨G,Z⟩: ∃G,(ab F 7).g+1=G:=⟨_,rfl⟩
  have U:=aKG c.li aA IC J DJ K c.fs[k].nm c a7 a8 a9 aw az [qi c.fs[k].ct,qi c.fs[k].da] G
  have V:=aKH c.fs az Mq r FA hlen k zV c.fs[k].nm c a7 a8 a9 aw aA [qi c.fs[k].ct,qi c.fs[k].da] G
  have hw:=bn (k:=k) zV
  have W:(k:Int)<c.fs.length:=zV
  have iK:(c.fs.map Of.nm).take (k+1)=(c.fs.map Of.nm).take k++ [c.fs[k].nm]:=by simp[List.take_succ_eq_append_getElem,hk]
  unfold aO at D U V ⊢
  simp only[qB,seval,gd,u7,EH,EG,H,h1,N,D,r.lenI,W,O,Z,Dl,JH,U,V,X,Y,EU,hw]
  clear H U V
  grind
 ·rintro f F _ H ⟨N,D,rfl,hr⟩
  unfold aO at D
  simp only[qB,seval,gd,u7,H,h1,N,D,r.lenI,Int.lt_irrefl,hr,List.drop_length,Vi]
def aiy:ae pE 201 [.agg (aO c a7 a8 a9 aw aA az)] []=some (qi (ac5 c),[]):=by
 have r:=aKI c a7 a8 a9 aw aA az hT hS
 have D:=aKJ c a7 a8 a9 aw aA az hT hS
 rw[au ajS (by simp[Wd])]
 unfold ac5
 unfold aO at r D ⊢
 simp(maxDischargeDepth:=6) only[qB,seval,Wd,EJ,r,D]
 grind
end
def aKL(l:Cs)(a:T)(K:List T)(N:IsSl a l.length K)(hc:dc l K)(hlen:l.length≤jA)(n:Nat)(V:n<l.length)(c:Ct)(a8 a9 aw aA az:T)(fr:Fr)(lh:aE ah)(sh:List ah)
  (W:aa fr 1= .ptr .L 1 1 0) (O:aa fr 3= qi (n:Int)) (X:aa fr 4= qi 0) (U:ab lh 1=⟨1,.cells (aO c a a8 a9 aw aA az) 0 true⟩):
  pN pE 235 uN fr lh sh 2 2 (if l[n].1∈(l.map Prod.fst).take n then 7 else 0) (fun D F=>D=lh∧F=sh):=by
 refine bW EC (fun j f D F=>aa f 4= qi (j:Int)∧D=lh∧F=sh∧l[n].1∉(l.map Prod.fst).take j) n ⟨X,rfl,rfl,by simp⟩ ?_ ?_
 ·rintro j f _ _ hj r ⟨H,rfl,rfl,hr⟩
  obtain⟨b,cb,rr,I,fg,sH,hb⟩:=gv N hc j zV
  obtain⟨b',Y,Z,jf,_⟩:=gv N hc n V
  have hw:=bn (k:=j) zV
  have J:(j:Int)<n:=zV
  unfold aO at U
  simp only[qB,seval,gd,uN,r,W,O,H,J,I,jf,hw,U]
  clear r
  grind [List.mem_take_iff_getElem]
 ·rintro f _ _ r ⟨H,rfl,rfl,hr⟩
  simp only[qB,seval,gd,uN,r,O,H,Int.lt_irrefl,hr]
def aKM(l:List Ru)(a:T)(K:List T)(U:IsSl a l.length K)(hc:aD U2 l K)(hlen:l.length≤jA)(n:Nat)(hn:n<l.length)(c:Ct)(a7 a9 aw aA az:T)(V:List T)(G7:Nat)(fr:Fr)(lh:aE ah)(sh:List ah)(W:aa fr 1= .ptr .L 1 1 0)(N:aa fr 6= qi (n:Int))(X:aa fr 7= .ptr .L 7 G7 0)(Y:aa fr 8= qi 0)(O:ab lh 1=⟨1,.cells (aO c a7 a a9 aw aA az) 0 true⟩)(Z:ab lh 7=⟨G7,.cells (qi l[n].sc:: .s l[n].nm::V) 0 true⟩):
  pN pE 235 uL fr lh sh 6 2 (if IU l[n]∈(l.map IU).take n then 7 else 0) (fun D F=>D=lh∧F=sh):=by
 refine bW EA (fun j f D F=>aa f 8= qi (j:Int)∧D=lh∧F=sh∧IU l[n]∉(l.map IU).take j) n ⟨Y,rfl,rfl,by simp⟩ ?_ ?_
 ·rintro j f _ _ hj r ⟨H,rfl,rfl,hr⟩
  obtain⟨b,cb,rr,I,fg,hb⟩:=zR U hc j zV
  have hw:=bn (k:=j) zV
  have J:(j:Int)<n:=zV
  unfold aO at O
  simp only[qB,seval,gd,uL,r,W,N,X,H,J,I,hw,O,Z]
  clear r
  grind [List.mem_take_iff_getElem,IU]
 ·rintro f _ _ r ⟨H,rfl,rfl,hr⟩
  simp only[qB,seval,gd,uL,r,N,H,Int.lt_irrefl,hr]
section
variable(c:Ct)(a7 a8 a9 aw aA az:T)(hT:kR c a7 a8 a9 aw aA az)(hS:rk c)
include hT hS
def aKN(fr:Fr)(lh:aE ah)(sh:List ah)(h1:aa fr 1= .ptr .L 1 1 0)(hi:aa fr 3= qi 0)(r:ab lh 1=⟨1,.cells (aO c a7 a8 a9 aw aA az) 0 true⟩):
  pN pE 235 uO fr lh sh 0 2 (Mw [] c.cs) (fun D H=>ab D 1=⟨1,.cells (aO c a7 a8 a9 aw aA az) 0 true⟩∧H=sh):=by
 obtain⟨c7,F,O⟩:=hT.h7
 have hlen:=hS.s7.2
 refine bW ED (fun k f D H=>aa f 3= qi (k:Int)∧ab D 1=⟨1,.cells (aO c a7 a8 a9 aw aA az) 0 true⟩∧H=sh∧Mw [] c.cs=Mw ((c.cs.map Prod.fst).take k) (c.cs.drop k)) c.cs.length ⟨hi,r,rfl,rfl⟩ ?_ ?_
 ·rintro k f D _ hk I ⟨J,r,rfl,hr⟩
  rw[List.drop_eq_getElem_cons hk,Mw]at hr
  obtain⟨b,Y,Z,K,V,sH,W⟩:=gv F O k hk
  have Dl:=cJ (oz c.cs[k].1)
  have OY:=sN c.cs[k].2 _ W (hS.s7.1 c.cs[k] (List.getElem_mem hk)).2
  have U:=aKL c.cs a7 c7 F O hlen k hk c a8 a9 aw aA az
  have X:=bn (k:=k) zV
  have N:(k:Int)<c.cs.length:=zV
  have iK:(c.cs.map Prod.fst).take (k+1)=(c.cs.map Prod.fst).take k++ [c.cs[k].1]:=by simp[List.take_succ_eq_append_getElem,hk]
  unfold aO at r U ⊢
  simp only[qB,seval,gd,uO,EC,I,h1,J,r,F.lenI,N,K,Dl,JH,U,V.froz1,OY,Pe,X]
  grind
 ·rintro f D _ I ⟨J,r,rfl,hr⟩
  unfold aO at r ⊢
  simp only[qB,seval,gd,uO,I,h1,J,r,F.lenI,Int.lt_irrefl,hr,List.drop_length,Mw]
def aKO(fr:Fr)(lh:aE ah)(sh:List ah)(h1:aa fr 1= .ptr .L 1 1 0)(hi:aa fr 6= qi 0)(r:ab lh 1=⟨1,.cells (aO c a7 a8 a9 aw aA az) 0 true⟩):
  pN pE 235 uM fr lh sh 4 2 (IF [] c.ru) (fun D H=>ab D 1=⟨1,.cells (aO c a7 a8 a9 aw aA az) 0 true⟩∧H=sh):=by
 obtain⟨c8,F,O⟩:=hT.h8
 have hlen:=hS.s8.2
 refine bW EB (fun k f D H=>aa f 6= qi (k:Int)∧ab D 1=⟨1,.cells (aO c a7 a8 a9 aw aA az) 0 true⟩∧H=sh∧IF [] c.ru=IF ((c.ru.map IU).take k) (c.ru.drop k)) c.ru.length ⟨hi,r,rfl,rfl⟩ ?_ ?_
 ·rintro k f D _ hk I ⟨J,r,rfl,hr⟩
  rw[List.drop_eq_getElem_cons hk,IF]at hr
  obtain⟨b,cb,rr,K,V,W⟩:=zR F O k hk
  have Dl:=cJ (oz c.ru[k].nm)
  have X:=cJ (nw c.ru[k].sc 1 3)
  have OY:=sN c.ru[k].x _ W (hS.s8.1 c.ru[k] (List.getElem_mem hk)).2
  obtain⟨G,Y⟩: ∃G,(ab D 7).g+1=G:=⟨_,rfl⟩
  have U:=aKM c.ru a8 c8 F O hlen k hk c a7 a9 aw aA az [qi c.ru[k].x.op,qi c.ru[k].x.num,.s c.ru[k].x.name,b] G
  have Z:=bn (k:=k) zV
  have N:(k:Int)<c.ru.length:=zV
  have iK:(c.ru.map IU).take (k+1)=(c.ru.map IU).take k++ [(c.ru[k].sc,c.ru[k].nm)]:=by simp[List.take_succ_eq_append_getElem,hk,IU]
  unfold aO at r U ⊢
  simp only[qB,seval,gd,uM,EA,I,h1,J,r,F.lenI,N,K,Y,Dl,JH,X,EU,U,V.froz1,OY,Pe,Z]
  grind [IU]
 ·rintro f D _ I ⟨J,r,rfl,hr⟩
  unfold aO at r ⊢
  simp only[qB,seval,gd,uM,I,h1,J,r,F.lenI,Int.lt_irrefl,hr,List.drop_length,IF]
def aKP(fr:Fr)(lh:aE ah)(sh:List ah)(h1:aa fr 1= .ptr .L 1 1 0)(hi:aa fr 10= qi 0)(r:ab lh 1=⟨1,.cells (aO c a7 a8 a9 aw aA az) 0 true⟩):
  pN pE 235 uK fr lh sh 8 2 (KO c.co) (fun D H=>ab D 1=⟨1,.cells (aO c a7 a8 a9 aw aA az) 0 true⟩∧H=sh):=by
 obtain⟨c9,I,O⟩:=hT.h9
 have hlen:=hS.s9.2
 refine bW Ez (fun k f D H=>aa f 10= qi (k:Int)∧ab D 1=⟨1,.cells (aO c a7 a8 a9 aw aA az) 0 true⟩∧H=sh∧KO c.co=KO (c.co.drop k)) c.co.length ⟨hi,r,rfl,rfl⟩ ?_ ?_
 ·rintro k f D _ hk F ⟨J,r,rfl,hr⟩
  rw[List.drop_eq_getElem_cons hk,KO]at hr
  obtain⟨b,Y,Z,K,U,V⟩:=CS I O k hk
  have W:=cJ (nw c.co[k].sc 1 3)
  have OY:=sN c.co[k].x _ V (hS.s9.1 c.co[k] (List.getElem_mem hk)).2
  have X:=bn (k:=k) zV
  have N:(k:Int)<c.co.length:=zV
  unfold aO at r ⊢
  simp only[qB,seval,gd,uK,F,h1,J,r,I.lenI,N,K,W,EU,U.froz1,OY,Pe,X]
  clear F
  grind
 ·rintro f D _ F ⟨J,r,rfl,hr⟩
  unfold aO at r ⊢
  simp only[qB,seval,gd,uK,F,h1,J,r,I.lenI,Int.lt_irrefl,hr,List.drop_length,KO]
def aKQ(fr:Fr)(lh:aE ah)(sh:List ah)(h1:aa fr 1= .ptr .L 1 1 0)(hi:aa fr 12= qi 0)(r:ab lh 1=⟨1,.cells (aO c a7 a8 a9 aw aA az) 0 true⟩):
  pN pE 235 uJ fr lh sh 10 2 (KP c.cr) (fun F I=>ab F 1=⟨1,.cells (aO c a7 a8 a9 aw aA az) 0 true⟩∧I=sh):=by
 obtain⟨uF,D,Ah⟩:=hT.h10
 have hlen:=hS.s10.2
 refine bW Ey (fun k f F I=>aa f 12= qi (k:Int)∧ab F 1=⟨1,.cells (aO c a7 a8 a9 aw aA az) 0 true⟩∧I=sh∧KP c.cr=KP (c.cr.drop k)) c.cr.length ⟨hi,r,rfl,rfl⟩ ?_ ?_
 ·rintro k f F _ hk H ⟨J,r,rfl,hr⟩
  rw[List.drop_eq_getElem_cons hk,KP]at hr
  obtain⟨b,W,X,K,O,Y,U⟩:=nO D Ah k hk
  have OY:=sN c.cr[k] _ U (hS.s10.1 c.cr[k] (List.getElem_mem hk)).2
  have V:=bn (k:=k) zV
  have N:(k:Int)<c.cr.length:=zV
  unfold aO at r ⊢
  simp only[qB,seval,gd,uJ,H,h1,J,r,D.lenI,N,K,O.froz1,OY,Pe,V]
  clear H
  grind
 ·rintro f F _ H ⟨J,r,rfl,hr⟩
  unfold aO at r ⊢
  simp only[qB,seval,gd,uJ,H,h1,J,r,D.lenI,Int.lt_irrefl,hr,List.drop_length,KP]
end
section
variable(c:Ct)(a7 a8 a9 aw aA az:T)(hT:kR c a7 a8 a9 aw aA az)(hS:rk c)
include hT hS
def LR:ae pE 118 [.agg (aO c a7 a8 a9 aw aA az)] []=some (qi (gr c),[]):=by
 have H:=aiy c a7 a8 a9 aw aA az hT hS
 have I:=aKN c a7 a8 a9 aw aA az hT hS
 have J:=aKO c a7 a8 a9 aw aA az hT hS
 have K:=aKP c a7 a8 a9 aw aA az hT hS
 have N:=aKQ c a7 a8 a9 aw aA az hT hS
 obtain⟨⟨c7,O,W⟩,⟨c8,U,X⟩,⟨c9,V,Y⟩,⟨uF,r,Ah⟩,⟨IC,D,DJ⟩,⟨Mq,F,FA⟩⟩:=hT
 have w:=fun n lo hi=>cJ (nw n lo hi)
 unfold aO at I J K N H ⊢
 rw[au O6 (by simp[MA])]
 unfold gr ln lD
 simp(maxDischargeDepth:=6) only[qB,seval,MA,Ey,Ez,EB,ED,O.lenI,U.lenI,V.lenI,r.lenI,D.lenI,F.lenI,O.froz1,U.froz1,V.froz1,r.froz1,D.froz1,F.froz1,w,EU,I,J,K,N,H,ay6]
 clear I J K N H w hS
 grind (splits:=40)
end
def Vj(s:List Nat):Prop:=dI 1 s≠0∨dI 2 s≠0∨dI 3 s≠0
instance (s:List Nat):Decidable (Vj s):=by unfold Vj;infer_instance
def Om(l:Cs):Nat→Cs→Int
 |_,[]=>0
 |k,c::r=>if Vj c.1 then 7 else if(tj l k).2≠0 then(tj l k).2 else Om l (k+1) r
def IG(l:Cs)(scope:Int)(x:Ex)(r:Int):Int:=if(cj l scope x).2=0∧(cj l scope x).1≠r then 9 else(cj l scope x).2
def KQ(l:Cs):List Ru→Int
 | []=>0
 |u::r=>if IG l u.sc u.x 4≠0 then IG l u.sc u.x 4 else KQ l r
def KR(l:Cs):List Co→Int
 | []=>0
 |u::r=>if IG l u.sc u.x 1≠0 then IG l u.sc u.x 1 else KR l r
def Mr(l:Cs):List Ex→Int
 | []=>0
 |x::r=>if IG l 1 x 2≠0 then IG l 1 x 2 else Mr l r
def eH(c:Ct):Int:=if gr c≠0 then gr c else if Om c.cs 0 c.cs≠0 then Om c.cs 0 c.cs else if KQ c.cs c.ru≠0 then KQ c.cs c.ru else if KR c.cs c.co≠0 then KR c.cs c.co else Mr c.cs c.cr
def rM(l:Cs)(lT:T)(sh:List ah):Prop:= ∃kn,sh=uA lT (bE l l.length) kn∧xm l kn
def aiz(s:List Nat)(j:Nat):Prop:= ∀i:Nat,i<j→dI ((i:Int)+1) s=0
def aKR(s:List Nat)(K:List T)(G:Nat)(fr:Fr)(lh:aE ah)(sh:List ah)(N:aa fr 6= .ptr .L 6 G 0)(O:aa fr 7= qi 1)(U:ab lh 6=⟨G,.cells (.s s::K) 0 true⟩):
  pN pE 115 Bm fr lh sh 2 2 (if Vj s then 7 else 0) (fun F H=>F=lh∧H=sh):=by
 refine bW Jm (fun j f F H=>aa f 7= qi ((j:Int)+1)∧F=lh∧H=sh∧aiz s j) 3 ⟨O,rfl,rfl,fun i h=>by omega⟩ ?_ ?_
 ·rintro j f _ _ X r ⟨D,rfl,rfl,t⟩
  have I:=Kz ((j:Int)+1) s
  unfold rh at I
  have J:(j:Int)+1≤3:=zV
  have V:wr .i64 ((j:Int)+1+1)=((j+1:Nat):Int)+1:=aZ zV
  have hc:j=0∨j=1∨j=2:=zV
  by_cases W:dI ((j:Int)+1) s=0 <;> simp only[qB,seval,gd,Bm,r,N,D,U,J,V,I,W,Sz] <;> clear r I <;> grind [aiz,Vj]
 ·rintro f _ _ r ⟨D,rfl,rfl,t⟩
  rw[show((3:Nat):Int)+1=4 from rfl]at D
  have a:=t 0 zz
  have b:=t 1 zz
  have c:=t 2 zz
  simp only[qB,seval,gd,Bm,r,D]
  unfold Vj
  grind
section
variable(l:Cs)(lT:T)(cl:List T)(hl:IsSl lT l.length cl)(hcl:dc l cl)(hlen:l.length≤jA)(tz:smC l)
include hl hcl hlen tz
def Ir(scope r:Int)(x:Ex)(cs:List T)(hx:iD x cs)(J:smE x)(sh:List ah)(N:rM l lT sh): ∃K,ae pE 133 [.ptr .S 2 1 0,qi scope,qi (l.length:Int),.agg cs,qi r] sh=some (qi (IG l scope x r),K)∧rM l lT K:=by
 obtain⟨kn,rfl,O⟩:=N
 obtain⟨F,D,H,_⟩:=Oz l lT cl hl hcl hlen l.length (Nat.le_refl _) (fun j U=>OA l lT cl hl hcl hlen tz j U) scope x cs hx J.1 J.2 kn O
 have V:LX l l.length scope x=cj l scope x:=by unfold LX cj FX;rw[List.take_length]
 rw[V]at D
 obtain⟨a,Y,rfl,I,Vb⟩:=hx.cells
 rw[au ajg (by simp[MD])]
 unfold IG
 generalize cj l scope x=q at*
 obtain⟨W,X⟩:=q
 simp only at D ⊢
 by_cases h2:X=0
 ·subst h2
  by_cases h1:W=r
  ·subst h1
   simp only[qA,seval,dA,MD,D,EV,I.kept1]
   exact⟨_,rfl,F,rfl,H⟩
  ·simp only[qA,seval,dA,MD,D,EV,I.kept1,h1]
   exact⟨_,rfl,F,rfl,H⟩
 ·simp only[qA,seval,dA,MD,D,EV,I.kept1,h2]
  exact⟨_,rfl,F,rfl,H⟩
end
section
variable(c:Ct)(a7 a8 a9 aw aA az:T)(hT:kR c a7 a8 a9 aw aA az)(hS:rk c)
include hT hS
def aKS(I:ah)(fr:Fr)(lh:aE ah)(sh:List ah)(fx:rM c.cs a7 sh)
  (h4:aa fr 4= .ptr .S 2 1 0) (J:aa fr 31=a7) (U:aa fr 32= qi (c.cs.length:Int)) (C4:aa fr 33= qi 0) (D:ab lh 1=I):
  pN pE 115 Bn fr lh sh 0 2 (Om c.cs 0 c.cs) (fun r F=>ab r 1=I∧rM c.cs a7 F):=by
 obtain⟨c7,V,W⟩:=hT.h7
 have hlen:=hS.s7.2
 refine bW Jn (fun k f r F=>aa f 33= qi (k:Int)∧ab r 1=I∧rM c.cs a7 F∧Om c.cs 0 c.cs=Om c.cs k (c.cs.drop k)) c.cs.length ⟨C4,D,fx,rfl⟩ ?_ ?_
 ·rintro k f r _ hk H ⟨K,D,⟨kn,rfl,X⟩,hr⟩
  have N:(k:Int)<c.cs.length:=zV
  have hw:=bn (k:=k) zV
  rw[List.drop_eq_getElem_cons hk,Om]at hr
  obtain⟨b,cb,rr,O,fg,sH,hb⟩:=gv V W k hk
  obtain⟨Y,Z,jD,_⟩:=OA c.cs a7 c7 V W hlen hS.s7.1 k hk kn X
  obtain⟨G,hG⟩: ∃G,(ab r 6).g+1=G:=⟨_,rfl⟩
  have hD:=aKR c.cs[k].1 [qi c.cs[k].2.op,qi c.cs[k].2.num,.s c.cs[k].2.name,b] G
  have h1:rM c.cs a7 (uA a7 (bE c.cs c.cs.length) kn):=⟨kn,rfl,X⟩
  have h2:rM c.cs a7 (uA a7 (bE c.cs c.cs.length) Y):=⟨Y,rfl,jD⟩
  simp only[qB,seval,gd,dA,Bn,H,h4,J,U,K,D,N,O,hw,hG,hD,Jm,Z,ajf,h1,h2]
  clear H hD Z
  grind
 ·rintro f r F H ⟨K,D,h,hr⟩
  simp only[qB,seval,gd,Bn,H,U,K,D,h,Int.lt_irrefl,hr,List.drop_length,Om]
end
section
variable(c:Ct)(a7 a8 a9 aw aA az:T)(hT:kR c a7 a8 a9 aw aA az)(hS:rk c)
include hT hS
def aKT(I:ah)(fr:Fr)(lh:aE ah)(sh:List ah)(V:rM c.cs a7 sh)
  (h4:aa fr 4= .ptr .S 2 1 0) (J:aa fr 12= qi (c.cs.length:Int)) (hs:aa fr 65=a8) (hl:aa fr 66= qi (c.ru.length:Int)) (hi:aa fr 67= qi 0) (D:ab lh 1=I):
  pN pE 115 Bl fr lh sh 4 2 (KQ c.cs c.ru) (fun F r=>ab F 1=I∧rM c.cs a7 r):=by
 obtain⟨c7,W,X⟩:=hT.h7
 obtain⟨c8,Y,Z⟩:=hT.h8
 have hlen:=hS.s8.2
 refine bW Jl (fun k f F r=>aa f 67= qi (k:Int)∧ab F 1=I∧rM c.cs a7 r∧KQ c.cs c.ru=KQ c.cs (c.ru.drop k)) c.ru.length ⟨hi,D,V,rfl⟩ ?_ ?_
 ·rintro k f F r hk H ⟨K,D,tn,hr⟩
  have N:(k:Int)<c.ru.length:=zV
  have hw:=bn (k:=k) zV
  rw[List.drop_eq_getElem_cons hk,KQ]at hr
  obtain⟨b,cb,rr,O,fg,hb⟩:=zR Y Z k hk
  obtain⟨sh2,U,Iw⟩:=Ir c.cs a7 c7 W X hS.s7.2 hS.s7.1 c.ru[k].sc 4 c.ru[k].x _ hb (hS.s8.1 c.ru[k] (List.getElem_mem hk)) r tn
  simp only[qB,seval,gd,dA,Bl,H,h4,J,hs,hl,K,D,N,O,hw,fg.kept1,U,W4,Iw]
  clear H U
  grind
 ·rintro f F r H ⟨K,D,h,hr⟩
  simp only[qB,seval,gd,Bl,H,hl,K,D,h,Int.lt_irrefl,hr,List.drop_length,KQ]
def aKU(I:ah)(fr:Fr)(lh:aE ah)(sh:List ah)(V:rM c.cs a7 sh)
  (h4:aa fr 4= .ptr .S 2 1 0) (J:aa fr 12= qi (c.cs.length:Int)) (hs:aa fr 83=a9) (hl:aa fr 84= qi (c.co.length:Int)) (hi:aa fr 85= qi 0) (D:ab lh 1=I):
  pN pE 115 Bk fr lh sh 6 2 (KR c.cs c.co) (fun F r=>ab F 1=I∧rM c.cs a7 r):=by
 obtain⟨c7,W,X⟩:=hT.h7
 obtain⟨c8,Y,Z⟩:=hT.h9
 have hlen:=hS.s9.2
 refine bW Jk (fun k f F r=>aa f 85= qi (k:Int)∧ab F 1=I∧rM c.cs a7 r∧KR c.cs c.co=KR c.cs (c.co.drop k)) c.co.length ⟨hi,D,V,rfl⟩ ?_ ?_
 ·rintro k f F r hk H ⟨K,D,tn,hr⟩
  have N:(k:Int)<c.co.length:=zV
  have hw:=bn (k:=k) zV
  rw[List.drop_eq_getElem_cons hk,KR]at hr
  obtain⟨b,cb,rr,O,fg,hb⟩:=CS Y Z k hk
  obtain⟨sh2,U,Iw⟩:=Ir c.cs a7 c7 W X hS.s7.2 hS.s7.1 c.co[k].sc 1 c.co[k].x _ hb (hS.s9.1 c.co[k] (List.getElem_mem hk)) r tn
  simp only[qB,seval,gd,dA,Bk,H,h4,J,hs,hl,K,D,N,O,hw,fg.kept1,U,W4,Iw]
  clear H U
  grind
 ·rintro f F r H ⟨K,D,h,hr⟩
  simp only[qB,seval,gd,Bk,H,hl,K,D,h,Int.lt_irrefl,hr,List.drop_length,KR]
def aKV(I:ah)(fr:Fr)(lh:aE ah)(sh:List ah)(V:rM c.cs a7 sh)
  (h4:aa fr 4= .ptr .S 2 1 0) (J:aa fr 12= qi (c.cs.length:Int)) (hs:aa fr 101=aw) (hl:aa fr 102= qi (c.cr.length:Int)) (hi:aa fr 103= qi 0) (D:ab lh 1=I):
  pN pE 115 Bj fr lh sh 8 2 (Mr c.cs c.cr) (fun F r=>ab F 1=I∧rM c.cs a7 r):=by
 obtain⟨c7,W,X⟩:=hT.h7
 obtain⟨c8,Y,Z⟩:=hT.h10
 have hlen:=hS.s10.2
 refine bW Jj (fun k f F r=>aa f 103= qi (k:Int)∧ab F 1=I∧rM c.cs a7 r∧Mr c.cs c.cr=Mr c.cs (c.cr.drop k)) c.cr.length ⟨hi,D,V,rfl⟩ ?_ ?_
 ·rintro k f F r hk H ⟨K,D,tn,hr⟩
  have N:(k:Int)<c.cr.length:=zV
  have hw:=bn (k:=k) zV
  rw[List.drop_eq_getElem_cons hk,Mr]at hr
  obtain⟨b,cb,rr,O,fg,sH,hb⟩:=nO Y Z k hk
  obtain⟨sh2,U,Iw⟩:=Ir c.cs a7 c7 W X hS.s7.2 hS.s7.1 1 2 c.cr[k] _ hb (hS.s10.1 c.cr[k] (List.getElem_mem hk)) r tn
  simp only[qB,seval,gd,dA,Bj,H,h4,J,hs,hl,K,D,N,O,hw,fg.kept1,U,W4,Iw]
  clear H U
  grind
 ·rintro f F r H ⟨K,D,h,hr⟩
  simp only[qB,seval,gd,Bj,H,hl,K,D,h,Int.lt_irrefl,hr,List.drop_length,Mr]
def Qb: ∃s,ae pE 71 [.agg (aO c a7 a8 a9 aw aA az)] []=some (qi (eH c),s):=by
 have r:=ac9 c a7 a8 a9 aw aA az hT hS
 have H:=aKS c a7 a8 a9 aw aA az hT hS ⟨1,.cells (aO c a7 a8 a9 aw aA az) 0 true⟩
 have I:=aKT c a7 a8 a9 aw aA az hT hS ⟨1,.cells (aO c a7 a8 a9 aw aA az) 0 true⟩
 have J:=aKU c a7 a8 a9 aw aA az hT hS ⟨1,.cells (aO c a7 a8 a9 aw aA az) 0 true⟩
 have K:=aKV c a7 a8 a9 aw aA az hT hS ⟨1,.cells (aO c a7 a8 a9 aw aA az) 0 true⟩
 obtain⟨⟨c7,F,Y⟩,⟨c8,V,Z⟩,⟨c9,W,j9⟩,⟨uF,D,Ah⟩,⟨IC,N,DJ⟩,⟨Mq,O,FA⟩⟩:=hT
 have X:=acr c.cs a7 c7 F Y hS.s7.2
 have U:rM c.cs a7 (uA a7 (bE c.cs c.cs.length) []):=⟨[],rfl,fun i t h=>by cases h⟩
 unfold aO at H I J K r ⊢
 rw[au axQ (by simp[c71])]
 unfold eH
 simp(maxDischargeDepth:=8) only[qB,seval,dA,c71,Jj,Jk,Jl,Jn,F.lenI,V.lenI,W.lenI,D.lenI,F.kept,F.froz1,V.froz1,W.froz1,D.froz1,N.froz1,O.froz1,r,ayz,X,ajd,U,H,I,J,K,aHA,yy]
 clear H I J K r X
 grind (splits:=30)
end
def aKW(s:List Nat)(fr:Fr)(lh:aE ah)(sh:List ah)(K:aa fr 0= .s s)(N:aa fr 3= qi 1):
  LpC pE 18 uX fr lh sh 0 2 (¬Vj s) (.b true) (fun F H=>F=lh∧H=sh):=by
 refine mn RZ (by simp[aU]) (fun j f F H=>aa f 3= qi ((j:Int)+1)∧F=lh∧H=sh∧aiz s j) 3 ⟨N,rfl,rfl,fun i h=>by omega⟩ ?_ ?_
 ·rintro j f _ _ V r ⟨D,rfl,rfl,t⟩
  have I:=KA ((j:Int)+1) s
  unfold rh at I
  have J:(j:Int)+1≤3:=zV
  have O:wr .i64 ((j:Int)+1+1)=((j+1:Nat):Int)+1:=aZ zV
  have hc:j=0∨j=1∨j=2:=zV
  by_cases U:dI ((j:Int)+1) s=0 <;> simp only[qB,seval,gd,uX,r,K,D,J,O,I,U,ES] <;> clear r I <;> grind [aiz,Vj]
 ·rintro f _ _ r ⟨D,rfl,rfl,t⟩
  rw[show((3:Nat):Int)+1=4 from rfl]at D
  have a:=t 0 zz
  have b:=t 1 zz
  have c:=t 2 zz
  simp only[qB,seval,gd,uX,r,D]
  grind [Vj]
def UQ(s:List Nat):ae pE 166 [.s s] []=some (.b (decide (Vj s)),[]):=by
 have r:=aKW s
 rw[au ajC (by simp[VY])]
 by_cases h:Vj s <;> simp only[qB,seval,VY,r,h]
section
variable(c:Ct)(a7 a8 a9 aw aA az:T)(hT:kR c a7 a8 a9 aw aA az)(hS:rk c)
include hT hS
def Is(scope r:Int)(x:Ex)(cs:List T)(hx:iD x cs)(J:(scope,x)∈oB):ae pE 167 [.agg (aO c a7 a8 a9 aw aA az),qi scope,.agg cs,qi r] []=some (qi (IG c.cs scope x r),[]):=by
 obtain⟨c7,H,K⟩:=hT.h7
 obtain⟨j,N,I⟩:=hS.b7
 obtain⟨e,F,_⟩:=Rz I H K
 have D:=aKv e j N _ J
 rw[←F,←I,←show cs=fN x from hx]at D
 obtain⟨a,U,rfl,O,Vb⟩:=hx.cells
 rw[au Xi (by simp[VZ])]
 unfold IG aO
 simp only[qB,seval,VZ,D,aiO,O.froz1,H.froz]
 grind
def aKX(fr:Fr)(lh:aE ah)(sh:List ah)(h1:aa fr 1= .ptr .L 1 1 0)(hi:aa fr 4= qi 0)(r:ab lh 1=⟨1,.cells (aO c a7 a8 a9 aw aA az) 0 true⟩):
  pN pE 114 Bv fr lh sh 0 2 (Om c.cs 0 c.cs) (fun H K=>ab H 1=⟨1,.cells (aO c a7 a8 a9 aw aA az) 0 true⟩∧K=sh):=by
 obtain⟨c7,N,X⟩:=hT.h7
 have hlen:=hS.s7.2
 have tz:=hS.s7.1
 refine bW Jz (fun k f H K=>aa f 4= qi (k:Int)∧ab H 1=⟨1,.cells (aO c a7 a8 a9 aw aA az) 0 true⟩∧K=sh∧Om c.cs 0 c.cs=Om c.cs k (c.cs.drop k)) c.cs.length ⟨hi,r,rfl,rfl⟩ ?_ ?_
 ·rintro k f H _ hk J ⟨O,r,rfl,hr⟩
  have U:(k:Int)<c.cs.length:=zV
  have D:k≤c.cs.length:=Nat.le_of_lt hk
  have Y:=bn (k:=k) zV
  rw[List.drop_eq_getElem_cons hk,Om]at hr
  obtain⟨b,cb,rr,V,Z,sH,hb⟩:=gv N X k hk
  obtain⟨zX,hss⟩:=tz c.cs[k] (List.getElem_mem hk)
  have jH:=UQ c.cs[k].1
  obtain⟨ex,rfl,tn,Iw,W⟩:=aix c.cs a7 c7 hk N X
  have hlt:(c.cs.take k).length=k:=by rw[List.length_take,Nat.min_eq_left D]
  have F:ae pE 102 [.sl (List.take (k*5) c7) k (ex&&decide (k=c.cs.length)),qi 0,.agg [qi c.cs[k].2.op,qi c.cs[k].2.num,.s c.cs[k].2.name,b]] []=some (.tup [qi (cj (c.cs.take k) 0 c.cs[k].2).1,qi (cj (c.cs.take k) 0 c.cs[k].2).2],[]):=by
   obtain⟨j,hj,I⟩:=hS.b7
   have An:k=0:=by rw[I]at hk;simpa[kJ]using hk
   subst An
   have hx:c.cs[0].2=nP j:=by simp[I,kJ]
   rw[show [qi c.cs[0].2.op,qi c.cs[0].2.num,.s c.cs[0].2.name,b]=fN c.cs[0].2 from hb,hx]
   exact tyc _ j (j3 hj)
  rw[OX c.cs D,←H9 c.cs hk]at F
  unfold aO at r ⊢
  by_cases hs:Vj c.cs[k].1 <;> simp only[qB,seval,gd,pG,bg,aH,Bv,J,h1,O,r,U,V,Z.froz1,jH,hs,ayS,Y,D,W,Nat.sub_zero,F,aiO,ayh] <;> clear J F <;> grind
 ·rintro f H _ J ⟨O,r,rfl,hr⟩
  unfold aO at r ⊢
  simp only[qB,seval,gd,Bv,J,h1,O,r,N.lenI,Int.lt_irrefl,hr,List.drop_length,Om]
def aKZ(fr:Fr)(lh:aE ah)(sh:List ah)(h1:aa fr 1= .ptr .L 1 1 0)(hi:aa fr 7= qi 0)(r:ab lh 1=⟨1,.cells (aO c a7 a8 a9 aw aA az) 0 true⟩):
  pN pE 114 Bu fr lh sh 2 2 (KQ c.cs c.ru) (fun D I=>ab D 1=⟨1,.cells (aO c a7 a8 a9 aw aA az) 0 true⟩∧I=sh):=by
 have J:=hT
 obtain⟨⟨c7,Y,j7⟩,⟨c8,H,Z⟩,⟨c9,i9,j9⟩,⟨uF,K,Ah⟩,⟨IC,N,DJ⟩,⟨Mq,O,FA⟩⟩:=hT
 have hlen:=hS.s8.2
 refine bW Jy (fun k f D I=>aa f 7= qi (k:Int)∧ab D 1=⟨1,.cells (aO c a7 a8 a9 aw aA az) 0 true⟩∧I=sh∧KQ c.cs c.ru=KQ c.cs (c.ru.drop k)) c.ru.length ⟨hi,r,rfl,rfl⟩ ?_ ?_
 ·rintro k f D _ hk U ⟨V,r,rfl,hr⟩
  have W:(k:Int)<c.ru.length:=zV
  have hw:=bn (k:=k) zV
  rw[List.drop_eq_getElem_cons hk,KQ]at hr
  obtain⟨b,cb,rr,X,fg,hb⟩:=zR H Z k hk
  have F:=Is c a7 a8 a9 aw aA az J hS c.ru[k].sc 4 c.ru[k].x _ hb (hS.b8 c.ru[k] (List.getElem_mem hk))
  unfold aO at r F ⊢
  simp only[qB,seval,gd,bg,aH,Bu,U,h1,V,r,H.lenI,W,X,fg.froz1,Y.froz1,H.froz1,i9.froz1,K.froz1,N.froz1,O.froz1,F,Xj,Xk,hw]
  grind
 ·rintro f D _ U ⟨V,r,rfl,hr⟩
  unfold aO at r ⊢
  simp only[qB,seval,gd,Bu,U,h1,V,r,H.lenI,Int.lt_irrefl,hr,List.drop_length,KQ]
def aK0(fr:Fr)(lh:aE ah)(sh:List ah)(h1:aa fr 1= .ptr .L 1 1 0)(hi:aa fr 9= qi 0)(r:ab lh 1=⟨1,.cells (aO c a7 a8 a9 aw aA az) 0 true⟩):
  pN pE 114 Bt fr lh sh 4 2 (KR c.cs c.co) (fun D I=>ab D 1=⟨1,.cells (aO c a7 a8 a9 aw aA az) 0 true⟩∧I=sh):=by
 have J:=hT
 obtain⟨⟨c7,Y,j7⟩,⟨c8,Z,j8⟩,⟨c9,H,j9⟩,⟨uF,K,Ah⟩,⟨IC,N,DJ⟩,⟨Mq,O,FA⟩⟩:=hT
 have hlen:=hS.s9.2
 refine bW Jx (fun k f D I=>aa f 9= qi (k:Int)∧ab D 1=⟨1,.cells (aO c a7 a8 a9 aw aA az) 0 true⟩∧I=sh∧KR c.cs c.co=KR c.cs (c.co.drop k)) c.co.length ⟨hi,r,rfl,rfl⟩ ?_ ?_
 ·rintro k f D _ hk U ⟨V,r,rfl,hr⟩
  have W:(k:Int)<c.co.length:=zV
  have hw:=bn (k:=k) zV
  rw[List.drop_eq_getElem_cons hk,KR]at hr
  obtain⟨b,cb,rr,X,fg,hb⟩:=CS H j9 k hk
  have F:=Is c a7 a8 a9 aw aA az J hS c.co[k].sc 1 c.co[k].x _ hb (hS.b9 c.co[k] (List.getElem_mem hk))
  unfold aO at r F ⊢
  simp only[qB,seval,gd,bg,aH,Bt,U,h1,V,r,H.lenI,W,X,fg.froz1,Y.froz1,Z.froz1,H.froz1,K.froz1,N.froz1,O.froz1,F,Xj,Xk,hw]
  grind
 ·rintro f D _ U ⟨V,r,rfl,hr⟩
  unfold aO at r ⊢
  simp only[qB,seval,gd,Bt,U,h1,V,r,H.lenI,Int.lt_irrefl,hr,List.drop_length,KR]
def aK1(fr:Fr)(lh:aE ah)(sh:List ah)(h1:aa fr 1= .ptr .L 1 1 0)(hi:aa fr 11= qi 0)(D:ab lh 1=⟨1,.cells (aO c a7 a8 a9 aw aA az) 0 true⟩):
  pN pE 114 Bs fr lh sh 6 2 (Mr c.cs c.cr) (fun F I=>ab F 1=⟨1,.cells (aO c a7 a8 a9 aw aA az) 0 true⟩∧I=sh):=by
 have J:=hT
 obtain⟨⟨c7,X,j7⟩,⟨c8,Y,j8⟩,⟨c9,Z,j9⟩,⟨uF,r,Ah⟩,⟨IC,K,DJ⟩,⟨Mq,N,FA⟩⟩:=hT
 have hlen:=hS.s10.2
 refine bW Jw (fun k f F I=>aa f 11= qi (k:Int)∧ab F 1=⟨1,.cells (aO c a7 a8 a9 aw aA az) 0 true⟩∧I=sh∧Mr c.cs c.cr=Mr c.cs (c.cr.drop k)) c.cr.length ⟨hi,D,rfl,rfl⟩ ?_ ?_
 ·rintro k f F _ hk O ⟨U,D,rfl,hr⟩
  have V:(k:Int)<c.cr.length:=zV
  have hw:=bn (k:=k) zV
  rw[List.drop_eq_getElem_cons hk,Mr]at hr
  obtain⟨b,cb,rr,W,fg,sH,hb⟩:=nO r Ah k hk
  have H:=Is c a7 a8 a9 aw aA az J hS 1 2 c.cr[k] _ hb (hS.b10 c.cr[k] (List.getElem_mem hk))
  unfold aO at D H ⊢
  simp only[qB,seval,gd,bg,aH,Bs,O,h1,U,D,r.lenI,V,W,fg.froz1,X.froz1,Y.froz1,Z.froz1,r.froz1,K.froz1,N.froz1,H,Xj,Xk,hw]
  grind
 ·rintro f F _ O ⟨U,D,rfl,hr⟩
  unfold aO at D ⊢
  simp only[qB,seval,gd,Bs,O,h1,U,D,r.lenI,Int.lt_irrefl,hr,List.drop_length,Mr]
def TR:ae pE 93 [.agg (aO c a7 a8 a9 aw aA az)] []=some (qi (eH c),[]):=by
 have r:=LR c a7 a8 a9 aw aA az hT hS
 have I:=aKX c a7 a8 a9 aw aA az hT hS
 have J:=aKZ c a7 a8 a9 aw aA az hT hS
 have K:=aK0 c a7 a8 a9 aw aA az hT hS
 have N:=aK1 c a7 a8 a9 aw aA az hT hS
 obtain⟨⟨c7,O,W⟩,⟨c8,U,X⟩,⟨c9,V,Y⟩,⟨uF,D,Ah⟩,⟨IC,F,DJ⟩,⟨Mq,H,FA⟩⟩:=hT
 unfold aO at I J K N r ⊢
 rw[au anj (by simp[c93])]
 unfold eH
 simp(maxDischargeDepth:=8) only[qB,seval,c93,Jw,Jx,Jy,Jz,O.froz1,U.froz1,V.froz1,D.froz1,F.froz1,H.froz1,r,aiZ,I,J,K,N]
 grind
end
def rm(n:Int):Bool:=decide (-840≤n)&&decide (n≤840)
def oK(n:Int):Bool:=decide (0≤n)&&decide (n<52596000)
def RC(n:Int):ae pE 208 [qi n] []=some (.b (rm n),[]):=by
 rw[au aj0 (by simp[Wi])]
 unfold rm
 by_cases h: -840≤n <;> simp only[qA,seval,Wi,h]
def RD(n:Int):ae pE 234 [qi n] []=some (.b (rm n),[]):=by
 rw[au akl (by simp[Wu])]
 unfold rm
 by_cases h: -840≤n <;> simp only[qA,seval,Wu,h]
def Qh(n:Int):ae pE 209 [qi n] []=some (.b (oK n),[]):=by
 rw[au aj1 (by simp[Wj])]
 unfold oK
 by_cases h:0≤n <;> simp only[qA,seval,Wj,h]
def Qi(n:Int):ae pE 235 [qi n] []=some (.b (oK n),[]):=by
 rw[au akm (by simp[Wv])]
 unfold oK
 by_cases h:0≤n <;> simp only[qA,seval,Wv,h]
structure Zo where
 nm:List Nat
 o:Int
 sh:List (Int×Int)
def U6(s:Int×Int)(c:List T):Prop:=c= [qi s.1,qi s.2]
theorem U6.len(s:Int×Int)(c:List T)(h:U6 s c):c.length=2:=by rw[h];rfl
def Ee(D:Option Int):List (Int×Int)→Int
 | []=>0
 |s::r=>if(oK s.1&&rm s.2)=false then 5 else if(match D with|some p=>decide (s.1≤p)|none=>false)=true then 8 else Ee (some s.1) r
def rN(l:List (Int×Int))(k:Nat):Option Int:=if k=0 then none else(l[k-1]?).map (·.1)
theorem ada{l:List (Int×Int)}{k:Nat}(hk:k<l.length):Ee (rN l k) (l.drop k)=if(oK l[k].1&&rm l[k].2)=false then 5 else if(match rN l k with|some p=>decide (l[k].1≤p)|none=>false)=true then 8 else Ee (rN l (k+1)) (l.drop (k+1)):=by
 have e:rN l (k+1)=some l[k].1:=by unfold rN;rw[if_neg zV,Nat.add_sub_cancel,List.getElem?_eq_getElem hk];rfl
 rw[List.drop_eq_getElem_cons hk,e]
 conv=>lhs;unfold Ee
def Ge{l:List (Int×Int)}{k:Nat}(h0:0<k)(hk:k-1<l.length):rN l k=some l[k-1].1:=by
 unfold rN;rw[if_neg zV,List.getElem?_eq_getElem hk];rfl
def jw{k:Nat}(h0:0<k)(h:k<4611686018427387904):wr .i64 ((k:Int)-1)=((k-1:Nat):Int):=by rw[aZ zV];omega
def ig(z:Zo):Int:=if jG z.nm=false then 1 else if rm z.o=false then 5 else if 16<z.sh.length then 10 else Ee none z.sh
def C0{l:List (Int×Int)}{a:T}{D:List T}(F:IsSl a l.length D)(hc:aD U6 l D){k:Nat}(hk:k<l.length): ∃r,∀kk,iaV a (.i kk (k:Int)) 2=some (.vp (qi l[k].1:: qi l[k].2::r)):=by
 obtain⟨c,r,h1,h2⟩:=gI (k:=2) U6.len F hc k hk
 rw[U6]at h2
 subst h2
 exact⟨r,h1⟩
def aK2(z:Zo)(a:T)(V:List T)(W:IsSl a z.sh.length V)(hc:aD U6 z.sh V)(hlen:z.sh.length≤16)(fr:Fr)(lh:aE ah)(sh:List ah)
  (h1:aa fr 1= .ptr .L 1 1 0) (X:aa fr 18=a) (K:aa fr 19= qi (z.sh.length:Int)) (N:aa fr 20= qi 0) (D:ab lh 1=⟨1,.cells [.s z.nm,qi z.o,a] 0 true⟩):
  pN pE 50 rR fr lh sh 0 2 (Ee none z.sh) (fun I O=>O=sh):=by
 refine bW RJ (fun k f I O=>aa f 20= qi (k:Int)∧ab I 1=⟨1,.cells [.s z.nm,qi z.o,a] 0 true⟩∧O=sh∧Ee none z.sh=Ee (rN z.sh k) (z.sh.drop k)) z.sh.length ⟨N,D,rfl,rfl⟩ ?_ ?_
 ·rintro k f I _ hk r ⟨J,D,rfl,hr⟩
  rw[ada hk]at hr
  have F:(k:Int)<z.sh.length:=zV
  have Y:=aF (k:=k) zV
  obtain⟨rr,H⟩:=C0 W hc hk
  have Z:=cJ (Qh z.sh[k].1)
  have i2:=cJ (RC z.sh[k].2)
  by_cases An:k=0
  ·have U: ¬(0:Int)<k:=zV
   have hp:rN z.sh k=none:=by rw[An];rfl
   simp only[qB,seval,gd,rR,r,X,K,J,D,F,H,Z,i2,U,Y,Xz,Pj]
   clear r
   grind
  ·have U:(0:Int)<k:=zV
   have CV:=jw (k:=k) zV zV
   obtain⟨r2,Hl⟩:=C0 W hc (k:=k-1) zV
   have hp:=Ge (l:=z.sh) (k:=k) zV zV
   simp only[qB,seval,gd,rR,r,h1,X,K,J,D,F,H,Z,i2,U,Y,CV,Hl,Xz,Pj]
   clear r
   grind
 ·rintro f I _ r ⟨J,D,rfl,hr⟩
  simp only[qB,seval,gd,rR,r,K,J,Int.lt_irrefl,hr,List.drop_length,Ee]
def C1(z:Zo)(a:T)(r:List T)(D:IsSl a z.sh.length r)(hc:aD U6 z.sh r):ae pE 126 [.agg [.s z.nm,qi z.o,a]] []=some (qi (ig z),[]):=by
 rw[au ai7 (by simp[RK])]
 have F:=cJ (wE z.nm)
 have H:=cJ (RC z.o)
 unfold ig
 by_cases hl:z.sh.length≤16
 ·have I:=aK2 z a r D hc hl
  simp only[qB,seval,RK,F,H,D.lenI,I,Sy,Pj]
  grind
 ·simp only[qB,seval,RK,F,H,D.lenI,Sy,Pj]
  grind
def aK3(z:Zo)(a:T)(V:List T)(F:IsSl a z.sh.length V)(hc:aD U6 z.sh V)(hlen:z.sh.length≤16)(fr:Fr)(lh:aE ah)(sh:List ah)
  (h1:aa fr 1= .ptr .L 1 1 0) (N:aa fr 3= qi 0) (r:ab lh 1=⟨1,.cells [.s z.nm,qi z.o,a] 0 true⟩):
  pN pE 59 rV fr lh sh 0 2 (Ee none z.sh) (fun J O=>O=sh):=by
 refine bW RT (fun k f J O=>aa f 3= qi (k:Int)∧ab J 1=⟨1,.cells [.s z.nm,qi z.o,a] 0 true⟩∧O=sh∧Ee none z.sh=Ee (rN z.sh k) (z.sh.drop k)) z.sh.length ⟨N,r,rfl,rfl⟩ ?_ ?_
 ·rintro k f J _ hk D ⟨K,r,rfl,hr⟩
  rw[ada hk]at hr
  have H:(k:Int)<z.sh.length:=zV
  have W:=aF (k:=k) zV
  obtain⟨rr,I⟩:=C0 F hc hk
  have X:=cJ (Qi z.sh[k].1)
  have Y:=cJ (RD z.sh[k].2)
  by_cases An:k=0
  ·have U: ¬(0:Int)<k:=zV
   have Z:rN z.sh k=none:=by rw[An];rfl
   simp only[qB,seval,gd,rV,D,h1,F.lenI,K,r,H,I,X,Y,U,W,XG,Pl]
   clear D
   grind
  ·have U:(0:Int)<k:=zV
   have CV:=jw (k:=k) zV zV
   obtain⟨r2,Hl⟩:=C0 F hc (k:=k-1) zV
   have Z:=Ge (l:=z.sh) (k:=k) zV zV
   simp only[qB,seval,gd,rV,D,h1,F.lenI,K,r,H,I,X,Y,U,W,CV,Hl,XG,Pl]
   clear D
   grind
 ·rintro f J _ D ⟨K,r,rfl,hr⟩
  simp only[qB,seval,gd,rV,D,h1,F.lenI,K,r,Int.lt_irrefl,hr,List.drop_length,Ee]
def C2(z:Zo)(a:T)(r:List T)(D:IsSl a z.sh.length r)(hc:aD U6 z.sh r):ae pE 161 [.agg [.s z.nm,qi z.o,a]] []=some (qi (ig z),[]):=by
 rw[au ajy (by simp[RU])]
 have F:=cJ (CD z.nm)
 have H:=cJ (RD z.o)
 unfold ig
 by_cases hl:z.sh.length≤16
 ·have I:=aK3 z a r D hc hl
  simp only[qB,seval,RU,F,H,D.lenI,I,WU,Pl]
  grind
 ·simp only[qB,seval,RU,F,H,D.lenI,WU,Pl]
  grind
def IV(c:Nat):Prop:=(65:Int)≤c∧(c:Int)≤90
instance (c:Nat):Decidable (IV c):=by unfold IV;infer_instance
def It(c:Nat):Bool:=decide (IV c∨G9 c)
def FR(s:List Nat):Bool:=decide (1≤s.length)&&(decide (s.length≤8)&&s.all It)
def Eb(s:List Nat):Bool:=decide (s.length=3)&&s.all fun c=>decide (IV c)
structure Ap where
 cd:List Nat
 zn:List Nat
structure Fl where
 nu:List Nat
 fr:List Nat
 to:List Nat
 dp:Int
 ar:Int
 ty:List Nat
 n0:Int
 n1:Int
 n2:Int
structure Tt where
 zo:List Zo
 ap:List Ap
 fl:List Fl
def DG(z:Zo)(c:List T):Prop:= ∃a r,c= [.s z.nm,qi z.o,a]∧IsSl a z.sh.length r∧aD U6 z.sh r
def NI(u:Ap)(c:List T):Prop:=c= [.s u.cd,.s u.zn]
def uv(f:Fl):List T:= [.s f.nu,.s f.fr,.s f.to,qi f.dp,qi f.ar,.s f.ty,qi f.n0,qi f.n1,qi f.n2]
def U4(f:Fl)(c:List T):Prop:=c=uv f
theorem DG.len(z:Zo)(c:List T)(h:DG z c):c.length=3:=by obtain⟨a,r,rfl,_⟩:=h;rfl
theorem NI.len(u:Ap)(c:List T)(h:NI u c):c.length=2:=by rw[h];rfl
theorem U4.len(f:Fl)(c:List T)(h:U4 f c):c.length=9:=by rw[h];rfl
def KG{xs:List Zo}{a:T}{H:List T}(h1:IsSl a xs.length H)(h2:aD DG xs H)(i:Nat)(hi:i<xs.length): ∃D F r,(∀kk,iaV a (.i kk (i:Int)) 3=some (.vp (.s xs[i].nm:: qi xs[i].o::D::r)))∧IsSl D xs[i].sh.length F∧aD U6 xs[i].sh F:=by
 obtain⟨c,r,e,h⟩:=gI (k:=3) DG.len h1 h2 i hi
 obtain⟨D,F,rfl,I,J⟩:=h
 exact⟨D,F,r,e,I,J⟩
def KH{xs:List Ap}{a:T}{D:List T}(h1:IsSl a xs.length D)(h2:aD NI xs D)(i:Nat)(hi:i<xs.length): ∃r,∀kk,iaV a (.i kk (i:Int)) 2=some (.vp (.s xs[i].cd:: .s xs[i].zn::r)):=by
 obtain⟨c,r,e,h⟩:=gI (k:=2) NI.len h1 h2 i hi
 rw[NI]at h
 subst h
 exact⟨r,e⟩
def nq{xs:List Fl}{a:T}{D:List T}(h1:IsSl a xs.length D)(h2:aD U4 xs D)(i:Nat)(hi:i<xs.length): ∃r,∀kk,iaV a (.i kk (i:Int)) 9=some (.vp (.s xs[i].nu:: .s xs[i].fr:: .s xs[i].to:: qi xs[i].dp:: qi xs[i].ar:: .s xs[i].ty:: qi xs[i].n0:: qi xs[i].n1:: qi xs[i].n2::r)):=by
 obtain⟨c,r,e,h⟩:=gI (k:=9) U4.len h1 h2 i hi
 rw[U4]at h
 subst h
 exact⟨r,e⟩
def ID(seen:List (List Nat)):List Zo→Int
 | []=>0
 |z::r=>if ig z≠0 then ig z else if z.nm∈seen then 7 else ID (seen++ [z.nm]) r
def IE(D seen:List (List Nat)):List Ap→Int
 | []=>0
 |a::r=>if Eb a.cd=false then 1 else if a.cd∈seen then 7 else if a.zn∉D then 6 else IE D (seen++ [a.cd]) r
def qq(n:Int):Bool:=decide (0≤n)&&decide (n≤8)
def KU(f:Fl):Bool:=decide (2880≤f.dp)&&(decide (f.ar≤52593120)&&(decide (f.dp<f.ar)&&decide (f.ar-f.dp≤1440)))
def Ec(r:List (List Nat))(f:Fl):Int:=
 if FR f.nu=false then 1 else if jG f.ty=false then 1 else if f.fr∉r then 6 else if f.to∉r then 6 else if f.fr=f.to then 14 else if KU f=false then 5 else if(qq f.n0&&(qq f.n1&&qq f.n2))=false then 5 else 0
def HL(f g:Fl):Bool:=if f.dp≠g.dp then decide (f.dp<g.dp)else lessN f.nu g.nu
def DK(F:List (List Nat))(D:Option Fl):List Fl→Int
 | []=>0
 |f::r=>if Ec F f≠0 then Ec F f else if(match D with|some p=> !HL p f|none=>false)=true then 8 else DK F (some f) r
def Tt.big(t:Tt):Prop:=16<t.zo.length∨64<t.ap.length∨200<t.fl.length
def np(t:Tt):Int:=
 if 16<t.zo.length then 10 else if 64<t.ap.length then 10 else if 200<t.fl.length then 10 else if ID [] t.zo≠0 then ID [] t.zo else if IE (t.zo.map Zo.nm) [] t.ap≠0 then IE (t.zo.map Zo.nm) [] t.ap else DK (t.ap.map Ap.cd) none t.fl
def Vk(seen:List (List Nat)):List T:=(seen.map fun x=>(x,true)).map fun p=>sK p.1
def Vl(seen:List (List Nat)):List T:=(seen.map fun x=>(x,true)).map fun p=>T.b p.2
def Mi(seen:List (List Nat))(s:List Nat):iN (.one .str) (Vk seen) (Vl seen) (.s s) (.b false) false=some (.b (decide (s∈seen))):=Iq seen s
def adb(seen:List (List Nat))(s:List Nat)(h:s∉seen):l8 (.one .str) (.s s) (.b true) (Vk seen) (Vl seen)=some (Vk (seen++ [s]),Vl (seen++ [s])):=DB seen s h
def xt{α β:Type}(f:α→β){l:List α}{k:Nat}(hk:k<l.length):(l.take (k+1)).map f=(l.take k).map f++ [f l[k]]:=by rw[List.take_succ_eq_append_getElem hk,List.map_append];rfl
def aDD(s:List Nat)(hs:s.length≤8)(fr:Fr)(lh:aE ah)(sh:List ah)(h0:aa fr 0= .s s)(J:aa fr 14= qi (s.length:Int))(K:aa fr 15= qi 0):
  LpC pE 37 ve fr lh sh 0 2 (s.all It=true) (.b false) (fun D F=>F=sh):=by
 refine mn Sb (by simp[aU]) (fun k f D F=>aa f 15= qi (k:Int)∧F=sh∧s.all It=(s.drop k).all It) s.length ⟨K,rfl,rfl⟩ ?_ ?_
 ·rintro k f D _ hk r ⟨H,rfl,hr⟩
  have I:(k:Int)<s.length:=zV
  have N:=aF (k:=k) zV
  have TH:=zQ hk
  rw[List.drop_eq_getElem_cons hk,List.all_cons]at hr
  simp only[qB,seval,gd,ve,r,h0,J,H,I,TH,N]
  clear r TH
  unfold It IV G9 at*
  grind
 ·rintro f D _ r ⟨H,rfl,hr⟩
  rw[List.drop_length,List.all_nil]at hr
  simp only[qB,seval,gd,ve,r,J,H,Int.lt_irrefl,hr]
def ade(s:List Nat):ae pE 210 [.s s] []=some (.b (FR s),[]):=by
 rw[au aj2 (by simp[Sc])]
 unfold FR
 by_cases h:s.length≤8
 ·have r:=aDD s h
  simp only[qB,seval,Sc,r]
  clear r
  grind
 ·simp only[qB,seval,Sc]
  grind
def xu(c:Nat):ae pE 236 [.i .u8 c] []=some (.b (decide (IV c)),[]):=by
 rw[au akn (by simp[Sj])]
 by_cases h1:(65:Int)≤c
 ·by_cases h2:(c:Int)≤90 <;> simp only[qA,seval,Sj,h1,h2,IV]
 ·simp only[qA,seval,Sj,h1,IV]
def aDE(s:List Nat)(hs:s.length≤gJ)(fr:Fr)(lh:aE ah)(sh:List ah)(h0:aa fr 0= .s s)(h3:aa fr 3= qi 0):
  LpC pE 30 vf fr lh sh 0 2 (s.all It=true) (.b false) (fun D F=>F=sh):=by
 refine mn EM (by simp[aU]) (fun k f D F=>aa f 3= qi (k:Int)∧F=sh∧s.all It=(s.drop k).all It) s.length ⟨h3,rfl,rfl⟩ ?_ ?_
 ·rintro k f D _ hk r ⟨H,rfl,hr⟩
  have I:(k:Int)<s.length:=zV
  have N:=acG (k:=k) zV
  have TH:=zQ hk
  have J:=cJ (xu s[k])
  have K:=cJ (Fk s[k])
  rw[List.drop_eq_getElem_cons hk,List.all_cons]at hr
  simp only[qB,seval,gd,vf,r,h0,H,I,TH,N,J,K,ako,ajF]
  clear r TH J K
  unfold It at*
  grind
 ·rintro f D _ r ⟨H,rfl,hr⟩
  rw[List.drop_length,List.all_nil]at hr
  simp only[qB,seval,gd,vf,r,h0,H,Int.lt_irrefl,hr]
def adf(s:List Nat)(hs:s.length≤gJ):ae pE 237 [.s s] []=some (.b (FR s),[]):=by
 rw[au akp (by simp[Ww])]
 unfold FR
 have r:=aDE s hs
 simp only[qB,seval,Ww,EM,r]
 clear r
 grind
def aDF(s:List Nat)(hs:s.length=3)(fr:Fr)(lh:aE ah)(sh:List ah)(h0:aa fr 0= .s s)(J:aa fr 8= qi (s.length:Int))(K:aa fr 9= qi 0):
  LpC pE 23 uP fr lh sh 0 2 ((s.all fun c=>decide (IV c))=true) (.b false) (fun D F=>F=sh):=by
 refine mn RM (by simp[aU]) (fun k f D F=>aa f 9= qi (k:Int)∧F=sh∧(s.all fun c=>decide (IV c))=(s.drop k).all fun c=>decide (IV c)) s.length ⟨K,rfl,rfl⟩ ?_ ?_
 ·rintro k f D _ hk r ⟨H,rfl,hr⟩
  have I:(k:Int)<s.length:=zV
  have N:=aF (k:=k) zV
  have TH:=zQ hk
  rw[List.drop_eq_getElem_cons hk,List.all_cons]at hr
  simp only[qB,seval,gd,uP,r,h0,J,H,I,TH,N]
  clear r TH
  unfold IV at*
  grind
 ·rintro f D _ r ⟨H,rfl,hr⟩
  rw[List.drop_length,List.all_nil]at hr
  simp only[qB,seval,gd,uP,r,J,H,Int.lt_irrefl,hr]
def aiA(s:List Nat):ae pE 127 [.s s] []=some (.b (Eb s),[]):=by
 rw[au ai8 (by simp[RN])]
 unfold Eb
 by_cases h1:s.length=3
 ·have r:=aDF s h1
  rw[h1]at r
  simp only[qB,seval,RN,h1,r]
  clear r
  grind
 ·have D: ¬(s.length:Int)=3:=zV
  simp only[qA,seval,RN,h1,D]
def aiB(s:List Nat):ae pE 163 [.s s] []=some (.b (Eb s),[]):=by
 rw[au ajA (by simp[RW])]
 by_cases h1:s.length=3
 ·obtain⟨a,b,c,rfl⟩: ∃a b c,s= [a,b,c]:=by
   match s,h1 with
   | [a,b,c],_=>exact⟨a,b,c,rfl⟩
  have r:=xu a
  have D:=xu b
  have F:=xu c
  have H: ∀kk,D4 (.s [a,b,c]) (.i kk 0)=some (.i .u8 (a:Int)):=fun kk=>zQ (s:= [a,b,c]) (k:=0) yv kk
  have I: ∀kk,D4 (.s [a,b,c]) (.i kk 1)=some (.i .u8 (b:Int)):=fun kk=>zQ (s:= [a,b,c]) (k:=1) yv kk
  have J: ∀kk,D4 (.s [a,b,c]) (.i kk 2)=some (.i .u8 (c:Int)):=fun kk=>zQ (s:= [a,b,c]) (k:=2) yv kk
  have e:Eb [a,b,c]=(decide (IV a)&&(decide (IV b)&&decide (IV c))):=by simp[Eb]
  rw[e]
  cases h1:decide (IV a) <;> cases h2:decide (IV b) <;> cases h3:decide (IV c) <;> rw[h1]at r <;> rw[h2]at D <;> rw[h3]at F <;> simp only[qA,seval,RW,H,I,J,r,D,F,ako]
 ·have K: ¬(s.length:Int)=3:=zV
  have e:Eb s=false:=by simp[Eb,h1]
  rw[e]
  simp only[qA,seval,RW,K]
def aK4(r D F:Int)(fr:Fr)(lh:aE ah)(sh:List ah)(I:aa fr 62= .agg [qi r,qi D,qi F])(BU:aa fr 63= qi 0):
  pN pE 73 uQ fr lh sh 1 4 (if [r,D,F].all qq then 0 else 5) (fun J K=>K=sh):=by
 refine bW RO (fun k f J K=>aa f 63= qi (k:Int)∧K=sh∧ [r,D,F].all qq=([r,D,F].drop k).all qq) 3 ⟨BU,rfl,rfl⟩ ?_ ?_
 ·rintro k f J _ hk H ⟨N,rfl,hr⟩
  have hc:k=0∨k=1∨k=2:=zV
  unfold qq at*
  rcases hc with rfl|rfl|rfl <;> simp only[qB,seval,gd,aeY,uQ,H,I,N,Int.ofNat_zero,Int.ofNat_one] <;> clear H <;> simp at hr ⊢ <;> grind
 ·rintro f J _ H ⟨N,rfl,hr⟩
  simp only[qB,seval,gd,uQ,H,N,Int.lt_irrefl,hr]
def arw(r:List (List Nat))(f:Fl):ae pE 128 [.agg (uv f),.vm (Vk r) (Vl r)] []=some (qi (Ec r f),[]):=by
 have D:=cJ (ade f.nu)
 have F:=cJ (wE f.ty)
 have H:=Mi r f.fr
 have I:=Mi r f.to
 have J:=aK4 f.n0 f.n1 f.n2
 have O:= @aZ (f.ar-f.dp)
 rw[au aja (by simp[VH])]
 unfold Ec uv
 by_cases K:f.fr∈r <;> by_cases N:f.to∈r <;> simp only[qB,seval,VH,D,F,aza,Sy,H,I,K,N,J]
 all_goals clear J D F H I
 all_goals try unfold KU
 all_goals grind (splits:=30)
def aiC(f g:Fl):ae pE 129 [.agg (uv f),.agg (uv g)] []=some (.b (HL f g),[]):=by
 rw[au W2 (by simp[VI])]
 unfold HL uv
 by_cases h:f.dp=g.dp <;> simp only[qA,seval,VI,h]
def aK5(l:List Zo)(a:T)(X:List T)(ha:IsSl a l.length X)(hc:aD DG l X)(hlen:l.length≤100)(g:Nat)(O D:ah)(fr:Fr)(lh:aE ah)(sh:List ah)
  (h3:aa fr 3= .mp .L 29 g) (I:aa fr 31=a) (U:aa fr 32= qi (l.length:Int)) (C4:aa fr 33= qi 0) (F:ab lh 1=O) (Mj:ab lh 29=⟨g,.map [] [] false⟩) (Bc:ab lh 50=D):
  pN pE 106 xS fr lh sh 0 2 (ID [] l) (fun r V=>(ID [] l=0→ab r 29=⟨g,.map (Vk (l.map Zo.nm)) (Vl (l.map Zo.nm)) false⟩)∧ab r 1=O∧ab r 50=D∧V=sh):=by
 refine bW Ji (fun k f r V=>aa f 33= qi (k:Int)∧ab r 29=⟨g,.map (Vk ((l.take k).map Zo.nm)) (Vl ((l.take k).map Zo.nm)) false⟩∧ab r 1=O∧ab r 50=D∧V=sh∧ID [] l=ID ((l.take k).map Zo.nm) (l.drop k)) l.length ⟨C4,Mj,F,Bc,rfl,rfl⟩ ?_ ?_
 ·rintro k f r _ hk H ⟨N,Mj,F,Bc,rfl,hr⟩
  rw[List.drop_eq_getElem_cons hk,ID]at hr
  have J:(k:Int)<l.length:=zV
  have hw:=aF (k:=k) zV
  obtain⟨sT,sc,rr,K,W,Iw⟩:=KG ha hc k hk
  have Y:=C1 l[k] sT sc W Iw
  have Z:=Mi ((l.take k).map Zo.nm) l[k].nm
  have jo:=adb ((l.take k).map Zo.nm) l[k].nm
  have iK:=xt Zo.nm hk
  by_cases hs:l[k].nm∈(l.take k).map Zo.nm
  ·simp only[qB,seval,gd,xS,H,h3,I,U,N,Mj,F,Bc,J,K,W.froz1,Y,O7,bZ,Z,hs]
   clear H
   grind
  ·simp only[qB,seval,gd,xS,H,h3,I,U,N,Mj,F,Bc,J,K,hw,W.froz1,Y,O7,bZ,Z,hs,pJ,zP,jo hs,iK]
   clear H
   grind
 ·rintro f r _ H ⟨N,Mj,F,Bc,rfl,hr⟩
  rw[List.take_length]at Mj
  simp only[qB,seval,gd,xS,H,U,N,Mj,F,Bc,Int.lt_irrefl,hr,List.drop_length,ID]
  exact fun _=>trivial
def aK7(r:List (List Nat))(l:List Ap)(a:T)(W:List T)(ha:IsSl a l.length W)(hc:aD NI l W)(hlen:l.length≤100)(g N:Nat)(O:ah)(fr:Fr)(lh:aE ah)(sh:List ah)
  (h3:aa fr 3= .mp .L 29 N) (X:aa fr 7= .mp .L 50 g) (U1:aa fr 52=a) (Fx:aa fr 53= qi (l.length:Int)) (IA:aa fr 54= qi 0) (F:ab lh 1=O) (Mj:ab lh 29=⟨N,.map (Vk r) (Vl r) false⟩) (Bc:ab lh 50=⟨g,.map [] [] false⟩):
  pN pE 106 xR fr lh sh 2 2 (IE r [] l) (fun D U=>(IE r [] l=0→ab D 50=⟨g,.map (Vk (l.map Ap.cd)) (Vl (l.map Ap.cd)) false⟩)∧ab D 1=O∧U=sh):=by
 refine bW Jh (fun k f D U=>aa f 54= qi (k:Int)∧ab D 50=⟨g,.map (Vk ((l.take k).map Ap.cd)) (Vl ((l.take k).map Ap.cd)) false⟩∧ab D 1=O∧ab D 29=⟨N,.map (Vk r) (Vl r) false⟩∧U=sh∧IE r [] l=IE r ((l.take k).map Ap.cd) (l.drop k)) l.length ⟨IA,Bc,F,Mj,rfl,rfl⟩ ?_ ?_
 ·rintro k f D _ hk H ⟨K,Bc,F,Mj,rfl,hr⟩
  rw[List.drop_eq_getElem_cons hk,IE]at hr
  have I:(k:Int)<l.length:=zV
  have hw:=aF (k:=k) zV
  obtain⟨rr,J⟩:=KH ha hc k hk
  have Y:=cJ (aiA l[k].cd)
  have Z:=Mi ((l.take k).map Ap.cd) l[k].cd
  have jo:=adb ((l.take k).map Ap.cd) l[k].cd
  have V:=Mi r l[k].zn
  have iK:=xt Ap.cd hk
  by_cases hs:l[k].cd∈(l.take k).map Ap.cd
  ·simp only[qB,seval,gd,xR,H,X,U1,Fx,K,Bc,F,Mj,I,J,Y,ai9,bZ,Z,hs]
   clear H
   grind
  ·by_cases hz:l[k].zn∈r <;> simp only[qB,seval,gd,xR,H,h3,X,U1,Fx,K,Bc,F,Mj,I,J,hw,Y,ai9,bZ,Z,hs,V,hz,pJ,zP,jo hs,iK] <;> clear H <;> grind
 ·rintro f D _ H ⟨K,Bc,F,Mj,rfl,hr⟩
  rw[List.take_length]at Bc
  simp only[qB,seval,gd,xR,H,Fx,K,Bc,F,Int.lt_irrefl,hr,List.drop_length,IE]
  exact fun _=>trivial
def qu(l:List Fl)(k:Nat):Option Fl:=if k=0 then none else l[k-1]?
theorem Gf{l:List Fl}{k:Nat}(h0:0<k)(hk:k-1<l.length):qu l k=some l[k-1]:=by
 unfold qu;rw[if_neg zV,List.getElem?_eq_getElem hk]
theorem adg(r:List (List Nat)){l:List Fl}{k:Nat}(hk:k<l.length):DK r (qu l k) (l.drop k)=if Ec r l[k]≠0 then Ec r l[k]else if(match qu l k with|some p=> !HL p l[k]|none=>false)=true then 8 else DK r (qu l (k+1)) (l.drop (k+1)):=by
 have e:qu l (k+1)=some l[k]:=by unfold qu;rw[if_neg zV,Nat.add_sub_cancel,List.getElem?_eq_getElem hk]
 rw[List.drop_eq_getElem_cons hk,e]
 conv=>lhs;unfold DK
 try rfl
def aK8(r:List (List Nat))(Z aT:T)(l:List Fl)(a:T)(cc:List T)(ha:IsSl a l.length cc)(hc:aD U4 l cc)(hlen:l.length≤1000)(g:Nat)(fr:Fr)(lh:aE ah)(sh:List ah)
  (h1:aa fr 1= .ptr .L 1 1 0) (h7:aa fr 7= .mp .L 50 g) (H:aa fr 79=a) (D:aa fr 80= qi (l.length:Int)) (U:aa fr 81= qi 0) (I:ab lh 1=⟨1,.cells [Z,aT,a] 0 true⟩) (Bc:ab lh 50=⟨g,.map (Vk r) (Vl r) false⟩):
  pN pE 106 xQ fr lh sh 5 2 (DK r none l) (fun J V=>V=sh):=by
 refine bW Vp (fun k f J V=>aa f 81= qi (k:Int)∧ab J 1=⟨1,.cells [Z,aT,a] 0 true⟩∧(∃W,ab J 50=⟨g,.map (Vk r) (Vl r) W⟩)∧V=sh∧DK r none l=DK r (qu l k) (l.drop k)) l.length ⟨U,I,⟨_,Bc⟩,rfl,rfl⟩ ?_ ?_
 ·rintro k f J _ hk F ⟨O,I,⟨W,Bc⟩,rfl,hr⟩
  rw[adg r hk]at hr
  have K:(k:Int)<l.length:=zV
  have hw:=aF (k:=k) zV
  obtain⟨rr,N⟩:=nq ha hc k hk
  have X:=arw r l[k]
  unfold uv at X
  by_cases An:k=0
  ·have Y: ¬(0:Int)<k:=zV
   have hp:qu l k=none:=by rw[An];rfl
   simp only[qB,seval,gd,bg,xQ,F,h7,H,D,O,I,Bc,K,N,hw,X,ajb,Y]
   clear F
   grind
  ·have Y:(0:Int)<k:=zV
   have CV:=jw (k:=k) zV zV
   obtain⟨r2,Hl⟩:=nq ha hc (k-1) zV
   have hb:=cJ (aiC l[k-1] l[k])
   have hp:=Gf (l:=l) (k:=k) zV zV
   unfold uv at hb
   simp only[qB,seval,gd,bg,aH,xQ,F,h1,h7,H,D,O,I,Bc,K,N,hw,X,ajb,Y,CV,Hl,hb,ayx,ayy]
   clear F
   grind
 ·rintro f J _ F ⟨O,I,⟨W,Bc⟩,rfl,hr⟩
  simp only[qB,seval,gd,xQ,F,D,O,Int.lt_irrefl,hr,List.drop_length,DK]
structure jV (t:Tt) (zT aT fT:T):Prop where
 z: ∃c,IsSl zT t.zo.length c∧aD DG t.zo c
 a: ∃c,IsSl aT t.ap.length c∧aD NI t.ap c
 f: ∃c,IsSl fT t.fl.length c∧aD U4 t.fl c
def apa(t:Tt)(r D F:T)(hT:jV t r D F):ae pE 70 [.agg [r,D,F]] []=some (qi (np t),[]):=by
 obtain⟨⟨V,H,W⟩,⟨ac,a1,a2⟩,⟨X,I,Y⟩⟩:=hT
 rw[au axP (by simp[c70])]
 unfold np
 by_cases q:t.zo.length≤16∧t.ap.length≤64∧t.fl.length≤200
 ·have N:=fun fr lh sh h3 J Z C4 K Mj Bc=>lpO (aK5 t.zo r V H W zV 1 ⟨1,.cells [r,D,F] 0 true⟩ ⟨0,.none⟩ fr lh sh h3 J Z C4 K Mj Bc) yv
  have O:=fun fr lh sh h3 h7 U1 Fx IA K Mj Bc=>lpO (aK7 (t.zo.map Zo.nm) t.ap D ac a1 a2 zV 1 1 ⟨1,.cells [r,D,F] 0 true⟩ fr lh sh h3 h7 U1 Fx IA K Mj Bc) yv
  have U:=aK8 (t.ap.map Ap.cd) r D t.fl F X I Y zV 1
  simp(maxDischargeDepth:=6) only[qB,seval,c70,Jh,Ji,H.lenI,a1.lenI,I.lenI,N,O,U]
  clear N O U
  grind
 ·simp only[qB,seval,c70,H.lenI,a1.lenI,I.lenI]
  grind
theorem rD: ∀a:List Nat,lessN a a=false
 | []=>rfl
 |x::a=>by simp[lessN,rD a]
theorem Gg: ∀a b:List Nat,lessN a b=true→lessN b a=false
 | [],[],h=>by simp[lessN]at h
 | [],y::b,h=>rfl
 |x::a,[],h=>by simp[lessN]at h
 |x::a,y::b,h=>by
  simp[lessN]at h ⊢
  refine⟨by omega,fun e=> ?_⟩
  subst e
  rcases h with h|h
  ·omega
  ·exact Gg a b h.2
theorem wO: ∀a b:List Nat,lessN a b=false→lessN b a=false→a=b
 | [],[],_,_=>rfl
 | [],y::b,h,_=>by simp[lessN]at h
 |x::a,[],_,h=>by simp[lessN]at h
 |x::a,y::b,h1,h2=>by
  simp[lessN]at h1 h2
  have:x=y:=zV
  subst this
  rw[wO a b (by simpa using h1) (by simpa using h2)]
theorem aiD(a b:List Nat):(lessN a b||a==b)= !lessN b a:=by
 cases h:lessN b a with
 |true=>
  rw[Gg _ _ h]
  have:a≠b:=fun e=>by subst e;rw[rD]at h;cases h
  simp[this]
 |false=>
  cases h2:lessN a b with
  |true=>rfl
  |false=>rw[wO _ _ h2 h];simp
theorem KV{s t:List Nat}:Ev.bin .leq (.s s) (.s t)=some (.b (!lessN t s)):=by
 rw[←aiD];rfl
def ixA(s:List Nat):List (List Nat)→Nat→Int
 | [],_=> -1
 |x::r,k=>if x=s then(k:Int)else ixA s r (k+1)
theorem AO(s:List Nat): ∀(l:List (List Nat)) (k:Nat),ixA s l k<0↔s∉l
 | [],k=>by simp[ixA]
 |x::r,k=>by
  rw[ixA]
  by_cases h:x=s
  ·rw[if_pos h];subst h;simp
  ·rw[if_neg h,AO s r (k+1)]
   simp[Ne.symm h]
theorem C5(s:List Nat): ∀(ns:List (List Nat)) (k:Nat),ixA s ns k<0→ixA s ns k= -1
 | [],_,_=>rfl
 |x::ns,k,h=>by
  rw[ixA]at h ⊢
  by_cases e:x=s
  ·rw[if_pos e]at h;omega
  ·rw[if_neg e]at h ⊢; exact C5 s ns _ h
def zi1(s:List Nat)(l:List Zo)(a:T)(N:List T)(D:IsSl a l.length N)(hc:aD DG l N)(hlen:l.length≤1000)(fr:Fr)(lh:aE ah)(sh:List ah)(h0:aa fr 0=a)(h1:aa fr 1= .s s)(h5:aa fr 5= qi 0):
  LpC pE 20 uU fr lh sh 0 4 (ixA s (l.map Zo.nm) 0<0) (qi (ixA s (l.map Zo.nm) 0)) (fun F H=>H=sh):=by
 refine mn RV (by simp[aU]) (fun k f F H=>aa f 5= qi (k:Int)∧H=sh∧ixA s (l.map Zo.nm) 0=ixA s ((l.drop k).map Zo.nm) k) l.length ⟨h5,rfl,rfl⟩ ?_ ?_
 ·rintro k f F _ hk r ⟨I,rfl,hr⟩
  have J:(k:Int)<l.length:=zV
  have O:=aF (k:=k) zV
  obtain⟨U,V,W,K,_⟩:=KG D hc k hk
  rw[List.drop_eq_getElem_cons hk,List.map_cons,ixA]at hr
  simp only[qB,seval,gd,uU,r,h0,h1,I,D.lenI,J,K,O]
  clear r
  grind
 ·rintro f F _ r ⟨I,rfl,hr⟩
  simp only[qB,seval,gd,uU,r,h0,I,D.lenI,Int.lt_irrefl,hr,List.drop_length,List.map_nil,ixA]
def alC(s:List Nat)(l:List Zo)(a:T)(r:List T)(F:IsSl a l.length r)(hc:aD DG l r)(hlen:l.length≤1000):ae pE 162 [a,.s s] []=some (qi (ixA s (l.map Zo.nm) 0),[]):=by
 have D:=zi1 s l a r F hc hlen
 have H:=C5 s (l.map Zo.nm) 0
 rw[au Xf (by simp[VV])]
 simp only[qB,seval,VV,D]
 clear D
 grind
def aml(s:List Nat)(l:List Zo)(a:T)(r:List T)(D:IsSl a l.length r)(hc:aD DG l r)(hlen:l.length≤1000): ∃v:Int,ae pE 162 [a,.s s] []=some (qi v,[])∧(v<0↔s∉l.map Zo.nm):=⟨_,alC s l a r D hc hlen,AO s _ 0⟩
def ai1(s:List Nat)(l:List Ap)(a:T)(N:List T)(D:IsSl a l.length N)(hc:aD NI l N)(hlen:l.length≤1000)(fr:Fr)(lh:aE ah)(sh:List ah)(h0:aa fr 0=a)(h1:aa fr 1= .s s)(h5:aa fr 5= qi 0):
  LpC pE 20 uV fr lh sh 0 4 (ixA s (l.map Ap.cd) 0<0) (qi (ixA s (l.map Ap.cd) 0)) (fun F H=>H=sh):=by
 refine mn RX (by simp[aU]) (fun k f F H=>aa f 5= qi (k:Int)∧H=sh∧ixA s (l.map Ap.cd) 0=ixA s ((l.drop k).map Ap.cd) k) l.length ⟨h5,rfl,rfl⟩ ?_ ?_
 ·rintro k f F _ hk r ⟨I,rfl,hr⟩
  have J:(k:Int)<l.length:=zV
  have O:=aF (k:=k) zV
  obtain⟨U,K⟩:=KH D hc k hk
  rw[List.drop_eq_getElem_cons hk,List.map_cons,ixA]at hr
  simp only[qB,seval,gd,uV,r,h0,h1,I,D.lenI,J,K,O]
  clear r
  grind
 ·rintro f F _ r ⟨I,rfl,hr⟩
  simp only[qB,seval,gd,uV,r,h0,I,D.lenI,Int.lt_irrefl,hr,List.drop_length,List.map_nil,ixA]
def alB(s:List Nat)(l:List Ap)(a:T)(r:List T)(F:IsSl a l.length r)(hc:aD NI l r)(hlen:l.length≤1000):ae pE 164 [a,.s s] []=some (qi (ixA s (l.map Ap.cd) 0),[]):=by
 have D:=ai1 s l a r F hc hlen
 have H:=C5 s (l.map Ap.cd) 0
 rw[au Xh (by simp[VW])]
 simp only[qB,seval,VW,D]
 clear D
 grind
def adh(s:List Nat)(l:List Ap)(a:T)(r:List T)(D:IsSl a l.length r)(hc:aD NI l r)(hlen:l.length≤1000): ∃v:Int,ae pE 164 [a,.s s] []=some (qi v,[])∧(v<0↔s∉l.map Ap.cd):=⟨_,alB s l a r D hc hlen,AO s _ 0⟩
def aLa(f:Fl)(J c7:ah)(fr:Fr)(lh:aE ah)(sh:List ah)(h5:aa fr 5= .ptr .L 5 1 0)(h6:aa fr 6= qi 0)(K:ab lh 2=J)(F:ab lh 5=⟨1,.cells (uv f) 0 true⟩)(N:ab lh 7=c7):
  pN pE 108 uW fr lh sh 0 4 (if [f.n0,f.n1,f.n2].all qq then 0 else 5) (fun r H=>ab r 2=J∧ab r 5=⟨1,.cells (uv f) 0 true⟩∧ab r 7=c7∧H=sh):=by
 refine bW xZ (fun k g r H=>aa g 6= qi (k:Int)∧r=lh∧H=sh∧ [f.n0,f.n1,f.n2].all qq=([f.n0,f.n1,f.n2].drop k).all qq) 3 ⟨h6,rfl,rfl,rfl⟩ ?_ ?_
 ·rintro k g _ _ hk D ⟨I,rfl,rfl,hr⟩
  have hc:k=0∨k=1∨k=2:=zV
  unfold qq at*
  unfold uv at F ⊢
  rcases hc with rfl|rfl|rfl <;> simp only[qB,seval,gd,eY,uW,D,h5,I,K,F,N,Int.ofNat_zero,Int.ofNat_one] <;> clear D <;> simp at hr ⊢ <;> grind
 ·rintro g _ _ D ⟨I,rfl,rfl,hr⟩
  simp only[qB,seval,gd,uW,D,I,K,F,N,Int.lt_irrefl,hr]
def flS(D:List (List Nat))(r:Option Fl)(f:Fl):Int:=if Ec D f≠0 then Ec D f else if(match r with|some p=> !HL p f|none=>false)=true then 8 else 0
def OZ(t:Tt)(O r U:T)(hT:jV t O r U)(ha:t.ap.length≤100)(hf:t.fl.length≤1000)(Y: ∀f∈t.fl,f.nu.length≤gJ)(k:Nat)(hk:k<t.fl.length):
  ae pE 165 [.agg [O,r,U],qi (k:Int)] []=some (qi (flS (t.ap.map Ap.cd) (qu t.fl k) t.fl[k]),[]):=by
 obtain⟨⟨zc,z1,z2⟩,⟨ac,a1,a2⟩,⟨fc,W,X⟩⟩:=hT
 obtain⟨rr,D⟩:=nq W X k hk
 have I:=cJ (adf t.fl[k].nu (Y _ (List.getElem_mem hk)))
 have J:=cJ (CD t.fl[k].ty)
 obtain⟨v1,K,e1⟩:=adh t.fl[k].fr t.ap r ac a1 a2 zV
 obtain⟨v2,N,e2⟩:=adh t.fl[k].to t.ap r ac a1 a2 zV
 have F:=aLa t.fl[k] ⟨1,.cells [O,r,U] 0 true⟩ ⟨0,.none⟩
 have hw:= @aZ (t.fl[k].ar-t.fl[k].dp)
 rw[au ajB (by simp[RY])]
 unfold uv at F
 by_cases An:k=0
 ·have V: ¬(0:Int)<k:=zV
  have Z:qu t.fl k=none:=by rw[An];rfl
  rw[Z]
  simp only[qB,seval,RY,xZ,a1.froz,D,I,J,akq,WU,K,N,Pc,F,V]
  clear F I J K N
  unfold flS Ec KU
  grind (splits:=30)
 ·have V:(0:Int)<k:=zV
  have CV:=jw (k:=k) zV zV
  obtain⟨r2,Hl⟩:=nq W X (k-1) zV
  rw[Gf zV zV]
  have H:Ev.bin .leq (.s t.fl[k].nu) (.s t.fl[k-1].nu)=if lessN t.fl[k-1].nu t.fl[k].nu=true then some (.b false)else some (.b true):=by rw[KV];cases lessN t.fl[k-1].nu t.fl[k].nu <;> rfl
  simp only[qB,seval,RY,xZ,a1.froz,D,I,J,akq,WU,K,N,Pc,F,V,CV,Hl,H]
  clear F I J K N H
  unfold flS Ec KU HL
  grind (splits:=30)
theorem aD.take{α:Type}{R:α→List T→Prop}{k:Nat}(D: ∀x c,R x c→c.length=k): ∀{xs:List α} {cs:List T} (i:Nat),aD R xs cs→aD R (xs.take i) (cs.take (i*k))
 | [],cs,i,h=>by rw[aD]at h;subst h;simp[aD]
 |x::xs,cs,0,h=>by simp[aD]
 |x::xs,cs,i+1,h=>by
  rw[aD]at h
  obtain⟨c,r,rfl,h1,h2⟩:=h
  have e:(c++r).take ((i+1)*k)=c++r.take (i*k):=by
   rw[show(i+1)*k=c.length+i*k by rw[D _ _ h1,Nat.add_mul,Nat.one_mul,Nat.add_comm],List.take_append,List.take_of_length_le zV,Nat.add_sub_cancel_left]
  rw[e]
  exact⟨c,r.take (i*k),rfl,h1,aD.take D i h2⟩
def adi{n i:Nat}{a:T}{r:List T}(hi:i<n)(D:IsSl a n r): ∃ex,a= .sl r n ex:=by
 rcases D with⟨_,hz,_⟩|⟨ex,rfl⟩
 ·omega
 ·exact⟨ex,rfl⟩
def aLb(l:List Zo)(N O a:T)(I:List T)(J:IsSl a l.length I)(hc:aD DG l I)(hlen:l.length≤100)(fr:Fr)(lh:aE ah)(sh:List ah)
  (h1:aa fr 1= .ptr .L 1 1 0) (h3:aa fr 3= qi 0) (r:ab lh 1=⟨1,.cells [a,N,O] 0 true⟩):
  pN pE 96 Br fr lh sh 0 2 (ID [] l) (fun D U=>ab D 1=⟨1,.cells [a,N,O] 0 true⟩∧U=sh):=by
 refine bW Jv (fun k f D U=>aa f 3= qi (k:Int)∧ab D 1=⟨1,.cells [a,N,O] 0 true⟩∧U=sh∧ID [] l=ID ((l.take k).map Zo.nm) (l.drop k)) l.length ⟨h3,r,rfl,rfl⟩ ?_ ?_
 ·rintro k f D _ hk K ⟨V,r,rfl,hr⟩
  have W:(k:Int)<l.length:=zV
  have F:k≤l.length:=zV
  have Z:=aF (k:=k) zV
  obtain⟨sT,sc,rr,X,Y,Iw⟩:=KG J hc k hk
  have hz:=C2 l[k] sT sc Y Iw
  have hcl:=aD.len DG.len hc
  obtain⟨ex,rfl⟩:=adi hk J
  have H:(l.take k).length=k:=by rw[List.length_take,Nat.min_eq_left F]
  obtain⟨v,Gt,yh⟩:=aml l[k].nm (l.take k) (.sl (I.take (k*3)) k (ex&&decide (k=l.length))) (I.take (k*3)) (by rw[H];exact Or.inr ⟨_,rfl⟩) (aD.take DG.len k hc) (by rw[H];omega)
  rw[List.drop_eq_getElem_cons hk,ID]at hr
  have iK:=xt Zo.nm hk
  simp only[qB,seval,gd,pG,bg,aH,Br,K,h1,V,r,J.lenI,W,F,hcl,Nat.sub_zero,X,Z,Y.froz1,hz,Xe,Gt,Xg,ajz]
  clear K
  grind
 ·rintro f D _ K ⟨V,r,rfl,hr⟩
  simp only[qB,seval,gd,Br,K,h1,V,r,J.lenI,Int.lt_irrefl,hr,List.drop_length,ID]
def aLc(r:List Zo)(D:T)(U:List T)(z1:IsSl D r.length U)(z2:aD DG r U)(hzl:r.length≤100)(l:List Ap)(V a:T)(K:List T)(N:IsSl a l.length K)(hc:aD NI l K)(hlen:l.length≤100)(fr:Fr)(lh:aE ah)(sh:List ah)
  (h1:aa fr 1= .ptr .L 1 1 0) (h5:aa fr 5= qi 0) (F:ab lh 1=⟨1,.cells [D,a,V] 0 true⟩):
  pN pE 96 Bq fr lh sh 2 2 (IE (r.map Zo.nm) [] l) (fun H W=>ab H 1=⟨1,.cells [D,a,V] 0 true⟩∧W=sh):=by
 refine bW Ju (fun k f H W=>aa f 5= qi (k:Int)∧ab H 1=⟨1,.cells [D,a,V] 0 true⟩∧W=sh∧IE (r.map Zo.nm) [] l=IE (r.map Zo.nm) ((l.take k).map Ap.cd) (l.drop k)) l.length ⟨h5,F,rfl,rfl⟩ ?_ ?_
 ·rintro k f H _ hk O ⟨X,F,rfl,hr⟩
  have Y:(k:Int)<l.length:=zV
  have I:k≤l.length:=zV
  have hw:=aF (k:=k) zV
  obtain⟨rr,Z⟩:=KH N hc k hk
  have hp:=cJ (aiB l[k].cd)
  have hcl:=aD.len NI.len hc
  obtain⟨ex,rfl⟩:=adi hk N
  have J:(l.take k).length=k:=by rw[List.length_take,Nat.min_eq_left I]
  obtain⟨v,Gt,yh⟩:=adh l[k].cd (l.take k) (.sl (K.take (k*2)) k (ex&&decide (k=l.length))) (K.take (k*2)) (by rw[J];exact Or.inr ⟨_,rfl⟩) (aD.take NI.len k hc) (by rw[J];omega)
  obtain⟨u,hu1,hu2⟩:=aml l[k].zn r D U z1 z2 zV
  rw[List.drop_eq_getElem_cons hk,IE]at hr
  have iK:=xt Ap.cd hk
  simp only[qB,seval,gd,pG,bg,aH,Bq,O,h1,X,F,N.lenI,Y,I,hcl,Nat.sub_zero,Z,hw,hp,ayP,Gt,Pc,ayQ,z1.froz,hu1,Xg]
  clear O
  grind
 ·rintro f H _ O ⟨X,F,rfl,hr⟩
  simp only[qB,seval,gd,Bq,O,h1,X,F,N.lenI,Int.lt_irrefl,hr,List.drop_length,IE]
def aLd(t:Tt)(D F H:T)(hT:jV t D F H)(X:t.ap.length≤100)(Y:t.fl.length≤1000)(Z: ∀f∈t.fl,f.nu.length≤gJ)(fr:Fr)(lh:aE ah)(sh:List ah)
  (h1:aa fr 1= .ptr .L 1 1 0) (h7:aa fr 7= qi 0) (r:ab lh 1=⟨1,.cells [D,F,H] 0 true⟩):
  pN pE 96 Bp fr lh sh 4 2 (DK (t.ap.map Ap.cd) none t.fl) (fun I K=>K=sh):=by
 have N:=hT
 obtain⟨⟨zc,z1,z2⟩,⟨ac,a1,a2⟩,⟨fc,O,f2⟩⟩:=N
 refine bW Vv (fun k f I K=>aa f 7= qi (k:Int)∧ab I 1=⟨1,.cells [D,F,H] 0 true⟩∧K=sh∧DK (t.ap.map Ap.cd) none t.fl=DK (t.ap.map Ap.cd) (qu t.fl k) (t.fl.drop k)) t.fl.length ⟨h7,r,rfl,rfl⟩ ?_ ?_
 ·rintro k f I _ hk J ⟨U,r,rfl,hr⟩
  have V:(k:Int)<t.fl.length:=zV
  have hw:=aF (k:=k) zV
  have W:=OZ t D F H hT X Y Z k hk
  rw[adg _ hk]at hr
  simp only[qB,seval,gd,Bp,J,h1,U,r,z1.froz1,a1.froz1,O.froz1,O.lenI,V,hw,W,ayR]
  clear J W
  unfold flS
  grind
 ·rintro f I _ J ⟨U,r,rfl,hr⟩
  simp only[qB,seval,gd,Bp,J,h1,U,r,O.lenI,Int.lt_irrefl,hr,List.drop_length,DK]
def apl(t:Tt)(r D F:T)(hT:jV t r D F)(W: ∀f∈t.fl,f.nu.length≤gJ):ae pE 92 [.agg [r,D,F]] []=some (qi (np t),[]):=by
 have I:=hT
 obtain⟨⟨J,H,K⟩,⟨ac,a1,a2⟩,⟨X,N,Y⟩⟩:=I
 rw[au aya (by simp[c92])]
 unfold np
 by_cases q:t.zo.length≤16∧t.ap.length≤64∧t.fl.length≤200
 ·have O:=aLb t.zo D F r J H K zV
  have U:=aLc t.zo r J H K zV t.ap F D ac a1 a2 zV
  have V:=aLd t r D F hT zV zV W
  simp(maxDischargeDepth:=6) only[qB,seval,c92,Ju,Jv,H.lenI,a1.lenI,N.lenI,O,U,V]
  clear O U V
  grind
 ·simp only[qB,seval,c92,H.lenI,a1.lenI,N.lenI]
  grind
end Go.Proofs.YtnkgnjecmfkcfaaGreat
