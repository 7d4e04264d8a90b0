/- Contracts as trees; what is wrong with a contract: plain definitions. The program's check of a contract's form: rules, windows. The program's check of a contract's form. Conditions: the theorems' own. -/
import Derived.Test.YtfenhjpkomldcaaGreatM13
import Derived.KernelRfl
set_option maxRecDepth 100000
set_option linter.unusedSimpArgs false
set_option linter.unusedVariables false
set_option maxHeartbeats 16000000
namespace Go.Proofs.YtfenhjpkomldcaaGreat
open Go Go.Ev
def aS{α:Type}(R:α→List T→Prop):List α→List T→Prop
 | [],cs=>cs= []
 |x::xs,cs=> ∃c r,cs=c++r∧R x c∧aS R xs r
section
variable{α:Type}{R:α→List T→Prop}{k:Nat}
theorem aS.len(hR: ∀x c,R x c→c.length=k): ∀{xs:List α} {cs:List T},aS R xs cs→cs.length=xs.length*k
 | [],cs,h=>by rw[aS]at h;rw[h];simp
 |x::xs,cs,h=>by
  rw[aS]at h
  obtain⟨c,r,rfl,h1,h2⟩:=h
  rw[List.length_append,hR _ _ h1,aS.len hR h2,List.length_cons,Nat.add_mul,Nat.one_mul,Nat.add_comm]
theorem aS.drop(hR: ∀x c,R x c→c.length=k): ∀{xs:List α} {cs:List T} (i:Nat) (hi:i<xs.length),aS R xs cs→ ∃c r,cs.drop (i*k)=c++r∧R xs[i] c
 | [],cs,i,hi,h=>by simp at hi
 |x::xs,cs,0,hi,h=>by
  rw[aS]at h
  obtain⟨c,r,rfl,h1,h2⟩:=h
  exact⟨c,r,by simp,h1⟩
 |x::xs,cs,i+1,hi,h=>by
  rw[aS]at h
  obtain⟨c,r,rfl,h1,h2⟩:=h
  obtain⟨c',r',e,h3⟩:=aS.drop hR i (by simpa using hi) h2
  refine⟨c',r', ?_,h3⟩
  have:(i+1)*k=c.length+i*k:=by rw[hR _ _ h1,Nat.add_mul,Nat.one_mul,Nat.add_comm]
  rw[this,List.drop_append,Nat.add_sub_cancel_left,List.drop_eq_nil_of_le (by omega),e];rfl
theorem tQ(hR: ∀x c,R x c→c.length=k){xs:List α}{a:T}{cc:List T}(h1:aR a xs.length cc)(h2:aS R xs cc)(i:Nat)(hi:i<xs.length): ∃c r,(∀kk,uW a (.i kk (i:Int)) k=some (.vp (c++r)))∧R xs[i] c:=by
 obtain⟨c,r,e,h3⟩:=aS.drop hR i hi h2
 exact⟨c,r,fun kk=>by rw[h1.ia (sz:=k) (aS.len hR h2) hi,e],h3⟩
theorem aS.append: ∀{xs ys:List α} {c r:List T},aS R xs c→aS R ys r→aS R (xs++ys) (c++r)
 | [],ys,c,r,h1,h2=>by rw[aS]at h1;subst h1;exact h2
 |x::xs,ys,c,r,h1,h2=>by
  rw[aS]at h1
  obtain⟨c1,r1,rfl,h3,h4⟩:=h1
  rw[List.append_assoc]
  exact⟨c1,r1++r,rfl,h3,aS.append h4 h2⟩
theorem aS.one{x:α}{c:List T}(h:R x c):aS R [x] c:=⟨c,[],by simp,h,rfl⟩
end
structure Ru where
 sc:Int
 nm:List Nat
 x:Ex
structure Co where
 sc:Int
 x:Ex
structure Li where
 nm:List Nat
 me:List Nat
 mo:Int
 da:Int
structure Of where
 nm:List Nat
 ct:Int
 da:Int
def za(u:Ru)(c:List T):Prop:= ∃a cc,c= [.i .i64 u.sc,.s u.nm,.i .i64 u.x.op,.i .i64 u.x.num,.s u.x.name,a]∧aR a u.x.args.length cc∧aK u.x.args cc
def BB(u:Co)(c:List T):Prop:= ∃a cc,c= [.i .i64 u.sc,.i .i64 u.x.op,.i .i64 u.x.num,.s u.x.name,a]∧aR a u.x.args.length cc∧aK u.x.args cc
def L1(u:Li)(c:List T):Prop:=c= [.s u.nm,.s u.me,.i .i64 u.mo,.i .i64 u.da]
def O3(u:Of)(c:List T):Prop:=c= [.s u.nm,.i .i64 u.ct,.i .i64 u.da]
theorem za.len(u:Ru)(c:List T)(h:za u c):c.length=6:=by obtain⟨a,cc,rfl,_⟩:=h;rfl
theorem BB.len(u:Co)(c:List T)(h:BB u c):c.length=5:=by obtain⟨a,cc,rfl,_⟩:=h;rfl
theorem L1.len(u:Li)(c:List T)(h:L1 u c):c.length=4:=by rw[h];rfl
theorem O3.len(u:Of)(c:List T)(h:O3 u c):c.length=3:=by rw[h];rfl
theorem pD{xs:List Ru}{a:T}{cc:List T}(h1:aR a xs.length cc)(h2:aS za xs cc)(i:Nat)(hi:i<xs.length):
  ∃b cb r,(∀kk,uW a (.i kk (i:Int)) 6=some (.vp (.i .i64 xs[i].sc:: .s xs[i].nm:: .i .i64 xs[i].x.op:: .i .i64 xs[i].x.num:: .s xs[i].x.name::b::r)))∧aR b xs[i].x.args.length cb∧bE xs[i].x [.i .i64 xs[i].x.op,.i .i64 xs[i].x.num,.s xs[i].x.name,b]:=by
 obtain⟨c,r,h3,b,cb,rfl,h4,h5⟩:=tQ za.len h1 h2 i hi
 exact⟨b,cb,r,h3,h4,bE.of h4 h5⟩
theorem ri{xs:List Co}{a:T}{cc:List T}(h1:aR a xs.length cc)(h2:aS BB xs cc)(i:Nat)(hi:i<xs.length):
  ∃b cb r,(∀kk,uW a (.i kk (i:Int)) 5=some (.vp (.i .i64 xs[i].sc:: .i .i64 xs[i].x.op:: .i .i64 xs[i].x.num:: .s xs[i].x.name::b::r)))∧aR b xs[i].x.args.length cb∧bE xs[i].x [.i .i64 xs[i].x.op,.i .i64 xs[i].x.num,.s xs[i].x.name,b]:=by
 obtain⟨c,r,h3,b,cb,rfl,h4,h5⟩:=tQ BB.len h1 h2 i hi
 exact⟨b,cb,r,h3,h4,bE.of h4 h5⟩
theorem xH{xs:List Li}{a:T}{cc:List T}(h1:aR a xs.length cc)(h2:aS L1 xs cc)(i:Nat)(hi:i<xs.length):
  ∃r,∀kk,uW a (.i kk (i:Int)) 4=some (.vp (.s xs[i].nm:: .s xs[i].me:: .i .i64 xs[i].mo:: .i .i64 xs[i].da::r)):=by
 obtain⟨c,r,h3,h4⟩:=tQ L1.len h1 h2 i hi
 rw[h4]at h3
 exact⟨r,h3⟩
theorem BC{xs:List Of}{a:T}{cc:List T}(h1:aR a xs.length cc)(h2:aS O3 xs cc)(i:Nat)(hi:i<xs.length):
  ∃r,∀kk,uW a (.i kk (i:Int)) 3=some (.vp (.s xs[i].nm:: .i .i64 xs[i].ct:: .i .i64 xs[i].da::r)):=by
 obtain⟨c,r,h3,h4⟩:=tQ O3.len h1 h2 i hi
 rw[h4]at h3
 exact⟨r,h3⟩
structure Ct where
 rp:Int
 rl:Int
 cn:Int
 st:Int
 ly:Int
 nf:Int
 nt:Int
 cs:Cs
 ru:List Ru
 co:List Co
 cr:List Ex
 li:List Li
 fs:List Of
 gu:Int
def gF(n lo hi:Int):Bool:=decide (lo≤n)&&decide (n≤hi)
def B5(seen:List (List Nat)):Cs→Int
 | []=>0
 |c::l=>if eF c.1=false then 1 else if c.1∈seen then 7 else if aW c.2≠0 then aW c.2 else B5 (seen++ [c.1]) l
def BD(seen:List (Int×List Nat)):List Ru→Int
 | []=>0
 |u::l=>if gF u.sc 1 3=false∨eF u.nm=false then 1 else if(u.sc,u.nm)∈seen then 7 else if aW u.x≠0 then aW u.x else BD (seen++ [(u.sc,u.nm)]) l
def G9:List Co→Int
 | []=>0
 |u::l=>if gF u.sc 1 3=false then 1 else if aW u.x≠0 then aW u.x else G9 l
def Ha:List Ex→Int
 | []=>0
 |x::l=>if aW x≠0 then aW x else Ha l
def BE(s:List Nat):Int:=if s= [98,108,111,99,107]∨s= [115,112,97,110]∨s= [110,105,103,104,116]∨s= [99,114,101,100,105,116]then 3 else if s= [108,101,103,115]∨s= [104,101,97,100,115]∨s= [100,117,116,105,101,115]then 2 else 0
def Hb(seen:List (List Nat)):List Li→Int
 | []=>0
 |u::l=>if eF u.nm=false then 1 else if u.nm∈seen then 7 else if BE u.me=0 then 6 else if gF u.mo 0 599999=false∨gF u.da 1 31=false then 5 else Hb (seen++ [u.nm]) l
def Hz(seen:List (List Nat)):List Of→Int
 | []=>0
 |u::l=>if eF u.nm=false then 1 else if u.nm∈seen then 7 else if gF u.da 1 31=false∨gF u.ct 1 u.da=false then 5 else Hz (seen++ [u.nm]) l
def K6(c:Ct):Int:=if Hb [] c.li≠0 then Hb [] c.li else Hz (c.li.map Li.nm) c.fs
def oq(c:Ct):Bool:=gF c.rp 0 1440&&(gF c.rl 0 1440&&(gF c.cn 0 1440&&(gF c.st c.cn 1440&&(gF c.ly 0 10080&&(gF c.nf 0 1439&&(gF c.nt 0 1439&&gF c.gu 0 599999))))))
def nB(c:Ct):Bool:=decide (c.cs.length≤32)&&(decide (c.ru.length≤40)&&(decide (c.co.length≤16)&&(decide (c.cr.length≤1)&&(decide (c.li.length≤16)&&decide (c.fs.length≤16)))))
def iC(c:Ct):Int:=if oq c=false then 5 else if nB c=false then 10 else if B5 [] c.cs≠0 then B5 [] c.cs else if BD [] c.ru≠0 then BD [] c.ru else if G9 c.co≠0 then G9 c.co else if Ha c.cr≠0 then Ha c.cr else K6 c
theorem dj(n lo hi:Int):ai pE 169 [.i .i64 n,.i .i64 lo,.i .i64 hi] []=some (.b (gF n lo hi),[]):=by
 rw[aG Qt (by simp[H7])]
 unfold gF
 by_cases h:lo≤n <;> simp(maxDischargeDepth:=6) only[qF,ae,ah,aa,aj,ab,an,Nat.reduceAdd,reduceCtorEq,Nat.reduceLT,Nat.reduceEqDiff,H7,h]
theorem xI(n:Int):ai pE 172 [.i .i64 n] []=some (.b (gF n 1 3),[]):=by
 rw[aG Qw (by simp[H8])]
 simp(maxDischargeDepth:=6) only[qF,ae,ah,aa,aj,ab,reduceCtorEq,Nat.reduceLT,H8,dj,cP]
theorem mB{α:Type}[DecidableEq α](s:α): ∀l:List α,bU (l.map fun x=>(x,true)) s=if s∈l then some true else none
 | []=>by simp[bU]
 |a::l=>by
  rw[List.map_cons,bU,mB s l]
  by_cases h:s=a
  ·simp[h]
  ·simp[h]
theorem E3(seen:List (List Nat))(s:List Nat):lN (.one .str) ((seen.map fun x=>(x,true)).map fun p=>sK p.1) ((seen.map fun x=>(x,true)).map fun p=>T.b p.2) (.s s) (.b false) false=some (.b (decide (s∈seen))):=by
 have:=Ro (kT:=sK) (vT:=T.b) G3 (fun _=>rfl) (seen.map fun x=>(x,true)) s (.b false)
 rw[show(T.s s)=sK s from rfl,this,mB]
 by_cases h:s∈seen <;> simp[h]
theorem BF(seen:List (List Nat))(s:List Nat)(h:s∉seen):mO (.one .str) (.s s) (.b true) ((seen.map fun x=>(x,true)).map fun p=>sK p.1) ((seen.map fun x=>(x,true)).map fun p=>T.b p.2)=some (((seen++ [s]).map fun x=>(x,true)).map (fun p=>sK p.1),((seen++ [s]).map fun x=>(x,true)).map (fun p=>T.b p.2)):=by
 have:=A8 (kT:=sK) (vT:=T.b) G3 (seen.map fun x=>(x,true)) s true (by rw[mB,if_neg h])
 rw[show(T.s s)=sK s from rfl,show T.b true=T.b (true)from rfl,this]
 simp only[List.map_append,List.map_cons,List.map_nil]
theorem adw(l:Cs)(a:T)(cc:List T)(ha:aR a l.length cc)(hc:dK l cc)(hlen:l.length≤eG)(gb:E0 l)(r:Int)(hr:r=B5 [] l)(o:Out)(ho:o=if r=0 then .ext 0 else .ret)(g:Nat)(fr:Fr)(lh:aQ aB)(sh:List aB)
  (h3:ak fr 3= .mp .L 7 g) (h8:ak fr 8=a) (h9:ak fr 9= .i .i64 (l.length:Int)) (jV:ak fr 10= .i .i64 0) (o7:aq lh 7=⟨g,.map [] [] false⟩):
  DC pE 32 (.loop gB) ⟨fr,lh,sh⟩=some (o,⟨cz pE 32 gB fr lh sh,bK pE 32 gB fr lh sh,cw pE 32 gB fr lh sh⟩)∧
  ((r≠0→ak (cz pE 32 gB fr lh sh) 2= .i .i64 r)∧cw pE 32 gB fr lh sh=sh):=by
 refine aD (P:=fun cO bp br=>(r≠0→ak cO 2= .i .i64 r)∧br=sh)
  (aI (fun k st=> ∃(fr:Fr) (aX:aQ aB),st=⟨fr,aX,sh⟩∧ak fr 3= .mp .L 7 g∧ak fr 8=a∧ak fr 9= .i .i64 (l.length:Int)∧ak fr 10= .i .i64 (k:Int)∧
    aq aX 7=⟨g,.map ((((l.take k).map Prod.fst).map fun x=>(x,true)).map fun p=>sK p.1) ((((l.take k).map Prod.fst).map fun x=>(x,true)).map fun p=>T.b p.2) false⟩∧r=B5 ((l.take k).map Prod.fst) (l.drop k)) _ l.length ?_ ?_ 0 _ (Nat.zero_le _) ⟨fr,lh,rfl,h3,h8,h9,jV,o7,by rw[hr];rfl⟩)
 ·rintro k _ hk ⟨fr,aX,rfl,h3,h8,h9,jV,o7,hr⟩
  have bt:(k:Int)<l.length:=by omega
  have hw:=aJ (k:=k) (by omega)
  obtain⟨b,cb,rr,bh,cH,nA,hb⟩:=dL ha hc k hk
  obtain⟨xF,sd⟩:=gb l[k] (List.getElem_mem hk)
  have gL:=mn l[k].1
  have mA:=fun z fr lh sh=>kh (z:=z) (fr:=fr) (lh:=lh) (sh:=sh) l[k].2 _ hb xF sd
  have iE:=E3 ((l.take k).map Prod.fst) l[k].1
  have jY:=BF ((l.take k).map Prod.fst) l[k].1
  rw[List.drop_eq_getElem_cons hk,B5]at hr
  have rv:(l.take (k+1)).map Prod.fst=(l.take k).map Prod.fst++ [l[k].1]:=by rw[List.take_succ_eq_append_getElem hk,List.map_append];rfl
  rw[rv]
  generalize (l.take k).map Prod.fst=seen at*
  cases hd:eF l[k].1 with
  |false=>
   right
   rw[if_pos hd]at hr
   rw[hd]at gL
   simp(maxDischargeDepth:=6) only[qF,ae,ah,aa,aj,ab,an,splice,Nat.reduceAdd,Nat.reduceLT,Nat.reduceLeDiff,Nat.reduceEqDiff,gB,h8,h9,jV,bt,bh,gL,gN]
   refine⟨_,_,(by simp:Out.ret≠ .nrm),rfl,by rw[ho,hr];rfl,fun _=> ?_,rfl⟩
   simp(maxDischargeDepth:=6) only[aa,hr]
  |true=>
   rw[if_neg (by simp[hd])]at hr
   rw[hd]at gL
   by_cases hs:l[k].1∈seen
   ·right
    rw[if_pos hs]at hr
    rw[decide_eq_true hs]at iE
    simp(maxDischargeDepth:=6) only[qF,ae,ah,aa,aj,ab,an,pX,splice,Nat.reduceAdd,Nat.reduceLT,Nat.reduceLeDiff,Nat.reduceEqDiff,gB,h3,h8,h9,jV,o7,bt,bh,gL,gN,dU,iE]
    refine⟨_,_,(by simp:Out.ret≠ .nrm),rfl,by rw[ho,hr];rfl,fun _=> ?_,rfl⟩
    simp(maxDischargeDepth:=6) only[aa,hr]
   ·rw[if_neg hs]at hr
    rw[decide_eq_false hs]at iE
    have jY:=jY hs
    by_cases hv:aW l[k].2=0
    ·left
     rw[if_neg (by simp[hv])]at hr
     rw[hv]at mA
     simp(maxDischargeDepth:=6) only[qF,ae,ah,aa,aj,ab,an,pX,M8,splice,Nat.reduceAdd,Nat.reduceLT,Nat.reduceLeDiff,Nat.reduceEqDiff,gB,h3,h8,h9,jV,o7,bt,bh,hw,gL,gN,dU,iE,qP,EG,jY,mA]
     refine⟨_,rfl,_,_,rfl, ?_, ?_, ?_, ?_, ?_,hr⟩
     all_goals (simp(maxDischargeDepth:=6) only[aa,ab,Nat.reduceEqDiff,h3,h8,h9])
    ·right
     rw[if_pos hv]at hr
     generalize aW l[k].2=e at*
     simp(maxDischargeDepth:=6) only[qF,ae,ah,aa,aj,ab,an,pX,M8,splice,Nat.reduceAdd,Nat.reduceLT,Nat.reduceLeDiff,Nat.reduceEqDiff,gB,h3,h8,h9,jV,o7,bt,bh,gL,gN,dU,iE,qP,EG,jY,mA,hv]
     refine⟨_,_,(by simp:Out.ret≠ .nrm),rfl,by rw[ho,hr,if_neg hv],fun _=> ?_,rfl⟩
     simp(maxDischargeDepth:=6) only[aa,hr]
 ·rintro _ ⟨fr,aX,rfl,h3,h8,h9,jV,o7,hr⟩
  rw[List.drop_length,B5]at hr
  simp(maxDischargeDepth:=6) only[ae,ah,aa,ab,an,Nat.reduceLT,gB,h9,jV,Int.lt_irrefl]
  exact⟨_,_,(by simp:Out.ext 0≠ .nrm),rfl,by rw[ho,hr];rfl,fun h=>absurd hr h,rfl⟩
theorem Ue(l:Cs)(a:T)(cc:List T)(ha:aR a l.length cc)(hc:dK l cc)(hlen:l.length≤eG)(gb:E0 l):ai pE 170 [a] []=some (.i .i64 (B5 [] l),[]):=by
 have hL:=fun fr lh sh h3 h8 h9 jV o7=>adw l a cc ha hc hlen gb _ rfl _ rfl 1 fr lh sh h3 h8 h9 jV o7
 rw[aG Qu (by simp[Fw])]
 by_cases h0:B5 [] l=0
 ·rw[h0]at hL
  simp only[if_true,ne_eq,not_true_eq_false,false_implies,true_and]at hL
  simp(maxDischargeDepth:=6) only[qF,ae,ah,aa,aj,ab,reduceCtorEq,Nat.reduceLT,Nat.reduceEqDiff,Fw,ha.lenI,hL,h0]
 ·simp only[h0,if_false,ne_eq,not_false_eq_true,forall_const]at hL
  simp(maxDischargeDepth:=6) only[qF,ae,ah,aa,aj,ab,reduceCtorEq,Nat.reduceLT,Nat.reduceEqDiff,Fw,ha.lenI,hL]
end Go.Proofs.YtfenhjpkomldcaaGreat
namespace Go.Proofs.YtfenhjpkomldcaaGreat
open Go Go.Ev
def rK(p:Int×List Nat):T:= .agg [.i .i64 p.1,.s p.2]
theorem YL(a b:Int×List Nat):mN (.flat [.int,.str]) (rK a) (rK b)=some (decide (a=b)):=by
 unfold rK
 rw[TK]
 congr 1
 by_cases h1:a.1=b.1 <;> by_cases h2:a.2=b.2 <;> simp[h1,h2,Prod.ext_iff]
theorem K7(seen:List (Int×List Nat))(s:Int×List Nat):lN (.flat [.int,.str]) ((seen.map fun x=>(x,true)).map fun p=>rK p.1) ((seen.map fun x=>(x,true)).map fun p=>T.b p.2) (.agg [.i .i64 s.1,.s s.2]) (.b false) false=some (.b (decide (s∈seen))):=by
 have:=Ro (kT:=rK) (vT:=T.b) YL (fun _=>C7) (seen.map fun x=>(x,true)) s (.b false)
 rw[show T.agg [.i .i64 s.1,.s s.2]=rK s from rfl,this,mB]
 by_cases h:s∈seen <;> simp[h]
theorem Hc(seen:List (Int×List Nat))(s:Int×List Nat)(h:s∉seen):mO (.flat [.int,.str]) (.agg [.i .i64 s.1,.s s.2]) (.b true) ((seen.map fun x=>(x,true)).map fun p=>rK p.1) ((seen.map fun x=>(x,true)).map fun p=>T.b p.2)=some (((seen++ [s]).map fun x=>(x,true)).map (fun p=>rK p.1),((seen++ [s]).map fun x=>(x,true)).map (fun p=>T.b p.2)):=by
 have:=A8 (kT:=rK) (vT:=T.b) YL (seen.map fun x=>(x,true)) s true (by rw[mB,if_neg h])
 rw[show T.agg [.i .i64 s.1,.s s.2]=rK s from rfl,this]
 simp only[List.map_append,List.map_cons,List.map_nil]
def B6(x:Ex):Prop:=0≤x.nodes∧x.sm
def rB(u:Ru):Int×List Nat:=(u.sc,u.nm)
theorem adx(l:List Ru)(a:T)(cc:List T)(ha:aR a l.length cc)(hc:aS za l cc)(hlen:l.length≤eG)(gb: ∀u∈l,B6 u.x)(r:Int)(hr:r=BD [] l)(o:Out)(ho:o=if r=0 then .ext 0 else .ret)(g:Nat)(fr:Fr)(lh:aQ aB)(sh:List aB)
  (h3:ak fr 3= .mp .L 8 g) (h9:ak fr 9=a) (jV:ak fr 10= .i .i64 (l.length:Int)) (mC:ak fr 11= .i .i64 0) (o8:aq lh 8=⟨g,.map [] [] false⟩):
  DC pE 42 (.loop fJ) ⟨fr,lh,sh⟩=some (o,⟨cz pE 42 fJ fr lh sh,bK pE 42 fJ fr lh sh,cw pE 42 fJ fr lh sh⟩)∧
  ((r≠0→ak (cz pE 42 fJ fr lh sh) 2= .i .i64 r)∧cw pE 42 fJ fr lh sh=sh):=by
 refine aD (P:=fun cO bp br=>(r≠0→ak cO 2= .i .i64 r)∧br=sh)
  (aI (fun k st=> ∃(fr:Fr) (aX:aQ aB),st=⟨fr,aX,sh⟩∧ak fr 3= .mp .L 8 g∧ak fr 9=a∧ak fr 10= .i .i64 (l.length:Int)∧ak fr 11= .i .i64 (k:Int)∧
    aq aX 8=⟨g,.map ((((l.take k).map rB).map fun x=>(x,true)).map fun p=>rK p.1) ((((l.take k).map rB).map fun x=>(x,true)).map fun p=>T.b p.2) false⟩∧r=BD ((l.take k).map rB) (l.drop k)) _ l.length ?_ ?_ 0 _ (Nat.zero_le _) ⟨fr,lh,rfl,h3,h9,jV,mC,o8,by rw[hr];rfl⟩)
 ·rintro k _ hk ⟨fr,aX,rfl,h3,h9,jV,mC,o8,hr⟩
  have bt:(k:Int)<l.length:=by omega
  have hw:=aJ (k:=k) (by omega)
  obtain⟨b,cb,rr,bh,cH,hb⟩:=pD ha hc k hk
  obtain⟨xF,sd⟩:=gb l[k] (List.getElem_mem hk)
  have jx:=xI l[k].sc
  have gL:=mn l[k].nm
  have mA:=fun z fr lh sh=>kh (z:=z) (fr:=fr) (lh:=lh) (sh:=sh) l[k].x _ hb xF sd
  have iE:=K7 ((l.take k).map rB) (rB l[k])
  have jY:=Hc ((l.take k).map rB) (rB l[k])
  rw[List.drop_eq_getElem_cons hk,BD]at hr
  have rv:(l.take (k+1)).map rB=(l.take k).map rB++ [rB l[k]]:=by rw[List.take_succ_eq_append_getElem hk,List.map_append];rfl
  rw[rv]
  generalize (l.take k).map rB=seen at*
  change r=if gF l[k].sc 1 3=false∨eF l[k].nm=false then 1 else if rB l[k]∈seen then 7 else if aW l[k].x≠0 then aW l[k].x else BD (seen++ [rB l[k]]) (l.drop (k+1))at hr
  cases hq:gF l[k].sc 1 3 with
  |false=>
   right
   rw[if_pos (.inl hq)]at hr
   rw[hq]at jx
   simp(maxDischargeDepth:=6) only[qF,ae,ah,aa,aj,ab,an,splice,Nat.reduceAdd,Nat.reduceLT,Nat.reduceLeDiff,Nat.reduceEqDiff,fJ,h9,jV,mC,bt,bh,jx,su]
   refine⟨_,_,(by simp:Out.ret≠ .nrm),rfl,by rw[ho,hr];rfl,fun _=> ?_,rfl⟩
   simp(maxDischargeDepth:=6) only[aa,hr]
  |true=>
  rw[hq]at jx
  cases hd:eF l[k].nm with
  |false=>
   right
   rw[if_pos (.inr hd)]at hr
   rw[hd]at gL
   simp(maxDischargeDepth:=6) only[qF,ae,ah,aa,aj,ab,an,splice,Nat.reduceAdd,Nat.reduceLT,Nat.reduceLeDiff,Nat.reduceEqDiff,fJ,h9,jV,mC,bt,bh,jx,su,gL,gN]
   refine⟨_,_,(by simp:Out.ret≠ .nrm),rfl,by rw[ho,hr];rfl,fun _=> ?_,rfl⟩
   simp(maxDischargeDepth:=6) only[aa,hr]
  |true=>
   rw[if_neg (by simp[hd,hq])]at hr
   rw[hd]at gL
   by_cases hs:rB l[k]∈seen
   ·right
    rw[if_pos hs]at hr
    rw[decide_eq_true hs]at iE
    unfold rB at iE
    simp(maxDischargeDepth:=6) only[qF,ae,ah,aa,aj,ab,an,aF,pX,splice,aH,Nat.reduceAdd,Nat.reduceLT,Nat.reduceLeDiff,Nat.reduceEqDiff,fJ,h3,h9,jV,mC,o8,bt,bh,jx,su,gL,gN,dU,iE]
    refine⟨_,_,(by simp:Out.ret≠ .nrm),rfl,by rw[ho,hr];rfl,fun _=> ?_,rfl⟩
    simp(maxDischargeDepth:=6) only[aa,hr]
   ·rw[if_neg hs]at hr
    rw[decide_eq_false hs]at iE
    have jY:=jY hs
    unfold rB at iE
    change mO (.flat [.int,.str]) (.agg [.i .i64 l[k].sc,.s l[k].nm]) (.b true) _ _=_ at jY
    by_cases hv:aW l[k].x=0
    ·left
     rw[if_neg (by simp[hv])]at hr
     rw[hv]at mA
     simp(maxDischargeDepth:=6) only[qF,ae,ah,aa,aj,ab,an,aF,pX,M8,splice,aH,Nat.reduceAdd,Nat.reduceLT,Nat.reduceLeDiff,Nat.reduceEqDiff,fJ,h3,h9,jV,mC,o8,bt,bh,hw,jx,su,gL,gN,dU,iE,qP,C7,jY,mA]
     refine⟨_,rfl,_,_,rfl, ?_, ?_, ?_, ?_, ?_,hr⟩
     all_goals (simp(maxDischargeDepth:=6) only[aa,ab,Nat.reduceEqDiff,h3,h9,jV])
    ·right
     rw[if_pos hv]at hr
     generalize aW l[k].x=e at*
     simp(maxDischargeDepth:=6) only[qF,ae,ah,aa,aj,ab,an,aF,pX,M8,splice,aH,Nat.reduceAdd,Nat.reduceLT,Nat.reduceLeDiff,Nat.reduceEqDiff,fJ,h3,h9,jV,mC,o8,bt,bh,jx,su,gL,gN,dU,iE,qP,C7,jY,mA,hv]
     refine⟨_,_,(by simp:Out.ret≠ .nrm),rfl,by rw[ho,hr,if_neg hv],fun _=> ?_,rfl⟩
     simp(maxDischargeDepth:=6) only[aa,hr]
 ·rintro _ ⟨fr,aX,rfl,h3,h9,jV,mC,o8,hr⟩
  rw[List.drop_length,BD]at hr
  simp(maxDischargeDepth:=6) only[ae,ah,aa,ab,an,Nat.reduceLT,fJ,jV,mC,Int.lt_irrefl]
  exact⟨_,_,(by simp:Out.ext 0≠ .nrm),rfl,by rw[ho,hr];rfl,fun h=>absurd hr h,rfl⟩
theorem Uf(l:List Ru)(a:T)(cc:List T)(ha:aR a l.length cc)(hc:aS za l cc)(hlen:l.length≤eG)(gb: ∀u∈l,B6 u.x):ai pE 171 [a] []=some (.i .i64 (BD [] l),[]):=by
 have hL:=fun fr lh sh h3 h9 jV mC o8=>adx l a cc ha hc hlen gb _ rfl _ rfl 1 fr lh sh h3 h9 jV mC o8
 rw[aG Qv (by simp[Fx])]
 by_cases h0:BD [] l=0
 ·rw[h0]at hL
  simp only[if_true,ne_eq,not_true_eq_false,false_implies,true_and]at hL
  simp(maxDischargeDepth:=6) only[qF,ae,ah,aa,aj,ab,reduceCtorEq,Nat.reduceLT,Nat.reduceEqDiff,Fx,ha.lenI,hL,h0]
 ·simp only[h0,if_false,ne_eq,not_false_eq_true,forall_const]at hL
  simp(maxDischargeDepth:=6) only[qF,ae,ah,aa,aj,ab,reduceCtorEq,Nat.reduceLT,Nat.reduceEqDiff,Fx,ha.lenI,hL]
def xJ:List (List Nat):= [[98,108,111,99,107],[115,112,97,110],[110,105,103,104,116],[99,114,101,100,105,116],[108,101,103,115],[104,101,97,100,115],[100,117,116,105,101,115]]
theorem K8(s:List Nat):ai pE 224 [.s s] []=some (.i .i64 (BE s),[]):=by
 by_cases h:s∈xJ
 ·simp only[xJ,List.mem_cons,List.not_mem_nil,or_false]at h
  rcases h with rfl|rfl|rfl|rfl|rfl|rfl|rfl <;> exact cd (m:=20) (bZ (by kernel_rfl))
 ·simp only[xJ,List.mem_cons,List.not_mem_nil,or_false,not_or]at h
  obtain⟨h1,h2,h3,h4,h5,h6,h7⟩:=h
  rw[aG QT (by simp[Ig])]
  unfold BE
  simp(maxDischargeDepth:=6) only[qF,ae,ah,aa,aj,ab,an,reduceCtorEq,Nat.reduceLT,Nat.reduceEqDiff,Ig,h1,h2,h3,h4,h5,h6,h7,or_self]
theorem K9(s:List Nat): ∃n:Int,(n=0↔BE s=0)∧ai pE 196 [.s s] []=some (.i .i64 n,[]):=by
 by_cases h:s∈xJ
 ·simp only[xJ,List.mem_cons,List.not_mem_nil,or_false]at h
  rcases h with rfl|rfl|rfl|rfl|rfl|rfl|rfl
  iterate 4 exact⟨2,by decide,cd (m:=20) (bZ (by kernel_rfl))⟩
  iterate 3 exact⟨1,by decide,cd (m:=20) (bZ (by kernel_rfl))⟩
 ·simp only[xJ,List.mem_cons,List.not_mem_nil,or_false,not_or]at h
  obtain⟨h1,h2,h3,h4,h5,h6,h7⟩:=h
  refine⟨0, ?_, ?_⟩
  ·unfold BE;simp[h1,h2,h3,h4,h5,h6,h7]
  ·rw[aG QC (by simp[H9])]
   simp(maxDischargeDepth:=6) only[qF,ae,ah,aa,aj,ab,an,reduceCtorEq,Nat.reduceLT,Nat.reduceEqDiff,H9,h1,h2,h3,h4,h5,h6,h7]
end Go.Proofs.YtfenhjpkomldcaaGreat
namespace Go.Proofs.YtfenhjpkomldcaaGreat
open Go Go.Ev
def nC(g:Nat)(seen:List (List Nat)):aB:=⟨g,.map ((seen.map fun x=>(x,true)).map fun p=>sK p.1) ((seen.map fun x=>(x,true)).map fun p=>T.b p.2) false⟩
theorem BG(g:Nat)(seen:List (List Nat))(s:List Nat):U6 (nC g seen) g (.one .str) (.s s) (.b false) false=some (.b (decide (s∈seen))):=by
 unfold nC;rw[dU,if_pos rfl,E3]
theorem BH{lh:aQ aB}{kk:Nat}(g:Nat)(seen:List (List Nat))(s:List Nat)(h:s∉seen):U7 lh kk (nC g seen) g (.one .str) (.s s) (.b true)=some (cM lh kk (nC g (seen++ [s]))):=by
 unfold nC;rw[qP,if_pos ⟨rfl,rfl⟩,BF seen s h];rfl
theorem ady(l:List Li)(a:T)(cc:List T)(ha:aR a l.length cc)(hc:aS L1 l cc)(hlen:l.length≤eG)(r:Int)(hr:r=Hb [] l)(o:Out)(ho:o=if r=0 then .ext 0 else .ret)(g:Nat)(c1:aB)(fr:Fr)(lh:aQ aB)(sh:List aB)
  (h3:ak fr 3= .mp .L 8 g) (jV:ak fr 10=a) (mC:ak fr 11= .i .i64 (l.length:Int)) (kW:ak fr 12= .i .i64 0) (o8:aq lh 8=nC g []) (o1:aq lh 1=c1):
  DC pE 80 (.loop dR) ⟨fr,lh,sh⟩=some (o,⟨cz pE 80 dR fr lh sh,bK pE 80 dR fr lh sh,cw pE 80 dR fr lh sh⟩)∧
  ((r≠0→ak (cz pE 80 dR fr lh sh) 2= .i .i64 r)∧aq (bK pE 80 dR fr lh sh) 1=c1∧(r=0→aq (bK pE 80 dR fr lh sh) 8=nC g (l.map Li.nm))∧cw pE 80 dR fr lh sh=sh):=by
 refine aD (P:=fun cO bp br=>(r≠0→ak cO 2= .i .i64 r)∧aq bp 1=c1∧(r=0→aq bp 8=nC g (l.map Li.nm))∧br=sh)
  (aI (fun k st=> ∃(fr:Fr) (aX:aQ aB),st=⟨fr,aX,sh⟩∧ak fr 3= .mp .L 8 g∧ak fr 10=a∧ak fr 11= .i .i64 (l.length:Int)∧ak fr 12= .i .i64 (k:Int)∧aq aX 1=c1∧
    aq aX 8=nC g ((l.take k).map Li.nm)∧r=Hb ((l.take k).map Li.nm) (l.drop k)) _ l.length ?_ ?_ 0 _ (Nat.zero_le _) ⟨fr,lh,rfl,h3,jV,mC,kW,o1,o8,by rw[hr];rfl⟩)
 ·rintro k _ hk ⟨fr,aX,rfl,h3,jV,mC,kW,o1,o8,hr⟩
  have bt:(k:Int)<l.length:=by omega
  have hw:=aJ (k:=k) (by omega)
  obtain⟨rr,bh⟩:=xH ha hc k hk
  have gL:=mn l[k].nm
  have La:=K8 l[k].me
  have vE:=dj l[k].mo 0 599999
  have tw:=dj l[k].da 1 31
  have iE:=BG g ((l.take k).map Li.nm) l[k].nm
  have Ug:=fun lh kk=>BH (lh:=lh) (kk:=kk) g ((l.take k).map Li.nm) l[k].nm
  rw[List.drop_eq_getElem_cons hk,Hb]at hr
  have rv:(l.take (k+1)).map Li.nm=(l.take k).map Li.nm++ [l[k].nm]:=by rw[List.take_succ_eq_append_getElem hk,List.map_append];rfl
  rw[rv]
  generalize (l.take k).map Li.nm=seen at*
  generalize l[k]=u at*
  have leave: ∀e:Int,e≠0→r=e→o= .ret:=fun e he h=>by rw[ho,h,if_neg he]
  cases hd:eF u.nm with
  |false=>
   right
   rw[if_pos hd]at hr
   rw[hd]at gL
   simp(maxDischargeDepth:=6) only[qF,ae,ah,aa,aj,ab,an,pX,splice,Nat.reduceAdd,Nat.reduceLT,Nat.reduceLeDiff,Nat.reduceEqDiff,dR,h3,jV,mC,kW,bt,bh,gL,gN]
   refine⟨_,_,(by simp:Out.ret≠ .nrm),rfl,(leave _ (by decide) hr).symm,fun _=> ?_, ?_,fun h=>absurd (hr.symm.trans h) (by decide),rfl⟩ <;> simp(maxDischargeDepth:=6) only[aa,ab,Nat.reduceEqDiff,hr,o1]
  |true=>
  rw[if_neg (by simp[hd])]at hr
  rw[hd]at gL
  by_cases hs:u.nm∈seen
  ·right
   rw[if_pos hs]at hr
   rw[decide_eq_true hs]at iE
   simp(maxDischargeDepth:=6) only[qF,ae,ah,aa,aj,ab,an,pX,splice,Nat.reduceAdd,Nat.reduceLT,Nat.reduceLeDiff,Nat.reduceEqDiff,dR,h3,jV,mC,kW,o8,bt,bh,gL,gN,iE]
   refine⟨_,_,(by simp:Out.ret≠ .nrm),rfl,(leave _ (by decide) hr).symm,fun _=> ?_, ?_,fun h=>absurd (hr.symm.trans h) (by decide),rfl⟩ <;> simp(maxDischargeDepth:=6) only[aa,ab,Nat.reduceEqDiff,hr,o1]
  rw[if_neg hs]at hr
  rw[decide_eq_false hs]at iE
  have Ug:=fun lh kk=>Ug lh kk hs
  by_cases hm:BE u.me=0
  ·right
   rw[if_pos hm]at hr
   rw[hm]at La
   simp(maxDischargeDepth:=6) only[qF,ae,ah,aa,aj,ab,an,pX,splice,Nat.reduceAdd,Nat.reduceLT,Nat.reduceLeDiff,Nat.reduceEqDiff,dR,h3,jV,mC,kW,o8,bt,bh,gL,gN,iE,La,D2]
   refine⟨_,_,(by simp:Out.ret≠ .nrm),rfl,(leave _ (by decide) hr).symm,fun _=> ?_, ?_,fun h=>absurd (hr.symm.trans h) (by decide),rfl⟩ <;> simp(maxDischargeDepth:=6) only[aa,ab,Nat.reduceEqDiff,hr,o1]
  rw[if_neg hm]at hr
  generalize BE u.me=me at*
  cases kF:gF u.mo 0 599999 with
  |false=>
   right
   rw[if_pos (.inl kF)]at hr
   rw[kF]at vE
   simp(maxDischargeDepth:=6) only[qF,ae,ah,aa,aj,ab,an,pX,splice,Nat.reduceAdd,Nat.reduceLT,Nat.reduceLeDiff,Nat.reduceEqDiff,dR,h3,jV,mC,kW,o8,bt,bh,gL,gN,iE,La,D2,hm,vE,cP]
   refine⟨_,_,(by simp:Out.ret≠ .nrm),rfl,(leave _ (by decide) hr).symm,fun _=> ?_, ?_,fun h=>absurd (hr.symm.trans h) (by decide),rfl⟩ <;> simp(maxDischargeDepth:=6) only[aa,ab,Nat.reduceEqDiff,hr,o1]
  |true=>
  rw[kF]at vE
  cases nz:gF u.da 1 31 with
  |false=>
   right
   rw[if_pos (.inr nz)]at hr
   rw[nz]at tw
   simp(maxDischargeDepth:=6) only[qF,ae,ah,aa,aj,ab,an,pX,splice,Nat.reduceAdd,Nat.reduceLT,Nat.reduceLeDiff,Nat.reduceEqDiff,dR,h3,jV,mC,kW,o8,bt,bh,gL,gN,iE,La,D2,hm,vE,tw,cP]
   refine⟨_,_,(by simp:Out.ret≠ .nrm),rfl,(leave _ (by decide) hr).symm,fun _=> ?_, ?_,fun h=>absurd (hr.symm.trans h) (by decide),rfl⟩ <;> simp(maxDischargeDepth:=6) only[aa,ab,Nat.reduceEqDiff,hr,o1]
  |true=>
   left
   rw[if_neg (by simp[kF,nz])]at hr
   rw[nz]at tw
   simp(maxDischargeDepth:=6) only[qF,ae,ah,aa,aj,ab,an,pX,M8,splice,Nat.reduceAdd,Nat.reduceLT,Nat.reduceLeDiff,Nat.reduceEqDiff,dR,h3,jV,mC,kW,o8,bt,bh,hw,gL,gN,iE,Ug,La,D2,hm,vE,tw,cP]
   refine⟨_,rfl,_,_,rfl, ?_, ?_, ?_, ?_, ?_, ?_,hr⟩
   all_goals (simp(maxDischargeDepth:=6) only[aa,ab,Nat.reduceEqDiff,h3,jV,mC,o1])
 ·rintro _ ⟨fr,aX,rfl,h3,jV,mC,kW,o1,o8,hr⟩
  rw[List.drop_length,Hb]at hr
  rw[List.take_length]at o8
  simp(maxDischargeDepth:=6) only[ae,ah,aa,ab,an,Nat.reduceLT,dR,mC,kW,Int.lt_irrefl]
  exact⟨_,_,(by simp:Out.ext 0≠ .nrm),rfl,by rw[ho,hr];rfl,fun h=>absurd hr h,o1,fun _=>o8,rfl⟩
theorem adz(l:List Of)(s0:List (List Nat))(a:T)(cc:List T)(ha:aR a l.length cc)(hc:aS O3 l cc)(hlen:l.length≤eG)(r:Int)(hr:r=Hz s0 l)(o:Out)(ho:o=if r=0 then .ext 3 else .ret)(g:Nat)(fr:Fr)(lh:aQ aB)(sh:List aB)
  (h3:ak fr 3= .mp .L 8 g) (Lb:ak fr 47=a) (Em:ak fr 48= .i .i64 (l.length:Int)) (ph:ak fr 49= .i .i64 0) (o8:aq lh 8=nC g s0):
  DC pE 80 (.loop fK) ⟨fr,lh,sh⟩=some (o,⟨cz pE 80 fK fr lh sh,bK pE 80 fK fr lh sh,cw pE 80 fK fr lh sh⟩)∧
  ((r≠0→ak (cz pE 80 fK fr lh sh) 2= .i .i64 r)∧cw pE 80 fK fr lh sh=sh):=by
 refine aD (P:=fun cO bp br=>(r≠0→ak cO 2= .i .i64 r)∧br=sh)
  (aI (fun k st=> ∃(fr:Fr) (aX:aQ aB),st=⟨fr,aX,sh⟩∧ak fr 3= .mp .L 8 g∧ak fr 47=a∧ak fr 48= .i .i64 (l.length:Int)∧ak fr 49= .i .i64 (k:Int)∧
    aq aX 8=nC g (s0++(l.take k).map Of.nm)∧r=Hz (s0++(l.take k).map Of.nm) (l.drop k)) _ l.length ?_ ?_ 0 _ (Nat.zero_le _) ⟨fr,lh,rfl,h3,Lb,Em,ph,by simpa using o8,by rw[hr];simp⟩)
 ·rintro k _ hk ⟨fr,aX,rfl,h3,Lb,Em,ph,o8,hr⟩
  have bt:(k:Int)<l.length:=by omega
  have hw:=aJ (k:=k) (by omega)
  obtain⟨rr,bh⟩:=BC ha hc k hk
  have gL:=mn l[k].nm
  have vE:=dj l[k].da 1 31
  have tw:=dj l[k].ct 1 l[k].da
  have iE:=BG g (s0++(l.take k).map Of.nm) l[k].nm
  have Ug:=fun lh kk=>BH (lh:=lh) (kk:=kk) g (s0++(l.take k).map Of.nm) l[k].nm
  rw[List.drop_eq_getElem_cons hk,Hz]at hr
  have rv:s0++(l.take (k+1)).map Of.nm=(s0++(l.take k).map Of.nm)++ [l[k].nm]:=by rw[List.take_succ_eq_append_getElem hk,List.map_append,List.append_assoc];rfl
  rw[rv]
  generalize s0++(l.take k).map Of.nm=seen at*
  generalize l[k]=u at*
  have leave: ∀e:Int,e≠0→r=e→o= .ret:=fun e he h=>by rw[ho,h,if_neg he]
  cases hd:eF u.nm with
  |false=>
   right
   rw[if_pos hd]at hr
   rw[hd]at gL
   simp(maxDischargeDepth:=6) only[qF,ae,ah,aa,aj,ab,an,pX,splice,Nat.reduceAdd,Nat.reduceLT,Nat.reduceLeDiff,Nat.reduceEqDiff,fK,h3,Lb,Em,ph,bt,bh,gL,gN]
   refine⟨_,_,(by simp:Out.ret≠ .nrm),rfl,(leave _ (by decide) hr).symm,fun _=> ?_,rfl⟩
   simp(maxDischargeDepth:=6) only[aa,hr]
  |true=>
  rw[if_neg (by simp[hd])]at hr
  rw[hd]at gL
  by_cases hs:u.nm∈seen
  ·right
   rw[if_pos hs]at hr
   rw[decide_eq_true hs]at iE
   simp(maxDischargeDepth:=6) only[qF,ae,ah,aa,aj,ab,an,pX,splice,Nat.reduceAdd,Nat.reduceLT,Nat.reduceLeDiff,Nat.reduceEqDiff,fK,h3,Lb,Em,ph,o8,bt,bh,gL,gN,iE]
   refine⟨_,_,(by simp:Out.ret≠ .nrm),rfl,(leave _ (by decide) hr).symm,fun _=> ?_,rfl⟩
   simp(maxDischargeDepth:=6) only[aa,hr]
  rw[if_neg hs]at hr
  rw[decide_eq_false hs]at iE
  have Ug:=fun lh kk=>Ug lh kk hs
  cases kF:gF u.da 1 31 with
  |false=>
   right
   rw[if_pos (.inl kF)]at hr
   rw[kF]at vE
   simp(maxDischargeDepth:=6) only[qF,ae,ah,aa,aj,ab,an,pX,splice,Nat.reduceAdd,Nat.reduceLT,Nat.reduceLeDiff,Nat.reduceEqDiff,fK,h3,Lb,Em,ph,o8,bt,bh,gL,gN,iE,vE,cP]
   refine⟨_,_,(by simp:Out.ret≠ .nrm),rfl,(leave _ (by decide) hr).symm,fun _=> ?_,rfl⟩
   simp(maxDischargeDepth:=6) only[aa,hr]
  |true=>
  rw[kF]at vE
  cases nz:gF u.ct 1 u.da with
  |false=>
   right
   rw[if_pos (.inr nz)]at hr
   rw[nz]at tw
   simp(maxDischargeDepth:=6) only[qF,ae,ah,aa,aj,ab,an,pX,splice,Nat.reduceAdd,Nat.reduceLT,Nat.reduceLeDiff,Nat.reduceEqDiff,fK,h3,Lb,Em,ph,o8,bt,bh,gL,gN,iE,vE,tw,cP]
   refine⟨_,_,(by simp:Out.ret≠ .nrm),rfl,(leave _ (by decide) hr).symm,fun _=> ?_,rfl⟩
   simp(maxDischargeDepth:=6) only[aa,hr]
  |true=>
   left
   rw[if_neg (by simp[kF,nz])]at hr
   rw[nz]at tw
   simp(maxDischargeDepth:=6) only[qF,ae,ah,aa,aj,ab,an,pX,M8,splice,Nat.reduceAdd,Nat.reduceLT,Nat.reduceLeDiff,Nat.reduceEqDiff,fK,h3,Lb,Em,ph,o8,bt,bh,hw,gL,gN,iE,Ug,vE,tw,cP]
   refine⟨_,rfl,_,_,rfl, ?_, ?_, ?_, ?_, ?_,hr⟩
   all_goals (simp(maxDischargeDepth:=6) only[aa,ab,Nat.reduceEqDiff,h3,Lb,Em])
 ·rintro _ ⟨fr,aX,rfl,h3,Lb,Em,ph,o8,hr⟩
  rw[List.drop_length,Hz]at hr
  simp(maxDischargeDepth:=6) only[ae,ah,aa,ab,an,Nat.reduceLT,fK,Em,ph,Int.lt_irrefl]
  exact⟨_,_,(by simp:Out.ext 3≠ .nrm),rfl,by rw[ho,hr];rfl,fun h=>absurd hr h,rfl⟩
structure zH (c:Ct) (a7 a8 a9 a10 bf ba:T):Prop where
 h7: ∃cc,aR a7 c.cs.length cc∧dK c.cs cc
 h8: ∃cc,aR a8 c.ru.length cc∧aS za c.ru cc
 h9: ∃cc,aR a9 c.co.length cc∧aS BB c.co cc
 jV: ∃cc,aR a10 c.cr.length cc∧aK c.cr cc
 mC: ∃cc,aR bf c.li.length cc∧aS L1 c.li cc
 kW: ∃cc,aR ba c.fs.length cc∧aS O3 c.fs cc
structure tz (c:Ct):Prop where
 s7:E0 c.cs∧c.cs.length≤eG
 s8:(∀u∈c.ru,B6 u.x)∧c.ru.length≤eG
 s9:(∀u∈c.co,B6 u.x)∧c.co.length≤eG
 s10:(∀x∈c.cr,B6 x)∧c.cr.length≤eG
 s11:c.li.length≤eG
 s12:c.fs.length≤eG
section
variable(c:Ct)(a7 a8 a9 a10 bf ba:T)(hT:zH c a7 a8 a9 a10 bf ba)(hS:tz c)
def bG:List T:= [.i .i64 c.rp,.i .i64 c.rl,.i .i64 c.cn,.i .i64 c.st,.i .i64 c.ly,.i .i64 c.nf,.i .i64 c.nt,a7,a8,a9,a10,bf,ba,.i .i64 c.gu]
include hT hS
theorem Uh:ai pE 173 [.agg (bG c a7 a8 a9 a10 bf ba)] []=some (.i .i64 (K6 c),[]):=by
 obtain⟨⟨c7,i7,_⟩,⟨c8,i8,_⟩,⟨c9,i9,_⟩,⟨kQ,i10,_⟩,⟨j2,i11,ju⟩,⟨ki,i12,jy⟩⟩:=hT
 rw[aG Qx (by simp[Cg])]
 have hL:=fun c1 fr lh sh h3 jV mC kW o8 o1=>ady c.li bf j2 i11 ju hS.s11 _ rfl _ rfl 1 c1 fr lh sh h3 jV mC kW o8 o1
 have hL:=fun fr lh sh h3 jV mC kW o8 o1=>hL ⟨1,.cells (bG c a7 a8 a9 a10 bf ba) 0 true⟩ fr lh sh h3 jV mC kW o8 o1
 have hO:=fun fr lh sh h3 Lb Em ph o8=>adz c.fs (c.li.map Li.nm) ba ki i12 jy hS.s12 _ rfl _ rfl 1 fr lh sh h3 Lb Em ph o8
 unfold K6 bG
 unfold bG at hL
 rw[show nC 1 []=⟨1,.map [] [] false⟩from rfl]at hL
 by_cases h0:Hb [] c.li=0
 ·rw[if_neg (by simp[h0])]
  rw[h0]at hL
  simp only[if_true,ne_eq,not_true_eq_false,false_implies,true_and,forall_const]at hL
  by_cases h1:Hz (c.li.map Li.nm) c.fs=0
  ·rw[h1]at hO
   simp only[if_true,ne_eq,not_true_eq_false,false_implies,true_and]at hO
   simp(maxDischargeDepth:=6) only[qF,ae,ah,aa,aj,ab,Nat.reduceShiftRight,Nat.reduceMod,Nat.reduceLT,Nat.reduceEqDiff,Cg,wL,i11.lenI,i12.lenI,hL,hO,h1]
  ·simp only[h1,if_false,ne_eq,not_false_eq_true,forall_const]at hO
   simp(maxDischargeDepth:=6) only[qF,ae,ah,aa,aj,ab,Nat.reduceShiftRight,Nat.reduceMod,Nat.reduceLT,Nat.reduceEqDiff,Cg,wL,i11.lenI,i12.lenI,hL,hO]
 ·rw[if_pos h0]
  simp only[h0,if_false,ne_eq,not_false_eq_true,forall_const,false_implies,true_and]at hL
  simp(maxDischargeDepth:=6) only[qF,ae,ah,aa,aj,ab,Nat.reduceLT,Nat.reduceEqDiff,Cg,i11.lenI,hL]
end
end Go.Proofs.YtfenhjpkomldcaaGreat
