/- Walks of functions of the program and of the reference, and their plain laws, part 2. Conditions: the theorems' own. -/
import Derived.Test.YtcpceiclnbmgiaaGreatM1
import Derived.KernelRfl
set_option maxRecDepth 100000
set_option linter.unusedSimpArgs false
set_option linter.unusedVariables false
set_option maxHeartbeats 16000000
namespace Go.Proofs.YtcpceiclnbmgiaaGreat
open Go Go.Ev
theorem acg(x:Ex):szP x:=by
 induction x using Ex.ind with
 |h x ih=>
  intro level cs hx hl
  obtain⟨a,D,rfl,F,Kb⟩:=hx.cells
  rw[gQ aen (by simp[Qk]),Ex.sz_eq]
  by_cases r:(16:Int)<(level:Int)
  ·have i:16<level:=by omega
   simp only[qA,seval,Qk,r,i]
  ·have i: ¬16<level:=by omega
   have H:=fun g fr lh sh=>asb x.args ih a D F Kb level (by omega) x.op x.num x.name g fr lh sh
   simp only[qA,seval,Qk,r,i,H 1]
theorem ach(x:Ex)(cs:List T)(hx:mC x cs):be pE 177 [.agg cs] []=some (.tup [.i .i64 ((x.sz 1).1:Int),.i .i64 ((x.sz 1).2:Int)],[]):=by
 have h:=acg x 1 cs hx (by omega)
 obtain⟨a,D,rfl,r,Kb⟩:=hx.cells
 rw[gQ ad5 (by simp[Tw])]
 simp only[qA,seval,Tw,T7,r.froz1]at h ⊢
 simp only[qA,seval,h]
theorem uJ{op:Int}(i:1≤op)(r:op≤22):op=1∨op=2∨op=3∨op=4∨op=5∨op=6∨op=7∨op=8∨op=9∨op=10∨op=11∨op=12∨op=13∨op=14∨op=15∨op=16∨op=17∨op=18∨op=19∨op=20∨op=21∨op=22:=by omega
theorem MP(op:Int)(n:Nat)(r:1≤op)(D:op≤22):be pE 213 [.i .i64 op,.i .i64 (n:Int)] []=some (.b (lj op n),[]):=by
 have F:decide ((n:Int)=0)=decide (n=0):=by rw[decide_eq_decide];omega
 have H:decide ((n:Int)=1)=decide (n=1):=by rw[decide_eq_decide];omega
 have I:decide ((n:Int)=2)=decide (n=2):=by rw[decide_eq_decide];omega
 have J:decide ((n:Int)=3)=decide (n=3):=by rw[decide_eq_decide];omega
 have K:decide ((2:Int)≤n)=decide (2≤n):=by rw[decide_eq_decide];omega
 rw[gQ aer (by simp[TH])]
 rcases uJ r D with rfl|rfl|rfl|rfl|rfl|rfl|rfl|rfl|rfl|rfl|rfl|rfl|rfl|rfl|rfl|rfl|rfl|rfl|rfl|rfl|rfl|rfl <;>
  simp only[qA,seval,TH,lj,F,H,I,J,K,or_true,or_false,or_self]
def aci(op:Int):Int:=if op≤6 then 0 else if op=7∨op=19 then 1 else if op=12∨op=13 then 2 else if op=14∨op=15 then 3 else 2
def acj(op:Int):Int:=if op≤6 then 0 else if op=7∨op=19 then 1 else if op=12∨op=13 then 200 else if op=14∨op=15 then 3 else 2
theorem XH(op:Int)(r:1≤op)(D:op≤22):be pE 210 [.i .i64 op] []=some (.tup [.i .i64 (aci op),.i .i64 (acj op)],[]):=by
 rw[gQ aeo (by simp[TF])]
 rcases uJ r D with rfl|rfl|rfl|rfl|rfl|rfl|rfl|rfl|rfl|rfl|rfl|rfl|rfl|rfl|rfl|rfl|rfl|rfl|rfl|rfl|rfl|rfl <;>
  simp only[qA,seval,TF,aci,acj,or_true,or_false,or_self]
theorem ai9(op:Int)(n:Nat)(i:1≤op)(r:op≤22)(D:n≤200):lj op n=true↔ ¬(n:Int)<aci op∧ ¬acj op<(n:Int):=by
 grind [lj,aci,acj,Int.reduceLE,Int.reduceEq]
theorem HE: ∀{s:List Nat} {i:Nat},oI s=some i→i<s.length
 | [],i,h=>by simp[oI]at h
 |c::cs,i,h=>by
  rw[oI]at h
  split at h
  ·grind
  ·cases r:oI cs with
   |none=>simp[r]at h
   |some j=>
    simp[r]at h
    have:=HE r
    grind
theorem AB{s:List Nat}: ∀(k:Nat),k≤s.length→(∀j (h:j<k) (hl:j<s.length),s[j]≠46)→oI s=(oI (s.drop k)).map (· +k)
 |0,_,_=>by simp
 |k+1,hk,h=>by
  have:=AB (s:=s) k (by omega) fun j D hl=>h j (by omega) hl
  have r:k<s.length:=by omega
  rw[this,List.drop_eq_getElem_cons r,oI,if_neg (h k (by omega) r)]
  cases oI (s.drop (k+1))with
  |none=>rfl
  |some i=>simp;omega
theorem aja(s:List Nat)(hs:s.length≤oK)(o:Out)(N:o=if oI s=none then .ext 0 else .ret)(fr:Fr)(lh:gW b8)(sh:List b8)(r:an fr 0= .s s)(H:an fr 1= .i .u8 46)(I:an fr 5= .i .i64 0):
  wJ 18 qN fr lh sh o∧
  ((∀i,oI s=some i→an (tT pE 18 qN fr lh sh) 4= .i .i64 (i:Int))∧nE pE 18 qN fr lh sh=lh∧oi pE 18 qN fr lh sh=sh):=by
 refine jv (P:=fun fr O U=>(∀i,oI s=some i→an fr 4= .i .i64 (i:Int))∧O=lh∧U=sh) (jR (fun k st=> ∃fr:Fr,st=⟨fr,lh,sh⟩∧an fr 0= .s s∧an fr 1= .i .u8 46∧an fr 5= .i .i64 (k:Int)∧k≤s.length∧ ∀j (h:j<k) (hl:j<s.length),s[j]≠46) _ s.length ?_ ?_ 0 _ (Nat.zero_le _) ⟨fr,rfl,r,H,I,Nat.zero_le _,by simp⟩)
 ·rintro k _ hk ⟨fr,rfl,r,H,I,Ss,J⟩
  have K:(k:Int)<s.length:=by omega
  have V:=DD (k:=k) (by omega)
  have D:=AB k Ss J
  rw[List.drop_eq_getElem_cons hk,oI]at D
  by_cases hc:s[k]=46
  ·right
   have F:(s[k]:Int)=46:=by omega
   rw[if_pos hc]at D
   simp only[Option.map_some,Nat.zero_add]at D
   simp only[qA,seval,qN,r,H,I,K,FW hk,F]
   refine⟨_,_,TJ,rfl,by rw[N,D];rfl,fun i hi=> ?_,rfl,rfl⟩
   rw[D]at hi
   cases hi
   simp only[qA,seval]
  ·left
   have F: ¬(s[k]:Int)=46:=by omega
   simp only[qA,seval,qN,r,H,I,K,FW hk,F,V]
   refine⟨_,rfl,_,rfl, ?_, ?_, ?_,by omega, ?_⟩
   all_goals first|(simp only[qA,seval,r,H];done)|skip
   grind
 ·rintro _ ⟨fr,rfl,r,H,I,Ss,J⟩
  have D:=AB s.length Ss J
  rw[List.drop_length,oI]at D
  simp only[qA,seval,qN,r,I,Int.lt_irrefl]
  grind
def E9(s:List Nat):Int:=match oI s with|none=> -1|some i=>(i:Int)
theorem XI(s:List Nat)(hs:s.length≤oK):be pE 169 [.s s,.i .u8 46] []=some (.i .i64 (E9 s),[]):=by
 have r:=fun fr lh sh=>aja s hs _ rfl fr lh sh
 rw[gQ ad0 (by simp[Qb])]
 unfold E9
 cases D:oI s with
 |none=>
  simp only[D,if_true,reduceCtorEq,false_implies,implies_true,true_and]at r
  simp only[qA,seval,Qb,r]
 |some i=>
  simp only[D,reduceCtorEq,if_false,Option.some.injEq,forall_eq']at r
  simp only[qA,seval,Qb,r]
theorem Gh{fr:Fr}{r:List Nat}{x:im}{k:IntKind}{j:Nat}(h:rd fr x= .i k (j:Int))(D:j≤r.length):Ds fr (.s r) (some x) none=some (.s (r.drop j)):=by
 grind [Ds,kl,G9,List.take_of_length_le]
theorem Pc{fr:Fr}{r:List Nat}{x:im}{k:IntKind}{j:Nat}(h:rd fr x= .i k (j:Int))(D:j≤r.length):Ds fr (.s r) none (some x)=some (.s (r.take j)):=by
 grind [Ds,kl,G9]
theorem Bl{s:List Nat}{i:Nat}(h:oI s=some i):tm s=(nV (s.take i)&&nV (s.drop (i+1))):=by unfold tm;rw[h]
theorem Bm{s:List Nat}(h:oI s=none):tm s=nW s:=by unfold tm;rw[h]
theorem MQ(s:List Nat)(hs:s.length≤oK):be pE 211 [.s s] []=some (.b (tm s),[]):=by
 have r:=XI s hs
 unfold E9 at r
 rw[gQ aep (by simp[Ql])]
 cases D:oI s with
 |none=>
  simp only[D]at r
  rw[Bm D]
  simp only[qA,seval,Ql,r,ad1,qg,Fv]
 |some i=>
  simp only[D]at r
  rw[Bl D]
  have hi:=HE D
  have I: ¬(i:Int)<0:=by omega
  have H:=DD (k:=i) (by omega)
  have F:i≤s.length:=by omega
  have Js:i+1≤s.length:=by omega
  generalize i+1=j at H Js ⊢
  have J:=fun fr x (h:rd fr x= .i .i64 (j:Int))=>Gh h Js
  have EJ:=fun fr x (h:rd fr x= .i .i64 (i:Int))=>Pc h F
  cases K:nV (s.take i) <;> simp only[qA,seval,Ql,r,ad1,J6,ad3,I,H,J,EJ,K]
theorem KI: ∀s:List Nat,idxN s 46=E9 s
 | []=>rfl
 |c::cs=>by
  rw[idxN,KI cs]
  unfold E9
  rw[oI]
  by_cases h:c=46
  ·simp[h]
  ·rw[if_neg h,if_neg h]
   cases oI cs with
   |none=>rfl
   |some i=>simp only[Option.map_some];rw[if_neg (by omega)];omega
theorem afm{z:Nat}{fr:Fr}{lh:gW b8}{sh:List b8}{s:List Nat}:iR pE (be pE) z ⟨fr,lh,sh⟩ 253 [.s s,.s [46]]=some (.i .i64 (E9 s),⟨fr,lh,sh⟩):=by
 rw[UZ (g:=idxE) rfl rfl,yl (by rfl),←KI]
 rfl
theorem RT{s:List Nat}{i:Nat}(h:oI s=some i):E9 s=(i:Int):=by unfold E9;rw[h]
theorem RU{s:List Nat}(h:oI s=none):E9 s= -1:=by unfold E9;rw[h]
theorem as2{s:List Nat}(i:oI s=none):be pE 227 [.s s,.s [46]] []=some (.tup [.s s,.s [],.b false],[]):=by
 have r:be pE 241 [.s s,.s [46]] []=some (.tup [.s s,.s [],.b false],[]):=by
  rw[gQ Ub (by simp[LF])]
  simp only[qA,seval,Ds,LF,afm,RU i]
 rw[gQ T8 (by simp[LD])]
 simp only[qA,seval,LD,r,aeE]
theorem as3{s:List Nat}{i:Nat}(hs:s.length≤oK)(D:oI s=some i):be pE 227 [.s s,.s [46]] []=some (.tup [.s (s.take i),.s (s.drop (i+1)),.b true],[]):=by
 have hi:=HE D
 have H:(0:Int)≤i:=by omega
 have F:=DD (k:=i) (by omega)
 have r:i≤s.length:=by omega
 have Js:i+1≤s.length:=by omega
 generalize i+1=j at F Js ⊢
 have I:=fun fr x (h:rd fr x= .i .i64 (j:Int))=>Gh h Js
 have EJ:=fun fr x (h:rd fr x= .i .i64 (i:Int))=>Pc h r
 have J:be pE 241 [.s s,.s [46]] []=some (.tup [.s (s.take i),.s (s.drop j),.b true],[]):=by
  rw[gQ Ub (by simp[LF])]
  simp only[qA,seval,LF,afm,RT D,H,F,I,EJ]
 rw[gQ T8 (by simp[LD])]
 simp only[qA,seval,LD,J,aeE]
theorem MR(s:List Nat)(hs:s.length≤oK):be pE 214 [.s s] []=some (.b (tm s),[]):=by
 rw[gQ aes (by simp[Qm])]
 cases r:oI s with
 |none=>
  rw[Bm r]
  simp only[qA,seval,Qm,as2 r,aew,sw,xH]
 |some i=>
  have hc:=as3 hs r
  rw[Bl r]
  generalize i+1=j at hc ⊢
  cases D:nV (s.take i) <;> simp only[qA,seval,Qm,hc,aew,yt,Je,D]
mutual
def Ex.sm:Ex→Prop
 | .mk _ _ name args=>name.length≤oK∧XJ args
def XJ:List Ex→Prop
 | []=>True
 |x::xs=>x.sm∧XJ xs
end
theorem Ex.sm_eq(x:Ex):x.sm↔(x.name.length≤oK∧XJ x.args):=by obtain⟨_,_,_,_⟩:=x;rw[Ex.sm];rfl
theorem HF: ∀{xs:List Ex},XJ xs↔ ∀x∈xs,x.sm
 | []=>by simp[XJ]
 |x::xs=>by rw[XJ,HF (xs:=xs)];simp
def wfP(y:Ex):Prop:= ∀cs:List T,mC y cs→y.nodes≤100000→y.sm→be pE 181 [.agg cs] []=some (.b y.wf,[])
theorem KJ{xs:List Ex}{k:Nat}(hk:k<xs.length):By (xs.drop k)=(xs[k].wf&&By (xs.drop (k+1))):=by rw[vi hk,By]
theorem wf1(xs:List Ex)(ih: ∀y∈xs,wfP y)(a:T)(J:List T)(N:IsSl a xs.length J)(hx:j3 xs J)(hlen:jB xs≤100000)(O:XJ xs)(fr:Fr)(lh:gW b8)(sh:List b8)
  (Gi:an fr 59=a) (EC:an fr 60= .i .i64 (xs.length:Int)) (Gj:an fr 61= .i .i64 0):
  LpC pE 69 xy fr lh sh 1 2 (By xs=true) (.b false) (fun F H=>H=sh):=by
 refine wI Qf (by simp[iG]) (fun k f F H=>an f 61= .i .i64 (k:Int)∧H=sh∧By xs=By (xs.drop k)) xs.length ⟨Gj,rfl,rfl⟩ ?_ ?_
 ·rintro k f F _ hk D ⟨I,rfl,hr⟩
  have U:(k:Int)<xs.length:=by omega
  have N6:=lZ xs
  have V:=oH (List.getElem_mem hk)
  have W:=iT (k:=k) (nY (by omega))
  obtain⟨b,cb,r,X,Y,sL,Z⟩:=rF N hx k hk
  have K:=j2 (ih xs[k] (List.getElem_mem hk) _ Z (by omega) (HF.1 O _ (List.getElem_mem hk)))
  rw[KJ hk]at hr
  simp only[qB,seval,gd,xy,D,Gi,EC,I,U,X,W,K,aeb,Y.froz1]
  clear D K
  grind
 ·rintro f F _ D ⟨I,rfl,hr⟩
  rw[List.drop_length,By]at hr
  simp only[qB,seval,gd,xy,D,EC,I,Int.lt_irrefl,hr]
theorem as4(x:Ex):wfP x:=by
 induction x using Ex.ind with
 |h x ih=>
  intro cs hx K hs
  obtain⟨a,H,rfl,D,Kb⟩:=hx.cells
  rw[gQ aea (by simp[Qg]),Ex.wf_eq]
  have I:=x.nodes_eq
  obtain⟨J,EJ⟩:=(Ex.sm_eq x).1 hs
  have i:=wf1 x.args ih a H D Kb (by omega) EJ
  have r:=j2 (MR x.name J)
  generalize x.op=op,x.num=num,x.name=name at*
  clear ih
  have N:DB op=if op=1∨op=2 then 1099511627776 else if op=3 then 1439 else 0:=rfl
  unfold tn
  by_cases h:1≤op∧op≤22
  ·have F:=j2 (MP op x.args.length h.1 h.2)
   simp only[qB,seval,Qg,D.lenI,F,ap9,r,aqa,i]
   clear i F r
   repeat' (refine ifl (fun _=> ?_) (fun _=> ?_))
   all_goals refine congrArg (fun b=>some (T.b b,[])) ?_
   all_goals symm
   all_goals simp only[Bool.and_eq_true,Bool.and_eq_false_iff,decide_eq_true_eq,decide_eq_false_iff_not]
   all_goals grind
  ·simp only[qB,seval,Qg]
   clear i r
   grind
def ndP(y:Ex):Prop:= ∀cs:List T,mC y cs→y.nodes≤200→y.sm→be pE 178 [.agg cs] []=some (.b y.wf,[])
theorem nd1(xs:List Ex)(ih: ∀y∈xs,ndP y)(a:T)(J:List T)(F:IsSl a xs.length J)(hx:j3 xs J)(hlen:jB xs≤200)(V:XJ xs)(op num:Int)(s:List Nat)(g:Nat)(fr:Fr)(lh:gW b8)(sh:List b8)
  (K:an fr 1= .ptr .L 1 g 0) (W:an fr 6= .i .i64 0) (N:b7 lh 1=⟨g,.cells [.i .i64 op,.i .i64 num,.s s,a] 0 true⟩):
  LpC pE 84 xx fr lh sh 1 2 (By xs=true) (.b false) (fun O H=>H=sh):=by
 refine wI Qd (by simp[iG]) (fun k f O H=>an f 6= .i .i64 (k:Int)∧O=lh∧H=sh∧By xs=By (xs.drop k)) xs.length ⟨W,rfl,rfl,rfl⟩ ?_ ?_
 ·rintro k f _ _ hk D ⟨I,rfl,rfl,hr⟩
  have X:(k:Int)<xs.length:=by omega
  have N6:=lZ xs
  have Y:=oH (List.getElem_mem hk)
  have Z:=iT (k:=k) (nY (by omega))
  obtain⟨b,cb,r,iU,mP,sL,hb⟩:=rF F hx k hk
  have U:=j2 (ih xs[k] (List.getElem_mem hk) _ hb (by omega) (HF.1 V _ (List.getElem_mem hk)))
  rw[KJ hk]at hr
  simp only[qB,seval,gd,xx,D,K,I,N,F.lenI,X,iU,Z,U,ad7,mP.froz1]
  clear D U
  grind
 ·rintro f _ _ D ⟨I,rfl,rfl,hr⟩
  rw[List.drop_length,By]at hr
  simp only[qB,seval,gd,xx,D,K,I,N,F.lenI,Int.lt_irrefl,hr]
theorem as5(x:Ex):ndP x:=by
 induction x using Ex.ind with
 |h x ih=>
  intro cs hx K hs
  obtain⟨a,H,rfl,D,Kb⟩:=hx.cells
  rw[gQ ad6 (by simp[Qe]),Ex.wf_eq]
  have I:=x.nodes_eq
  have N:=lZ x.args
  obtain⟨J,EJ⟩:=(Ex.sm_eq x).1 hs
  have i:=nd1 x.args ih a H D Kb (by omega) EJ x.op x.num x.name 1
  have r:=j2 (MQ x.name J)
  generalize x.op=op,x.num=num,x.name=name at*
  clear ih
  have O:DB op=if op=1∨op=2 then 1099511627776 else if op=3 then 1439 else 0:=rfl
  unfold tn
  by_cases h:1≤op∧op≤22
  ·have F:=XH op h.1 h.2
   have Kc:=ai9 op x.args.length h.1 h.2 (by omega)
   simp only[qB,seval,Qe,D.lenI,F,ap6,r,ap7,i]
   clear i F r
   repeat' (refine ifl (fun _=> ?_) (fun _=> ?_))
   all_goals refine congrArg (fun b=>some (T.b b,[])) ?_
   all_goals symm
   all_goals simp only[Bool.and_eq_true,Bool.and_eq_false_iff,decide_eq_true_eq,decide_eq_false_iff_not]
   all_goals grind
  ·simp only[qB,seval,Qe]
   clear i r
   grind
theorem XK{x:Ex}(i:jo x=0):x.nodes≤200:=by
 unfold jo at i
 by_cases h:big x
 ·rw[if_pos h]at i;cases i
 ·unfold big at h;omega
theorem RV(x:Ex)(cs:List T)(hx:mC x cs)(O:0≤x.nodes)(hs:x.sm): ∃s,be pE 141 [.agg cs] []=some (.i .i64 (jo x),s):=by
 obtain⟨U,r,_⟩:=abM x 1 0 cs hx (by omega) (by omega)
 have F:=fun h=>as4 x cs hx h hs
 have Kc:kf 0 1 x↔ ¬big x:=by unfold kf big;omega
 obtain⟨a,V,rfl,H,Kb⟩:=hx.cells
 rw[gQ adJ (by simp[P6])]
 unfold DE at r
 have I:((0:Nat):Int)=0:=rfl
 have J:((1:Nat):Int)=1:=rfl
 rw[I,J]at r
 unfold jo
 by_cases D:big x
 ·have N: ¬kf 0 1 x:=fun h=>Kc.1 h D
  rw[decide_eq_false N]at r
  simp only[qA,seval,iY,jO,P6,r,NA,H.kept1,D]
  exact⟨_,rfl⟩
 ·have K:=F (by unfold big at D;omega)
  rw[decide_eq_true (Kc.2 D)]at r
  cases B5:x.wf <;> rw[B5]at K <;> simp only[qA,seval,iY,jO,P6,r,NA,K,aeb,H.kept1,H.froz1,D] <;> exact⟨_,rfl⟩
theorem sE{z:Nat}{fr:Fr}{lh:gW b8}{sh:List b8}(x:Ex)(cs:List T)(hx:mC x cs)(r:0≤x.nodes)(hs:x.sm):iR pE (be pE) z ⟨fr,lh,sh⟩ 141 [.agg cs]=some (.i .i64 (jo x),⟨fr,lh,sh⟩):=by
 obtain⟨s,h⟩:=RV x cs hx r hs
 obtain⟨a,F,rfl,D,Kb⟩:=hx.cells
 rw[apP (by simp[JR,ym,Ha,D.froz1]),h];rfl
theorem vq(x:Ex)(cs:List T)(hx:mC x cs)(hs:x.sm):be pE 131 [.agg cs] []=some (.i .i64 (jo x),[]):=by
 have F:=ach x cs hx
 have Bu:=aid x
 have K:=as5 x cs hx
 obtain⟨a,N,rfl,H,Kb⟩:=hx.cells
 rw[gQ adz (by simp[Ly])]
 unfold jo
 generalize x.sz 1=p at*
 by_cases I:(200:Int)<(p.1:Int)
 ·have r:big x:=Bu.1 (by omega)
  simp only[qA,seval,Ly,F,T2,H.froz1,r,I]
 ·by_cases J:(16:Int)<(p.2:Int)
  ·have r:big x:=Bu.1 (by omega)
   simp only[qA,seval,Ly,F,T2,H.froz1,r,I,J]
  ·have r: ¬big x:=fun h=>by have:=Bu.2 h;omega
   have D:=K (by unfold big at r;omega) hs
   cases B5:x.wf <;> rw[B5]at D <;> simp only[qA,seval,Ly,F,T2,H.froz1,r,I,J,D,ad7]
theorem kH(l:List Int):(ints l).length=l.length:=by simp[ints]
theorem qe(l:List Int)(k:Nat)(hk:k<l.length):(ints l).drop k=T.i .i64 l[k]::(ints l).drop (k+1):=by
 rw[List.drop_eq_getElem_cons (by rw[kH];exact hk)];simp[ints]
theorem MS{a:T}{ts:List Int}(r:IsSl a ts.length (ints ts)){k:Nat}(hk:k<ts.length)(kk:IntKind):lH a (.i kk (k:Int)) 1=some (.vp (T.i .i64 ts[k]::(ints ts).drop (k+1))):=by
 rw[r.ia (sz:=1) (by rw[kH];omega) hk,Nat.mul_one,qe ts k hk]
theorem RW{ts:List Int}{k:Nat}{t:Int}(hk:k<ts.length):nX (ts.drop k) t=(decide (ts[k]=t)&&nX (ts.drop (k+1)) t):=by
 unfold nX;rw[List.drop_eq_getElem_cons hk,List.all_cons]
theorem as6(ts:List Int)(t:Int)(a:T)(K:IsSl a ts.length (ints ts))(hlen:ts.length≤qh)(o:Out)(N:o=if nX ts t then .ext 0 else .ret)(fr:Fr)(lh:gW b8)(sh:List b8)
  (F:an fr 1= .i .i64 t) (H:an fr 7=a) (D:an fr 8= .i .i64 (ts.length:Int)) (I:an fr 9= .i .i64 0):
  wJ 17 qQ fr lh sh o∧
  ((nX ts t=false→an (tT pE 17 qQ fr lh sh) 4= .b false)∧nE pE 17 qQ fr lh sh=lh∧oi pE 17 qQ fr lh sh=sh):=by
 refine jv (P:=fun fr U V=>(nX ts t=false→an fr 4= .b false)∧U=lh∧V=sh) (jR (fun k st=> ∃(fr:Fr),st=⟨fr,lh,sh⟩∧an fr 1= .i .i64 t∧an fr 7=a∧an fr 8= .i .i64 (ts.length:Int)∧an fr 9= .i .i64 (k:Int)∧nX ts t=nX (ts.drop k) t) _ ts.length ?_ ?_ 0 _ (Nat.zero_le _) ⟨fr,rfl,F,H,D,I,rfl⟩)
 ·rintro k _ hk ⟨fr,rfl,F,H,D,I,r⟩
  have O:(k:Int)<ts.length:=by omega
  have W:=iT (k:=k) (by omega)
  rw[RW hk]at r
  by_cases J:ts[k]=t
  ·left
   rw[decide_eq_true J,Bool.true_and]at r
   simp only[qA,seval,qQ,F,H,D,I,O,MS K hk,W,J]
   refine⟨_,rfl,_,rfl, ?_, ?_, ?_, ?_,r⟩ <;> simp only[qA,seval,F,H,D]
  ·right
   rw[decide_eq_false J,Bool.false_and]at r
   simp only[qA,seval,qQ,F,H,D,I,O,MS K hk,J]
   refine⟨_,_,TJ,rfl,by rw[N,r];rfl,fun _=>by simp only[qA,seval],rfl,rfl⟩
 ·rintro _ ⟨fr,rfl,F,H,D,I,r⟩
  rw[List.drop_length]at r
  have r:nX ts t=true:=r
  simp only[qA,seval,qQ,D,I,Int.lt_irrefl]
  exact⟨_,_,ui,rfl,by rw[N,r];rfl,fun hc=>(by rw[r]at hc;cases hc),rfl,rfl⟩
theorem Pd(ts:List Int)(t:Int)(a:T)(r:IsSl a ts.length (ints ts))(hlen:ts.length≤qh):be pE 230 [a,.i .i64 t] []=some (.b (nX ts t),[]):=by
 have D:=fun fr lh sh=>as6 ts t a r hlen _ rfl fr lh sh
 rw[gQ aeA (by simp[TI])]
 cases h:nX ts t <;> simp only[h]at D <;> simp only[qA,seval,TI,r.lenI,D]
theorem Gk(k:Int):be pE 229 [.i .i64 k] []=some (.b (decide (k=1∨k=2)),[]):=by
 rw[gQ T9 (by simp[Qp])]
 by_cases r:k=1
 ·simp only[qA,seval,Qp,r,true_or]
 ·by_cases D:k=2 <;> simp only[qA,seval,Qp,r,D,or_true,or_self]
theorem D1(op a b:Int):be pE 231 [.i .i64 op,.i .i64 a,.i .i64 b] []=some (.i .i64 (Ka op a b),[]):=by
 rw[gQ Ua (by simp[zP])]
 unfold Ka
 by_cases a1:a=1
 ·subst a1
  by_cases r:b=1
  ·simp only[qA,seval,zP,r]
  ·by_cases D:op=10
   ·by_cases H:b=2 <;> simp only[qA,seval,zP,r,H,D]
   ·by_cases F:op=11 <;> simp only[qA,seval,zP,r,D,F]
 ·by_cases a2:a=2
  ·subst a2
   by_cases r:b=1
   ·simp only[qA,seval,zP,r]
   ·by_cases D:op=10
    ·simp only[qA,seval,zP,r,D]
    ·by_cases F:op=11
     ·by_cases H:b=2 <;> simp only[qA,seval,zP,r,H,F]
     ·simp only[qA,seval,zP,r,D,F]
  ·by_cases D:op=10
   ·simp only[qA,seval,zP,a1,a2,D]
   ·by_cases F:op=11 <;> simp only[qA,seval,zP,a1,a2,D,F]
theorem Gl{a:T}{t:Int}{ts:List Int}(r:IsSl a (t::ts).length (ints (t::ts))): ∃ex,a= .sl (.i .i64 t::ints ts) (ts.length+1) ex:=by
 rcases r with⟨_,h,_⟩|⟨ex,h⟩
 ·simp at h
 ·exact⟨ex,h⟩
theorem XL{ts:List Int}(h:ts.length=1): ∃a,ts= [a]:=by
 match ts,h with
 | [a],_=>grind
theorem tX{ts:List Int}(h:ts.length=2): ∃a b,ts= [a,b]:=by
 match ts,h with
 | [a,b],_=>grind
theorem XM{ts:List Int}(h:ts.length=3): ∃a b c,ts= [a,b,c]:=by
 match ts,h with
 | [a,b,c],_=>grind
theorem vt(t:Int)(ts:List Int)(k:Int):nX (t::ts) k=(decide (t=k)&&nX ts k):=rfl
theorem XN(t:Int)(ts:List Int):(if nX (t::ts) 1 then(1:Int)else if nX (t::ts) 2 then 2 else 0)=if(t=1∨t=2)∧nX (t::ts) t=true then t else 0:=by
 rw[vt,vt,vt,decide_eq_true (p:=t=t) rfl,Bool.true_and]
 grind
theorem sF(op k:Int)(ts:List Int)(a:T)(r:IsSl a ts.length (ints ts))(hl:ts.length≤qh)(h:op=15∧k=3∨(op=19∨op=20∨op=21∨op=22)∧k=4):be pE 232 [.i .i64 op,a] []=some (.b (nX ts k),[]):=by
 have D:=Pd ts k a r hl
 rw[gQ ND (by simp[ED])]
 rcases h with⟨rfl,rfl⟩|⟨rfl|rfl|rfl|rfl,rfl⟩ <;> simp only[qA,seval,ED,D,aeB,r.froz]
theorem Gm(op x y:Int)(a:T)(D:IsSl a 2 (ints [x,y]))(h:op=16∨op=17):be pE 232 [.i .i64 op,a] []=some (.b (decide ((x=1∨x=2)∧x=y)),[]):=by
 obtain⟨ex,rfl⟩:=Gl (ts:= [y]) D
 have r:=Gk x
 rw[gQ ND (by simp[ED])]
 by_cases hx:x=1∨x=2
 ·rw[decide_eq_true hx]at r
  rcases h with rfl|rfl <;> simp only[qA,seval,nQ,jq,ig,ED,r,NC,aez,ints,hx]
 ·rw[decide_eq_false hx]at r
  rcases h with rfl|rfl <;> simp only[qA,seval,nQ,jq,ED,r,NC,aez,ints,hx]
theorem XO(x y:Int)(a:T)(r:IsSl a 2 (ints [x,y])):be pE 232 [.i .i64 18,a] []=some (.b (decide (x=y)),[]):=by
 obtain⟨ex,rfl⟩:=Gl (ts:= [y]) r
 rw[gQ ND (by simp[ED])]
 simp only[qA,seval,nQ,jq,ED,ints]
theorem MT(op:Int)(ts:List Int)(a:T)(r:IsSl a ts.length (ints ts))(hl:ts.length≤qh)(N:1≤op)(O:op≤22)(W:op≠6)(D:lj op ts.length=true):be pE 216 [.i .i64 op,a] []=some (.i .i64 (tp op ts),[]):=by
 rw[gQ aeu (by simp[rP])]
 have E0: ∀t CY,ts=t::CY→(op=7∨op=8∨op=9∨op=12∨op=13)→Ah rP.res rP.eff (DC pE rP.n rP.code ⟨pF [.i .i64 op,a],.nil,[]⟩)=some (.i .i64 (if(t=1∨t=2)∧nX ts t=true then t else 0),[]):=by
  rintro t CY rfl F
  have J:=Pd (t::CY) t a r hl
  have H:=Gk t
  obtain⟨ex,rfl⟩:=Gl r
  have K:0<CY.length+1:=Nat.succ_pos _
  by_cases hx:t=1∨t=2
  ·rw[decide_eq_true hx]at H
   cases hk:nX (t::CY) t <;> rw[hk]at J <;> rcases F with rfl|rfl|rfl|rfl|rfl <;>
    simp only[qA,seval,nQ,rP,H,NC,J,aeB,hx,K]
  ·rw[decide_eq_false hx]at H
   rcases F with rfl|rfl|rfl|rfl|rfl <;> simp only[qA,seval,nQ,rP,H,NC,hx,K]
 have KK: ∀b:Bool,be pE 232 [.i .i64 op,a] []=some (.b b,[])→(op=15∨op=16∨op=17∨op=18∨op=19∨op=20∨op=21∨op=22)→Ah rP.res rP.eff (DC pE rP.n rP.code ⟨pF [.i .i64 op,a],.nil,[]⟩)=some (.i .i64 (if b=true then 4 else 0),[]):=by
  intro b U F
  cases b <;> rcases F with rfl|rfl|rfl|rfl|rfl|rfl|rfl|rfl <;> simp only[qA,seval,rP,U,aqc,r.froz]
 rcases uJ N O with rfl|rfl|rfl|rfl|rfl|rfl|rfl|rfl|rfl|rfl|rfl|rfl|rfl|rfl|rfl|rfl|rfl|rfl|rfl|rfl|rfl|rfl
 iterate 5 ·simp only[qA,seval,rP,tp]
 ·grind
 ·obtain⟨x,rfl⟩:=XL (by simpa[lj]using D)
  rw[E0 x [] rfl (by simp),←XN];rfl
 ·obtain⟨x,y,rfl⟩:=tX (by simpa[lj]using D)
  rw[E0 x [y] rfl (by simp),←XN];rfl
 ·obtain⟨x,y,rfl⟩:=tX (by simpa[lj]using D)
  rw[E0 x [y] rfl (by simp),←XN];rfl
 ·obtain⟨x,y,rfl⟩:=tX (by simpa[lj]using D)
  obtain⟨ex,rfl⟩:=Gl r
  have I:=D1 10 x y
  simp only[qA,seval,nQ,jq,ig,rP,ints,I,aeC,aeD];rfl
 ·obtain⟨x,y,rfl⟩:=tX (by simpa[lj]using D)
  obtain⟨ex,rfl⟩:=Gl r
  have I:=D1 11 x y
  simp only[qA,seval,nQ,jq,ig,rP,ints,I,aeC,aeD];rfl
 ·match ts,D with
  |x::ts,_=>rw[E0 x ts rfl (by simp),←XN];rfl
 ·match ts,D with
  |x::ts,_=>rw[E0 x ts rfl (by simp),←XN];rfl
 ·obtain⟨x,y,z,rfl⟩:=XM (by simpa[lj]using D)
  obtain⟨ex,rfl⟩:=Gl r
  have hr:tp 14 [x,y,z]=if x=4∧y=z then y else 0:=rfl
  rw[hr]
  by_cases hx:x=4
  ·by_cases V:y=z <;> simp only[qA,seval,nQ,jq,ig,rP,ints,hx,V]
  ·simp only[qA,seval,nQ,jq,ig,rP,ints,hx]
 ·exact KK _ (sF 15 3 ts a r hl (by simp)) (by simp)
 ·obtain⟨x,y,rfl⟩:=tX (by simpa[lj]using D)
  rw[KK _ (Gm 16 x y a r (by simp)) (by simp)]
  have hr:tp 16 [x,y]=if(x=1∨x=2)∧x=y then 4 else 0:=rfl
  rw[hr];simp only[decide_eq_true_eq]
 ·obtain⟨x,y,rfl⟩:=tX (by simpa[lj]using D)
  rw[KK _ (Gm 17 x y a r (by simp)) (by simp)]
  have hr:tp 17 [x,y]=if(x=1∨x=2)∧x=y then 4 else 0:=rfl
  rw[hr];simp only[decide_eq_true_eq]
 ·obtain⟨x,y,rfl⟩:=tX (by simpa[lj]using D)
  rw[KK _ (XO x y a r) (by simp)]
  have hr:tp 18 [x,y]=if x=y then 4 else 0:=rfl
  rw[hr];simp only[decide_eq_true_eq]
 ·exact KK _ (sF 19 4 ts a r hl (by simp)) (by simp)
 ·exact KK _ (sF 20 4 ts a r hl (by simp)) (by simp)
 ·exact KK _ (sF 21 4 ts a r hl (by simp)) (by simp)
 ·exact KK _ (sF 22 4 ts a r hl (by simp)) (by simp)
def lS:Cs→List T→Prop
 | [],cs=>cs= []
 |c::l,cs=> ∃ex r,cs=(T.s c.1::ex)++r∧mC c.2 ex∧lS l r
theorem lS.len: ∀{l:Cs} {cs:List T},lS l cs→cs.length=l.length*5
 | [],cs,h=>by grind [lS]
 |c::l,cs,h=>by
  rw[lS]at h
  obtain⟨ex,r,rfl,i,D⟩:=h
  rw[List.length_append,List.length_cons,i.len,D.len,List.length_cons];omega
theorem lS.drop: ∀{l:Cs} {cs:List T} (k:Nat) (hk:k<l.length),lS l cs→ ∃ex r,cs.drop (k*5)=(T.s l[k].1::ex)++r∧mC l[k].2 ex∧lS (l.drop (k+1)) r
 | [],cs,k,hk,h=>by simp at hk
 |x::xs,cs,0,hk,h=>by
  grind [lS]
 |x::xs,cs,k+1,hk,h=>by
  rw[lS]at h
  obtain⟨c,r,rfl,i,D⟩:=h
  obtain⟨F,H,e,I,J⟩:=lS.drop k (by simpa using hk) D
  refine⟨F,H, ?_,I,by simpa using J⟩
  have:(k+1)*5=(T.s x.1::c).length+k*5:=by rw[List.length_cons,i.len];omega
  grind [List.drop_append,Nat.add_sub_cancel_left,List.drop_eq_nil_of_le]
theorem n6{l:Cs}{a:T}{F:List T}(J:IsSl a l.length F)(H:lS l F)(k:Nat)(hk:k<l.length):
  ∃b D r,(∀kk,lH a (.i kk (k:Int)) 5=some (.vp (.s l[k].1:: .i .i64 l[k].2.op:: .i .i64 l[k].2.num:: .s l[k].2.name::b::r)))∧IsSl b l[k].2.args.length D∧j3 l[k].2.args D∧mC l[k].2 [.i .i64 l[k].2.op,.i .i64 l[k].2.num,.s l[k].2.name,b]:=by
 obtain⟨c,r,e,I,O⟩:=lS.drop k hk H
 obtain⟨b,D,rfl,K,N⟩:=I.cells
 refine⟨b,D,r,fun kk=> ?_,K,N,I⟩
 rw[J.ia (sz:=5) H.len hk,e];rfl
theorem Pe: ∀{l:Cs} {s:List Nat} {i:Nat},oJ l s=some i→i<l.length
 | [],s,i,h=>by simp[oJ]at h
 |c::cs,s,i,h=>by
  rw[oJ]at h
  split at h
  ·grind
  ·cases r:oJ cs s with
   |none=>simp[r]at h
   |some j=>
    simp[r]at h
    have:=Pe r
    grind
theorem AD(l:Cs)(s:List Nat): ∀n,oJ (l.take n) s=match oJ l s with|some i=>if i<n then some i else none|none=>none:=by
 induction l with
 |nil=>intro n;simp[oJ]
 |cons c l ih=>
  intro n
  cases n with
  |zero=>
   grind [oJ]
  |succ n=>
   grind [oJ,hi]
def MU(ts:List Int):Except Int (List Int)→Except Int (List Int)
 | .error e=> .error e
 | .ok us=> .ok (ts++us)
def ajb:Except Int (List Int)→Out
 | .error _=> .ret
 | .ok _=> .ext 0
theorem XP{cl:List Nat→Int×Int}{scope:Int}{xs:List Ex}{k:Nat}(hk:k<xs.length):rM cl scope (xs.drop k)=if(xs[k].ty cl scope).2≠0 then .error (xs[k].ty cl scope).2 else MU [(xs[k].ty cl scope).1] (rM cl scope (xs.drop (k+1))):=by
 rw[vi hk,rM]
 split
 ·rfl
 ·cases rM cl scope (xs.drop (k+1)) <;> rfl
theorem RX(a b:List Int)(x:Except Int (List Int)):MU a (MU b x)=MU (a++b) x:=by cases x <;> simp[MU]
theorem B6{cl:List Nat→Int×Int}{scope:Int}: ∀{xs:List Ex} {ts:List Int},rM cl scope xs= .ok ts→ts.length=xs.length
 | [],ts,h=>by grind [rM]
 |x::xs,ts,h=>by
  rw[rM]at h
  split at h
  ·cases h
  ·cases hx:rM cl scope xs with
   |error e=>grind
   |ok us=>rw[hx]at h;cases h;simp[B6 hx]
section
variable(l:Cs)(Ic:List (Int×Int))(lT kT eT:T)(cl:List T)(hl:IsSl lT l.length cl)(lX:lS l cl)(hlen:l.length≤qh)(ay9:Ic.length=l.length)(hk:IsSl kT Ic.length (ints (Ic.map (·.1))))(he:IsSl eT Ic.length (ints (Ic.map (·.2))))
include hl hk he
include lX hlen ay9
end
end Go.Proofs.YtcpceiclnbmgiaaGreat
