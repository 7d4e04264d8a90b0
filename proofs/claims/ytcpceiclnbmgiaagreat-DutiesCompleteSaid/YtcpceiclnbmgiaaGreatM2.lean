/- Walks of functions of the program and of the reference, and their plain laws, part 2. Conditions: the theorems' own. -/
import Derived.Test.YtcpceiclnbmgiaaGreatM1
import Derived.KernelRfl
set_option maxRecDepth 100000
set_option linter.unusedSimpArgs false
set_option linter.unusedVariables false
set_option maxHeartbeats 16000000
namespace Go.Proofs.YtcpceiclnbmgiaaGreat
open Go Go.Ev
theorem adb(x:Ex):szP x:=by
 induction x using Ex.ind with
 |h x ih=>
  intro level cs hx hl
  obtain⟨a,D,rfl,F,KT⟩:=hx.cells
  rw[il afi (by simp[Q7]),Ex.sz_eq]
  by_cases r:(16:Int)<(level:Int)
  ·have i:16<level:=by omega
   simp only[qA,seval,Q7,r,i]
  ·have i: ¬16<level:=by omega
   have H:=fun g fr lh sh=>as7 x.args ih a D F KT level (by omega) x.op x.num x.name g fr lh sh
   simp only[qA,seval,Q7,r,i,H 1]
theorem ade(x:Ex)(cs:List T)(hx:mY x cs):be pE 177 [.agg cs] []=some (.tup [.i .i64 ((x.sz 1).1:Int),.i .i64 ((x.sz 1).2:Int)],[]):=by
 have h:=adb x 1 cs hx (by omega)
 obtain⟨a,D,rfl,r,KT⟩:=hx.cells
 rw[il ae1 (by simp[Us])]
 simp only[qA,seval,Us,UZ,r.froz1]at h ⊢
 simp only[qA,seval,h]
theorem vu{op:Int}(i:1≤op)(r:op≤22):op=1∨op=2∨op=3∨op=4∨op=5∨op=6∨op=7∨op=8∨op=9∨op=10∨op=11∨op=12∨op=13∨op=14∨op=15∨op=16∨op=17∨op=18∨op=19∨op=20∨op=21∨op=22:=by omega
theorem NM(op:Int)(n:Nat)(r:1≤op)(D:op≤22):be pE 213 [.i .i64 op,.i .i64 (n:Int)] []=some (.b (lJ op n),[]):=by
 have F:decide ((n:Int)=0)=decide (n=0):=by rw[decide_eq_decide];omega
 have H:decide ((n:Int)=1)=decide (n=1):=by rw[decide_eq_decide];omega
 have I:decide ((n:Int)=2)=decide (n=2):=by rw[decide_eq_decide];omega
 have J:decide ((n:Int)=3)=decide (n=3):=by rw[decide_eq_decide];omega
 have K:decide ((2:Int)≤n)=decide (2≤n):=by rw[decide_eq_decide];omega
 rw[il afm (by simp[UC])]
 rcases vu r D with rfl|rfl|rfl|rfl|rfl|rfl|rfl|rfl|rfl|rfl|rfl|rfl|rfl|rfl|rfl|rfl|rfl|rfl|rfl|rfl|rfl|rfl <;>
  simp only[qA,seval,UC,lJ,F,H,I,J,K,or_true,or_false,or_self]
def adf(op:Int):Int:=if op≤6 then 0 else if op=7∨op=19 then 1 else if op=12∨op=13 then 2 else if op=14∨op=15 then 3 else 2
def adg(op:Int):Int:=if op≤6 then 0 else if op=7∨op=19 then 1 else if op=12∨op=13 then 200 else if op=14∨op=15 then 3 else 2
theorem Yu(op:Int)(r:1≤op)(D:op≤22):be pE 210 [.i .i64 op] []=some (.tup [.i .i64 (adf op),.i .i64 (adg op)],[]):=by
 rw[il afj (by simp[UA])]
 rcases vu r D with rfl|rfl|rfl|rfl|rfl|rfl|rfl|rfl|rfl|rfl|rfl|rfl|rfl|rfl|rfl|rfl|rfl|rfl|rfl|rfl|rfl|rfl <;>
  simp only[qA,seval,UA,adf,adg,or_true,or_false,or_self]
theorem ajZ(op:Int)(n:Nat)(i:1≤op)(r:op≤22)(D:n≤200):lJ op n=true↔ ¬(n:Int)<adf op∧ ¬adg op<(n:Int):=by
 grind [lJ,adf,adg,Int.reduceLE,Int.reduceEq]
theorem Im: ∀{s:List Nat} {i:Nat},pc s=some i→i<s.length
 | [],i,h=>by simp[pc]at h
 |c::cs,i,h=>by
  rw[pc]at h
  split at h
  ·grind
  ·cases r:pc cs with
   |none=>simp[r]at h
   |some j=>
    simp[r]at h
    have:=Im r
    grind
theorem Be{s:List Nat}: ∀(k:Nat),k≤s.length→(∀j (h:j<k) (hl:j<s.length),s[j]≠46)→pc s=(pc (s.drop k)).map (· +k)
 |0,_,_=>by simp
 |k+1,hk,h=>by
  have:=Be (s:=s) k (by omega) fun j D hl=>h j (by omega) hl
  have r:k<s.length:=by omega
  rw[this,List.drop_eq_getElem_cons r,pc,if_neg (h k (by omega) r)]
  cases pc (s.drop (k+1))with
  |none=>rfl
  |some i=>simp;omega
theorem aj0(s:List Nat)(hs:s.length≤pe)(o:Out)(N:o=if pc s=none then .ext 0 else .ret)(fr:Fr)(lh:iq b8)(sh:List b8)(r:an fr 0= .s s)(H:an fr 1= .i .u8 46)(I:an fr 5= .i .i64 0):
  wS 18 rq fr lh sh o∧
  ((∀i,pc s=some i→an (tO pE 18 rq fr lh sh) 4= .i .i64 (i:Int))∧n5 pE 18 rq fr lh sh=lh∧oH pE 18 rq fr lh sh=sh):=by
 refine jJ (P:=fun fr O U=>(∀i,pc s=some i→an fr 4= .i .i64 (i:Int))∧O=lh∧U=sh) (j6 (fun k st=> ∃fr:Fr,st=⟨fr,lh,sh⟩∧an fr 0= .s s∧an fr 1= .i .u8 46∧an fr 5= .i .i64 (k:Int)∧k≤s.length∧ ∀j (h:j<k) (hl:j<s.length),s[j]≠46) _ s.length ?_ ?_ 0 _ (Nat.zero_le _) ⟨fr,rfl,r,H,I,Nat.zero_le _,by simp⟩)
 ·rintro k _ hk ⟨fr,rfl,r,H,I,To,J⟩
  have K:(k:Int)<s.length:=by omega
  have V:=Eh (k:=k) (by omega)
  have D:=Be k To J
  rw[List.drop_eq_getElem_cons hk,pc]at D
  by_cases hc:s[k]=46
  ·right
   have F:(s[k]:Int)=46:=by omega
   rw[if_pos hc]at D
   simp only[Option.map_some,Nat.zero_add]at D
   simp only[qA,seval,rq,r,H,I,K,GG hk,F]
   refine⟨_,_,UE,rfl,by rw[N,D];rfl,fun i hi=> ?_,rfl,rfl⟩
   rw[D]at hi
   cases hi
   simp only[qA,seval]
  ·left
   have F: ¬(s[k]:Int)=46:=by omega
   simp only[qA,seval,rq,r,H,I,K,GG hk,F,V]
   refine⟨_,rfl,_,rfl, ?_, ?_, ?_,by omega, ?_⟩
   all_goals first|(simp only[qA,seval,r,H];done)|skip
   grind
 ·rintro _ ⟨fr,rfl,r,H,I,To,J⟩
  have D:=Be s.length To J
  rw[List.drop_length,pc]at D
  simp only[qA,seval,rq,r,I,Int.lt_irrefl]
  grind
def FX(s:List Nat):Int:=match pc s with|none=> -1|some i=>(i:Int)
theorem Yv(s:List Nat)(hs:s.length≤pe):be pE 169 [.s s,.i .u8 46] []=some (.i .i64 (FX s),[]):=by
 have r:=fun fr lh sh=>aj0 s hs _ rfl fr lh sh
 rw[il aeW (by simp[QY])]
 unfold FX
 cases D:pc s with
 |none=>
  simp only[D,if_true,reduceCtorEq,false_implies,implies_true,true_and]at r
  simp only[qA,seval,QY,r]
 |some i=>
  simp only[D,reduceCtorEq,if_false,Option.some.injEq,forall_eq']at r
  simp only[qA,seval,QY,r]
theorem GX{fr:Fr}{r:List Nat}{x:iF}{k:IntKind}{j:Nat}(h:rd fr x= .i k (j:Int))(D:j≤r.length):D5 fr (.s r) (some x) none=some (.s (r.drop j)):=by
 grind [D5,kN,HM,List.take_of_length_le]
theorem PX{fr:Fr}{r:List Nat}{x:iF}{k:IntKind}{j:Nat}(h:rd fr x= .i k (j:Int))(D:j≤r.length):D5 fr (.s r) none (some x)=some (.s (r.take j)):=by
 grind [D5,kN,HM]
theorem BW{s:List Nat}{i:Nat}(h:pc s=some i):tS s=(ot (s.take i)&&ot (s.drop (i+1))):=by unfold tS;rw[h]
theorem BX{s:List Nat}(h:pc s=none):tS s=ou s:=by unfold tS;rw[h]
theorem NN(s:List Nat)(hs:s.length≤pe):be pE 211 [.s s] []=some (.b (tS s),[]):=by
 have r:=Yv s hs
 unfold FX at r
 rw[il afk (by simp[Q8])]
 cases D:pc s with
 |none=>
  simp only[D]at r
  rw[BX D]
  simp only[qA,seval,Q8,r,aeX,qJ,Gh]
 |some i=>
  simp only[D]at r
  rw[BW D]
  have hi:=Im D
  have J: ¬(i:Int)<0:=by omega
  have I:=Eh (k:=i) (by omega)
  have F:i≤s.length:=by omega
  have Kb:i+1≤s.length:=by omega
  generalize i+1=j at I Kb ⊢
  have H:=fun fr x (h:rd fr x= .i .i64 (j:Int))=>GX h Kb
  have Fy:=fun fr x (h:rd fr x= .i .i64 (i:Int))=>PX h F
  cases K:ot (s.take i) <;> simp only[qA,seval,Q8,r,aeX,KO,aeZ,J,I,H,Fy,K]
theorem Lx: ∀s:List Nat,idxN s 46=FX s
 | []=>rfl
 |c::cs=>by
  rw[idxN,Lx cs]
  unfold FX
  rw[pc]
  by_cases h:c=46
  ·simp[h]
  ·rw[if_neg h,if_neg h]
   cases pc cs with
   |none=>rfl
   |some i=>simp only[Option.map_some];rw[if_neg (by omega)];omega
theorem agi{z:Nat}{fr:Fr}{lh:iq b8}{sh:List b8}{s:List Nat}:je pE (be pE) z ⟨fr,lh,sh⟩ 253 [.s s,.s [46]]=some (.i .i64 (FX s),⟨fr,lh,sh⟩):=by
 rw[VQ (g:=idxE) rfl rfl,zg (by rfl),←Lx]
 rfl
theorem SM{s:List Nat}{i:Nat}(h:pc s=some i):FX s=(i:Int):=by unfold FX;rw[h]
theorem SN{s:List Nat}(h:pc s=none):FX s= -1:=by unfold FX;rw[h]
theorem atY{s:List Nat}(i:pc s=none):be pE 227 [.s s,.s [46]] []=some (.tup [.s s,.s [],.b false],[]):=by
 have r:be pE 241 [.s s,.s [46]] []=some (.tup [.s s,.s [],.b false],[]):=by
  rw[il U3 (by simp[My])]
  simp only[qA,seval,D5,My,agi,SN i]
 rw[il U0 (by simp[Mx])]
 simp only[qA,seval,Mx,r,afA]
theorem atZ{s:List Nat}{i:Nat}(hs:s.length≤pe)(F:pc s=some i):be pE 227 [.s s,.s [46]] []=some (.tup [.s (s.take i),.s (s.drop (i+1)),.b true],[]):=by
 have hi:=Im F
 have I:(0:Int)≤i:=by omega
 have H:=Eh (k:=i) (by omega)
 have r:i≤s.length:=by omega
 have Kb:i+1≤s.length:=by omega
 generalize i+1=j at H Kb ⊢
 have D:=fun fr x (h:rd fr x= .i .i64 (j:Int))=>GX h Kb
 have Fy:=fun fr x (h:rd fr x= .i .i64 (i:Int))=>PX h r
 have J:be pE 241 [.s s,.s [46]] []=some (.tup [.s (s.take i),.s (s.drop j),.b true],[]):=by
  rw[il U3 (by simp[My])]
  simp only[qA,seval,My,agi,SM F,I,H,D,Fy]
 rw[il U0 (by simp[Mx])]
 simp only[qA,seval,Mx,J,afA]
theorem NO(s:List Nat)(hs:s.length≤pe):be pE 214 [.s s] []=some (.b (tS s),[]):=by
 rw[il afn (by simp[Q9])]
 cases r:pc s with
 |none=>
  rw[BX r]
  simp only[qA,seval,Q9,atY r,afr,sX,yx]
 |some i=>
  have hc:=atZ hs r
  rw[BW r]
  generalize i+1=j at hc ⊢
  cases D:ot (s.take i) <;> simp only[qA,seval,Q9,hc,afr,zr,JX,D]
mutual
def Ex.sm:Ex→Prop
 | .mk _ _ name args=>name.length≤pe∧Yw args
def Yw:List Ex→Prop
 | []=>True
 |x::xs=>x.sm∧Yw xs
end
theorem Ex.sm_eq(x:Ex):x.sm↔(x.name.length≤pe∧Yw x.args):=by obtain⟨_,_,_,_⟩:=x;rw[Ex.sm];rfl
theorem Io: ∀{xs:List Ex},Yw xs↔ ∀x∈xs,x.sm
 | []=>by simp[Yw]
 |x::xs=>by rw[Yw,Io (xs:=xs)];simp
def wfP(y:Ex):Prop:= ∀cs:List T,mY y cs→y.nodes≤100000→y.sm→be pE 181 [.agg cs] []=some (.b y.wf,[])
theorem Ly{xs:List Ex}{k:Nat}(hk:k<xs.length):B9 (xs.drop k)=(xs[k].wf&&B9 (xs.drop (k+1))):=by rw[v9 hk,B9]
theorem wf1(xs:List Ex)(ih: ∀y∈xs,wfP y)(a:T)(J:List T)(N:IsSl a xs.length J)(hx:ku xs J)(hlen:jQ xs≤100000)(O:Yw xs)(fr:Fr)(lh:iq b8)(sh:List b8)
  (GY:an fr 59=a) (Fp:an fr 60= .i .i64 (xs.length:Int)) (GZ:an fr 61= .i .i64 0):
  LpC pE 69 yo fr lh sh 1 2 (B9 xs=true) (.b false) (fun F H=>H=sh):=by
 refine xz Q2 (by simp[iW]) (fun k f F H=>an f 61= .i .i64 (k:Int)∧H=sh∧B9 xs=B9 (xs.drop k)) xs.length ⟨GZ,rfl,rfl⟩ ?_ ?_
 ·rintro k f F _ hk D ⟨I,rfl,hr⟩
  have U:(k:Int)<xs.length:=by omega
  have O3:=mn xs
  have V:=pb (List.getElem_mem hk)
  have W:=ji (k:=k) (oy (by omega))
  obtain⟨b,cb,r,X,Y,sx,Z⟩:=si N hx k hk
  have K:=kq (ih xs[k] (List.getElem_mem hk) _ Z (by omega) (Io.1 O _ (List.getElem_mem hk)))
  rw[Ly hk]at hr
  simp only[qB,seval,gd,yo,D,GY,Fp,I,U,X,W,K,ae7,Y.froz1]
  clear D K
  grind
 ·rintro f F _ D ⟨I,rfl,hr⟩
  rw[List.drop_length,B9]at hr
  simp only[qB,seval,gd,yo,D,Fp,I,Int.lt_irrefl,hr]
theorem at0(x:Ex):wfP x:=by
 induction x using Ex.ind with
 |h x ih=>
  intro cs hx K hs
  obtain⟨a,I,rfl,F,KT⟩:=hx.cells
  rw[il ae6 (by simp[Q3]),Ex.wf_eq]
  have J:=x.nodes_eq
  obtain⟨i,Fy⟩:=(Ex.sm_eq x).1 hs
  have r:=wf1 x.args ih a I F KT (by omega) Fy
  have D:=kq (NO x.name i)
  generalize x.op=op,x.num=num,x.name=name at*
  clear ih
  have N:Eg op=if op=1∨op=2 then 1099511627776 else if op=3 then 1439 else 0:=rfl
  unfold tU
  by_cases h:1≤op∧op≤22
  ·have H:=kq (NM op x.args.length h.1 h.2)
   simp only[qB,seval,Q3,F.lenI,H,aq4,D,aq5,r]
   clear r H D
   repeat' (refine ifl (fun _=> ?_) (fun _=> ?_))
   all_goals refine congrArg (fun b=>some (T.b b,[])) ?_
   all_goals symm
   all_goals simp only[Bool.and_eq_true,Bool.and_eq_false_iff,decide_eq_true_eq,decide_eq_false_iff_not]
   all_goals grind
  ·simp only[qB,seval,Q3]
   clear r D
   grind
def ndP(y:Ex):Prop:= ∀cs:List T,mY y cs→y.nodes≤200→y.sm→be pE 178 [.agg cs] []=some (.b y.wf,[])
theorem nd1(xs:List Ex)(ih: ∀y∈xs,ndP y)(a:T)(J:List T)(F:IsSl a xs.length J)(hx:ku xs J)(hlen:jQ xs≤200)(V:Yw xs)(op num:Int)(s:List Nat)(g:Nat)(fr:Fr)(lh:iq b8)(sh:List b8)
  (K:an fr 1= .ptr .L 1 g 0) (W:an fr 6= .i .i64 0) (N:b7 lh 1=⟨g,.cells [.i .i64 op,.i .i64 num,.s s,a] 0 true⟩):
  LpC pE 84 yn fr lh sh 1 2 (B9 xs=true) (.b false) (fun O H=>H=sh):=by
 refine xz Q0 (by simp[iW]) (fun k f O H=>an f 6= .i .i64 (k:Int)∧O=lh∧H=sh∧B9 xs=B9 (xs.drop k)) xs.length ⟨W,rfl,rfl,rfl⟩ ?_ ?_
 ·rintro k f _ _ hk D ⟨I,rfl,rfl,hr⟩
  have X:(k:Int)<xs.length:=by omega
  have O3:=mn xs
  have Y:=pb (List.getElem_mem hk)
  have Z:=ji (k:=k) (oy (by omega))
  obtain⟨b,cb,r,jg,m9,sx,hb⟩:=si F hx k hk
  have U:=kq (ih xs[k] (List.getElem_mem hk) _ hb (by omega) (Io.1 V _ (List.getElem_mem hk)))
  rw[Ly hk]at hr
  simp only[qB,seval,gd,yn,D,K,I,N,F.lenI,X,jg,Z,U,ae3,m9.froz1]
  clear D U
  grind
 ·rintro f _ _ D ⟨I,rfl,rfl,hr⟩
  rw[List.drop_length,B9]at hr
  simp only[qB,seval,gd,yn,D,K,I,N,F.lenI,Int.lt_irrefl,hr]
theorem at1(x:Ex):ndP x:=by
 induction x using Ex.ind with
 |h x ih=>
  intro cs hx K hs
  obtain⟨a,I,rfl,F,KT⟩:=hx.cells
  rw[il ae2 (by simp[Q1]),Ex.wf_eq]
  have J:=x.nodes_eq
  have N:=mn x.args
  obtain⟨i,Fy⟩:=(Ex.sm_eq x).1 hs
  have r:=nd1 x.args ih a I F KT (by omega) Fy x.op x.num x.name 1
  have D:=kq (NN x.name i)
  generalize x.op=op,x.num=num,x.name=name at*
  clear ih
  have O:Eg op=if op=1∨op=2 then 1099511627776 else if op=3 then 1439 else 0:=rfl
  unfold tU
  by_cases h:1≤op∧op≤22
  ·have H:=Yu op h.1 h.2
   have KU:=ajZ op x.args.length h.1 h.2 (by omega)
   simp only[qB,seval,Q1,F.lenI,H,aq1,D,aq2,r]
   clear r H D
   repeat' (refine ifl (fun _=> ?_) (fun _=> ?_))
   all_goals refine congrArg (fun b=>some (T.b b,[])) ?_
   all_goals symm
   all_goals simp only[Bool.and_eq_true,Bool.and_eq_false_iff,decide_eq_true_eq,decide_eq_false_iff_not]
   all_goals grind
  ·simp only[qB,seval,Q1]
   clear r D
   grind
theorem Yx{x:Ex}(i:jy x=0):x.nodes≤200:=by
 unfold jy at i
 by_cases h:big x
 ·rw[if_pos h]at i;cases i
 ·unfold big at h;omega
theorem SO(x:Ex)(cs:List T)(hx:mY x cs)(O:0≤x.nodes)(hs:x.sm): ∃s,be pE 141 [.agg cs] []=some (.i .i64 (jy x),s):=by
 obtain⟨U,r,_⟩:=acF x 1 0 cs hx (by omega) (by omega)
 have F:=fun h=>at0 x cs hx h hs
 have KU:kG 0 1 x↔ ¬big x:=by unfold kG big;omega
 obtain⟨a,V,rfl,H,KT⟩:=hx.cells
 rw[il aeH (by simp[QT])]
 unfold Ei at r
 have I:((0:Nat):Int)=0:=rfl
 have J:((1:Nat):Int)=1:=rfl
 rw[I,J]at r
 unfold jy
 by_cases D:big x
 ·have N: ¬kG 0 1 x:=fun h=>KU.1 h D
  rw[decide_eq_false N]at r
  simp only[qA,seval,jl,j3,QT,r,OC,H.kept1,D]
  exact⟨_,rfl⟩
 ·have K:=F (by unfold big at D;omega)
  rw[decide_eq_true (KU.2 D)]at r
  cases Bf:x.wf <;> rw[Bf]at K <;> simp only[qA,seval,jl,j3,QT,r,OC,K,ae7,H.kept1,H.froz1,D] <;> exact⟨_,rfl⟩
theorem tf{z:Nat}{fr:Fr}{lh:iq b8}{sh:List b8}(x:Ex)(cs:List T)(hx:mY x cs)(r:0≤x.nodes)(hs:x.sm):je pE (be pE) z ⟨fr,lh,sh⟩ 141 [.agg cs]=some (.i .i64 (jy x),⟨fr,lh,sh⟩):=by
 obtain⟨s,h⟩:=SO x cs hx r hs
 obtain⟨a,F,rfl,D,KT⟩:=hx.cells
 rw[aqM (by simp[KA,zi,HN,D.froz1]),h];rfl
theorem wb(x:Ex)(cs:List T)(hx:mY x cs)(hs:x.sm):be pE 131 [.agg cs] []=some (.i .i64 (jy x),[]):=by
 have F:=ade x cs hx
 have B4:=ajc x
 have K:=at1 x cs hx
 obtain⟨a,N,rfl,H,KT⟩:=hx.cells
 rw[il aex (by simp[Mt])]
 unfold jy
 generalize x.sz 1=p at*
 by_cases I:(200:Int)<(p.1:Int)
 ·have r:big x:=B4.1 (by omega)
  simp only[qA,seval,Mt,F,UU,H.froz1,r,I]
 ·by_cases J:(16:Int)<(p.2:Int)
  ·have r:big x:=B4.1 (by omega)
   simp only[qA,seval,Mt,F,UU,H.froz1,r,I,J]
  ·have r: ¬big x:=fun h=>by have:=B4.2 h;omega
   have D:=K (by unfold big at r;omega) hs
   cases Bf:x.wf <;> rw[Bf]at D <;> simp only[qA,seval,Mt,F,UU,H.froz1,r,I,J,D,ae3]
theorem kO(l:List Int):(ints l).length=l.length:=by simp[ints]
theorem oX(l:List Int)(k:Nat)(hk:k<l.length):(ints l).drop k=T.i .i64 l[k]::(ints l).drop (k+1):=by
 rw[List.drop_eq_getElem_cons (by rw[kO];exact hk)];simp[ints]
theorem NP{a:T}{ts:List Int}(r:IsSl a ts.length (ints ts)){k:Nat}(hk:k<ts.length)(kk:IntKind):lY a (.i kk (k:Int)) 1=some (.vp (T.i .i64 ts[k]::(ints ts).drop (k+1))):=by
 rw[r.ia (sz:=1) (by rw[kO];omega) hk,Nat.mul_one,oX ts k hk]
theorem SP{ts:List Int}{k:Nat}{t:Int}(hk:k<ts.length):ow (ts.drop k) t=(decide (ts[k]=t)&&ow (ts.drop (k+1)) t):=by
 unfold ow;rw[List.drop_eq_getElem_cons hk,List.all_cons]
theorem at2(ts:List Int)(t:Int)(a:T)(K:IsSl a ts.length (ints ts))(hlen:ts.length≤qK)(o:Out)(N:o=if ow ts t then .ext 0 else .ret)(fr:Fr)(lh:iq b8)(sh:List b8)
  (F:an fr 1= .i .i64 t) (H:an fr 7=a) (D:an fr 8= .i .i64 (ts.length:Int)) (I:an fr 9= .i .i64 0):
  wS 17 rD fr lh sh o∧
  ((ow ts t=false→an (tO pE 17 rD fr lh sh) 4= .b false)∧n5 pE 17 rD fr lh sh=lh∧oH pE 17 rD fr lh sh=sh):=by
 refine jJ (P:=fun fr U V=>(ow ts t=false→an fr 4= .b false)∧U=lh∧V=sh) (j6 (fun k st=> ∃(fr:Fr),st=⟨fr,lh,sh⟩∧an fr 1= .i .i64 t∧an fr 7=a∧an fr 8= .i .i64 (ts.length:Int)∧an fr 9= .i .i64 (k:Int)∧ow ts t=ow (ts.drop k) t) _ ts.length ?_ ?_ 0 _ (Nat.zero_le _) ⟨fr,rfl,F,H,D,I,rfl⟩)
 ·rintro k _ hk ⟨fr,rfl,F,H,D,I,r⟩
  have O:(k:Int)<ts.length:=by omega
  have W:=ji (k:=k) (by omega)
  rw[SP hk]at r
  by_cases J:ts[k]=t
  ·left
   rw[decide_eq_true J,Bool.true_and]at r
   simp only[qA,seval,rD,F,H,D,I,O,NP K hk,W,J]
   refine⟨_,rfl,_,rfl, ?_, ?_, ?_, ?_,r⟩ <;> simp only[qA,seval,F,H,D]
  ·right
   rw[decide_eq_false J,Bool.false_and]at r
   simp only[qA,seval,rD,F,H,D,I,O,NP K hk,J]
   refine⟨_,_,UE,rfl,by rw[N,r];rfl,fun _=>by simp only[qA,seval],rfl,rfl⟩
 ·rintro _ ⟨fr,rfl,F,H,D,I,r⟩
  rw[List.drop_length]at r
  have r:ow ts t=true:=r
  simp only[qA,seval,rD,D,I,Int.lt_irrefl]
  exact⟨_,_,uO,rfl,by rw[N,r];rfl,fun hc=>(by rw[r]at hc;cases hc),rfl,rfl⟩
theorem PY(ts:List Int)(t:Int)(a:T)(r:IsSl a ts.length (ints ts))(hlen:ts.length≤qK):be pE 230 [a,.i .i64 t] []=some (.b (ow ts t),[]):=by
 have D:=fun fr lh sh=>at2 ts t a r hlen _ rfl fr lh sh
 rw[il afw (by simp[UD])]
 cases h:ow ts t <;> simp only[h]at D <;> simp only[qA,seval,UD,r.lenI,D]
theorem G0(k:Int):be pE 229 [.i .i64 k] []=some (.b (decide (k=1∨k=2)),[]):=by
 rw[il U1 (by simp[Rc])]
 by_cases r:k=1
 ·simp only[qA,seval,Rc,r,true_or]
 ·by_cases D:k=2 <;> simp only[qA,seval,Rc,r,D,or_true,or_self]
theorem EL(op a b:Int):be pE 231 [.i .i64 op,.i .i64 a,.i .i64 b] []=some (.i .i64 (KS op a b),[]):=by
 rw[il U2 (by simp[AB])]
 unfold KS
 by_cases a1:a=1
 ·subst a1
  by_cases r:b=1
  ·simp only[qA,seval,AB,r]
  ·by_cases D:op=10
   ·by_cases H:b=2 <;> simp only[qA,seval,AB,r,H,D]
   ·by_cases F:op=11 <;> simp only[qA,seval,AB,r,D,F]
 ·by_cases a2:a=2
  ·subst a2
   by_cases r:b=1
   ·simp only[qA,seval,AB,r]
   ·by_cases D:op=10
    ·simp only[qA,seval,AB,r,D]
    ·by_cases F:op=11
     ·by_cases H:b=2 <;> simp only[qA,seval,AB,r,H,F]
     ·simp only[qA,seval,AB,r,D,F]
  ·by_cases D:op=10
   ·simp only[qA,seval,AB,a1,a2,D]
   ·by_cases F:op=11 <;> simp only[qA,seval,AB,a1,a2,D,F]
theorem G1{a:T}{t:Int}{ts:List Int}(r:IsSl a (t::ts).length (ints (t::ts))): ∃ex,a= .sl (.i .i64 t::ints ts) (ts.length+1) ex:=by
 rcases r with⟨_,h,_⟩|⟨ex,h⟩
 ·simp at h
 ·exact⟨ex,h⟩
theorem B8{ts:List Int}(h:ts.length=1): ∃a,ts= [a]:=by
 match ts,h with
 | [a],_=>grind
theorem uH{ts:List Int}(h:ts.length=2): ∃a b,ts= [a,b]:=by
 match ts,h with
 | [a,b],_=>grind
theorem Yy{ts:List Int}(h:ts.length=3): ∃a b c,ts= [a,b,c]:=by
 match ts,h with
 | [a,b,c],_=>grind
theorem wc(t:Int)(ts:List Int)(k:Int):ow (t::ts) k=(decide (t=k)&&ow ts k):=rfl
theorem Yz(t:Int)(ts:List Int):(if ow (t::ts) 1 then(1:Int)else if ow (t::ts) 2 then 2 else 0)=if(t=1∨t=2)∧ow (t::ts) t=true then t else 0:=by
 rw[wc,wc,wc,decide_eq_true (p:=t=t) rfl,Bool.true_and]
 grind
theorem tg(op k:Int)(ts:List Int)(a:T)(r:IsSl a ts.length (ints ts))(hl:ts.length≤qK)(h:op=15∧k=3∨(op=19∨op=20∨op=21∨op=22)∧k=4):be pE 232 [.i .i64 op,a] []=some (.b (ow ts k),[]):=by
 have D:=PY ts k a r hl
 rw[il OE (by simp[Ft])]
 rcases h with⟨rfl,rfl⟩|⟨rfl|rfl|rfl|rfl,rfl⟩ <;> simp only[qA,seval,Ft,D,afx,r.froz]
theorem G2(op x y:Int)(a:T)(D:IsSl a 2 (ints [x,y]))(h:op=16∨op=17):be pE 232 [.i .i64 op,a] []=some (.b (decide ((x=1∨x=2)∧x=y)),[]):=by
 obtain⟨ex,rfl⟩:=G1 (ts:= [y]) D
 have r:=G0 x
 rw[il OE (by simp[Ft])]
 by_cases hx:x=1∨x=2
 ·rw[decide_eq_true hx]at r
  rcases h with rfl|rfl <;> simp only[qA,seval,oq,jI,iE,Ft,r,OD,afv,ints,hx]
 ·rw[decide_eq_false hx]at r
  rcases h with rfl|rfl <;> simp only[qA,seval,oq,jI,Ft,r,OD,afv,ints,hx]
theorem YA(x y:Int)(a:T)(r:IsSl a 2 (ints [x,y])):be pE 232 [.i .i64 18,a] []=some (.b (decide (x=y)),[]):=by
 obtain⟨ex,rfl⟩:=G1 (ts:= [y]) r
 rw[il OE (by simp[Ft])]
 simp only[qA,seval,oq,jI,Ft,ints]
theorem NQ(op:Int)(ts:List Int)(a:T)(r:IsSl a ts.length (ints ts))(hl:ts.length≤qK)(N:1≤op)(O:op≤22)(W:op≠6)(D:lJ op ts.length=true):be pE 216 [.i .i64 op,a] []=some (.i .i64 (tV op ts),[]):=by
 rw[il afp (by simp[sy])]
 have FO: ∀t DA,ts=t::DA→(op=7∨op=8∨op=9∨op=12∨op=13)→AS sy.res sy.eff (DC pE sy.n sy.code ⟨p6 [.i .i64 op,a],.nil,[]⟩)=some (.i .i64 (if(t=1∨t=2)∧ow ts t=true then t else 0),[]):=by
  rintro t DA rfl F
  have J:=PY (t::DA) t a r hl
  have H:=G0 t
  obtain⟨ex,rfl⟩:=G1 r
  have K:0<DA.length+1:=Nat.succ_pos _
  by_cases hx:t=1∨t=2
  ·rw[decide_eq_true hx]at H
   cases hk:ow (t::DA) t <;> rw[hk]at J <;> rcases F with rfl|rfl|rfl|rfl|rfl <;>
    simp only[qA,seval,oq,sy,H,OD,J,afx,hx,K]
  ·rw[decide_eq_false hx]at H
   rcases F with rfl|rfl|rfl|rfl|rfl <;> simp only[qA,seval,oq,sy,H,OD,hx,K]
 have Lz: ∀b:Bool,be pE 232 [.i .i64 op,a] []=some (.b b,[])→(op=15∨op=16∨op=17∨op=18∨op=19∨op=20∨op=21∨op=22)→AS sy.res sy.eff (DC pE sy.n sy.code ⟨p6 [.i .i64 op,a],.nil,[]⟩)=some (.i .i64 (if b=true then 4 else 0),[]):=by
  intro b U F
  cases b <;> rcases F with rfl|rfl|rfl|rfl|rfl|rfl|rfl|rfl <;> simp only[qA,seval,sy,U,aq7,r.froz]
 rcases vu N O with rfl|rfl|rfl|rfl|rfl|rfl|rfl|rfl|rfl|rfl|rfl|rfl|rfl|rfl|rfl|rfl|rfl|rfl|rfl|rfl|rfl|rfl
 iterate 5 ·simp only[qA,seval,sy,tV]
 ·grind
 ·obtain⟨x,rfl⟩:=B8 (by simpa[lJ]using D)
  rw[FO x [] rfl (by simp),←Yz];rfl
 ·obtain⟨x,y,rfl⟩:=uH (by simpa[lJ]using D)
  rw[FO x [y] rfl (by simp),←Yz];rfl
 ·obtain⟨x,y,rfl⟩:=uH (by simpa[lJ]using D)
  rw[FO x [y] rfl (by simp),←Yz];rfl
 ·obtain⟨x,y,rfl⟩:=uH (by simpa[lJ]using D)
  obtain⟨ex,rfl⟩:=G1 r
  have I:=EL 10 x y
  simp only[qA,seval,oq,jI,iE,sy,ints,I,afy,afz];rfl
 ·obtain⟨x,y,rfl⟩:=uH (by simpa[lJ]using D)
  obtain⟨ex,rfl⟩:=G1 r
  have I:=EL 11 x y
  simp only[qA,seval,oq,jI,iE,sy,ints,I,afy,afz];rfl
 ·match ts,D with
  |x::ts,_=>rw[FO x ts rfl (by simp),←Yz];rfl
 ·match ts,D with
  |x::ts,_=>rw[FO x ts rfl (by simp),←Yz];rfl
 ·obtain⟨x,y,z,rfl⟩:=Yy (by simpa[lJ]using D)
  obtain⟨ex,rfl⟩:=G1 r
  have hr:tV 14 [x,y,z]=if x=4∧y=z then y else 0:=rfl
  rw[hr]
  by_cases hx:x=4
  ·by_cases V:y=z <;> simp only[qA,seval,oq,jI,iE,sy,ints,hx,V]
  ·simp only[qA,seval,oq,jI,iE,sy,ints,hx]
 ·exact Lz _ (tg 15 3 ts a r hl (by simp)) (by simp)
 ·obtain⟨x,y,rfl⟩:=uH (by simpa[lJ]using D)
  rw[Lz _ (G2 16 x y a r (by simp)) (by simp)]
  have hr:tV 16 [x,y]=if(x=1∨x=2)∧x=y then 4 else 0:=rfl
  rw[hr];simp only[decide_eq_true_eq]
 ·obtain⟨x,y,rfl⟩:=uH (by simpa[lJ]using D)
  rw[Lz _ (G2 17 x y a r (by simp)) (by simp)]
  have hr:tV 17 [x,y]=if(x=1∨x=2)∧x=y then 4 else 0:=rfl
  rw[hr];simp only[decide_eq_true_eq]
 ·obtain⟨x,y,rfl⟩:=uH (by simpa[lJ]using D)
  rw[Lz _ (YA x y a r) (by simp)]
  have hr:tV 18 [x,y]=if x=y then 4 else 0:=rfl
  rw[hr];simp only[decide_eq_true_eq]
 ·exact Lz _ (tg 19 4 ts a r hl (by simp)) (by simp)
 ·exact Lz _ (tg 20 4 ts a r hl (by simp)) (by simp)
 ·exact Lz _ (tg 21 4 ts a r hl (by simp)) (by simp)
 ·exact Lz _ (tg 22 4 ts a r hl (by simp)) (by simp)
def mh:Cs→List T→Prop
 | [],cs=>cs= []
 |c::l,cs=> ∃ex r,cs=(T.s c.1::ex)++r∧mY c.2 ex∧mh l r
theorem mh.len: ∀{l:Cs} {cs:List T},mh l cs→cs.length=l.length*5
 | [],cs,h=>by grind [mh]
 |c::l,cs,h=>by
  rw[mh]at h
  obtain⟨ex,r,rfl,i,D⟩:=h
  rw[List.length_append,List.length_cons,i.len,D.len,List.length_cons];omega
theorem mh.drop: ∀{l:Cs} {cs:List T} (k:Nat) (hk:k<l.length),mh l cs→ ∃ex r,cs.drop (k*5)=(T.s l[k].1::ex)++r∧mY l[k].2 ex∧mh (l.drop (k+1)) r
 | [],cs,k,hk,h=>by simp at hk
 |x::xs,cs,0,hk,h=>by
  grind [mh]
 |x::xs,cs,k+1,hk,h=>by
  rw[mh]at h
  obtain⟨c,r,rfl,i,D⟩:=h
  obtain⟨F,H,e,I,J⟩:=mh.drop k (by simpa using hk) D
  refine⟨F,H, ?_,I,by simpa using J⟩
  have:(k+1)*5=(T.s x.1::c).length+k*5:=by rw[List.length_cons,i.len];omega
  grind [List.drop_append,Nat.add_sub_cancel_left,List.drop_eq_nil_of_le]
theorem oE{l:Cs}{a:T}{F:List T}(J:IsSl a l.length F)(H:mh l F)(k:Nat)(hk:k<l.length):
  ∃b D r,(∀kk,lY a (.i kk (k:Int)) 5=some (.vp (.s l[k].1:: .i .i64 l[k].2.op:: .i .i64 l[k].2.num:: .s l[k].2.name::b::r)))∧IsSl b l[k].2.args.length D∧ku l[k].2.args D∧mY l[k].2 [.i .i64 l[k].2.op,.i .i64 l[k].2.num,.s l[k].2.name,b]:=by
 obtain⟨c,r,e,I,O⟩:=mh.drop k hk H
 obtain⟨b,D,rfl,K,N⟩:=I.cells
 refine⟨b,D,r,fun kk=> ?_,K,N,I⟩
 rw[J.ia (sz:=5) H.len hk,e];rfl
theorem PZ: ∀{l:Cs} {s:List Nat} {i:Nat},pd l s=some i→i<l.length
 | [],s,i,h=>by simp[pd]at h
 |c::cs,s,i,h=>by
  rw[pd]at h
  split at h
  ·grind
  ·cases r:pd cs s with
   |none=>simp[r]at h
   |some j=>
    simp[r]at h
    have:=PZ r
    grind
theorem Bg(l:Cs)(s:List Nat): ∀n,pd (l.take n) s=match pd l s with|some i=>if i<n then some i else none|none=>none:=by
 induction l with
 |nil=>intro n;simp[pd]
 |cons c l ih=>
  intro n
  cases n with
  |zero=>
   grind [pd]
  |succ n=>
   grind [pd,hi]
def NR(ts:List Int):Except Int (List Int)→Except Int (List Int)
 | .error e=> .error e
 | .ok us=> .ok (ts++us)
def aj1:Except Int (List Int)→Out
 | .error _=> .ret
 | .ok _=> .ext 0
theorem YB{cl:List Nat→Int×Int}{scope:Int}{xs:List Ex}{k:Nat}(hk:k<xs.length):sw cl scope (xs.drop k)=if(xs[k].ty cl scope).2≠0 then .error (xs[k].ty cl scope).2 else NR [(xs[k].ty cl scope).1] (sw cl scope (xs.drop (k+1))):=by
 rw[v9 hk,sw]
 split
 ·rfl
 ·cases sw cl scope (xs.drop (k+1)) <;> rfl
theorem SQ(a b:List Int)(x:Except Int (List Int)):NR a (NR b x)=NR (a++b) x:=by cases x <;> simp[NR]
theorem CQ{cl:List Nat→Int×Int}{scope:Int}: ∀{xs:List Ex} {ts:List Int},sw cl scope xs= .ok ts→ts.length=xs.length
 | [],ts,h=>by grind [sw]
 |x::xs,ts,h=>by
  rw[sw]at h
  split at h
  ·cases h
  ·cases hx:sw cl scope xs with
   |error e=>grind
   |ok us=>rw[hx]at h;cases h;simp[CQ hx]
section
variable(l:Cs)(IY:List (Int×Int))(lT kT eT:T)(cl:List T)(hl:IsSl lT l.length cl)(mJ:mh l cl)(hlen:l.length≤qK)(aAt:IY.length=l.length)(hk:IsSl kT IY.length (ints (IY.map (·.1))))(he:IsSl eT IY.length (ints (IY.map (·.2))))
include hl hk he
include mJ hlen aAt
end
end Go.Proofs.YtcpceiclnbmgiaaGreat
