/- Walks of functions of the program and of the reference, and their plain laws, part 2. Conditions: the theorems' own. -/
import Derived.Test.YtcpceiclnbmgiaaGreatM1
import Derived.KernelRfl
set_option maxRecDepth 100000
set_option linter.unusedSimpArgs false
set_option linter.unusedVariables false
set_option maxHeartbeats 16000000
namespace Go.Proofs.YtcpceiclnbmgiaaGreat
open Go Go.Ev
theorem acV(x:Ex):szP x:=by
 induction x using Ex.ind with
 |h x ih=>
  intro level cs hx hl
  obtain⟨a,D,rfl,F,KE⟩:=hx.cells
  rw[il aeW (by simp[QN]),Ex.sz_eq]
  by_cases r:(16:Int)<(level:Int)
  ·have i:16<level:=by omega
   simp only[qA,seval,QN,r,i]
  ·have i: ¬16<level:=by omega
   have H:=fun g fr lh sh=>asM x.args ih a D F KE level (by omega) x.op x.num x.name g fr lh sh
   simp only[qA,seval,QN,r,i,H 1]
theorem acW(x:Ex)(cs:List T)(hx:mU x cs):be pE 177 [.agg cs] []=some (.tup [.i .i64 ((x.sz 1).1:Int),.i .i64 ((x.sz 1).2:Int)],[]):=by
 have h:=acV x 1 cs hx (by omega)
 obtain⟨a,D,rfl,r,KE⟩:=hx.cells
 rw[il aeF (by simp[T1])]
 simp only[qA,seval,T1,Uy,r.froz1]at h ⊢
 simp only[qA,seval,h]
theorem uZ{op:Int}(i:1≤op)(r:op≤22):op=1∨op=2∨op=3∨op=4∨op=5∨op=6∨op=7∨op=8∨op=9∨op=10∨op=11∨op=12∨op=13∨op=14∨op=15∨op=16∨op=17∨op=18∨op=19∨op=20∨op=21∨op=22:=by omega
theorem No(op:Int)(n:Nat)(r:1≤op)(D:op≤22):be pE 213 [.i .i64 op,.i .i64 (n:Int)] []=some (.b (lF op n),[]):=by
 have F:decide ((n:Int)=0)=decide (n=0):=by rw[decide_eq_decide];omega
 have H:decide ((n:Int)=1)=decide (n=1):=by rw[decide_eq_decide];omega
 have I:decide ((n:Int)=2)=decide (n=2):=by rw[decide_eq_decide];omega
 have J:decide ((n:Int)=3)=decide (n=3):=by rw[decide_eq_decide];omega
 have K:decide ((2:Int)≤n)=decide (2≤n):=by rw[decide_eq_decide];omega
 rw[il ae0 (by simp[Ub])]
 rcases uZ r D with rfl|rfl|rfl|rfl|rfl|rfl|rfl|rfl|rfl|rfl|rfl|rfl|rfl|rfl|rfl|rfl|rfl|rfl|rfl|rfl|rfl|rfl <;>
  simp only[qA,seval,Ub,lF,F,H,I,J,K,or_true,or_false,or_self]
def acX(op:Int):Int:=if op≤6 then 0 else if op=7∨op=19 then 1 else if op=12∨op=13 then 2 else if op=14∨op=15 then 3 else 2
def acY(op:Int):Int:=if op≤6 then 0 else if op=7∨op=19 then 1 else if op=12∨op=13 then 200 else if op=14∨op=15 then 3 else 2
theorem X6(op:Int)(r:1≤op)(D:op≤22):be pE 210 [.i .i64 op] []=some (.tup [.i .i64 (acX op),.i .i64 (acY op)],[]):=by
 rw[il aeX (by simp[T9])]
 rcases uZ r D with rfl|rfl|rfl|rfl|rfl|rfl|rfl|rfl|rfl|rfl|rfl|rfl|rfl|rfl|rfl|rfl|rfl|rfl|rfl|rfl|rfl|rfl <;>
  simp only[qA,seval,T9,acX,acY,or_true,or_false,or_self]
theorem ajv(op:Int)(n:Nat)(i:1≤op)(r:op≤22)(D:n≤200):lF op n=true↔ ¬(n:Int)<acX op∧ ¬acY op<(n:Int):=by
 grind [lF,acX,acY,Int.reduceLE,Int.reduceEq]
theorem Ib: ∀{s:List Nat} {i:Nat},oW s=some i→i<s.length
 | [],i,h=>by simp[oW]at h
 |c::cs,i,h=>by
  rw[oW]at h
  split at h
  ·grind
  ·cases r:oW cs with
   |none=>simp[r]at h
   |some j=>
    simp[r]at h
    have:=Ib r
    grind
theorem A3{s:List Nat}: ∀(k:Nat),k≤s.length→(∀j (h:j<k) (hl:j<s.length),s[j]≠46)→oW s=(oW (s.drop k)).map (· +k)
 |0,_,_=>by simp
 |k+1,hk,h=>by
  have:=A3 (s:=s) k (by omega) fun j D hl=>h j (by omega) hl
  have r:k<s.length:=by omega
  rw[this,List.drop_eq_getElem_cons r,oW,if_neg (h k (by omega) r)]
  cases oW (s.drop (k+1))with
  |none=>rfl
  |some i=>simp;omega
theorem ajw(s:List Nat)(hs:s.length≤oY)(o:Out)(N:o=if oW s=none then .ext 0 else .ret)(fr:Fr)(lh:iw b8)(sh:List b8)(r:an fr 0= .s s)(H:an fr 1= .i .u8 46)(I:an fr 5= .i .i64 0):
  wJ 18 rf fr lh sh o∧
  ((∀i,oW s=some i→an (tD pE 18 rf fr lh sh) 4= .i .i64 (i:Int))∧nU pE 18 rf fr lh sh=lh∧ow pE 18 rf fr lh sh=sh):=by
 refine jH (P:=fun fr O U=>(∀i,oW s=some i→an fr 4= .i .i64 (i:Int))∧O=lh∧U=sh) (j6 (fun k st=> ∃fr:Fr,st=⟨fr,lh,sh⟩∧an fr 0= .s s∧an fr 1= .i .u8 46∧an fr 5= .i .i64 (k:Int)∧k≤s.length∧ ∀j (h:j<k) (hl:j<s.length),s[j]≠46) _ s.length ?_ ?_ 0 _ (Nat.zero_le _) ⟨fr,rfl,r,H,I,Nat.zero_le _,by simp⟩)
 ·rintro k _ hk ⟨fr,rfl,r,H,I,S0,J⟩
  have K:(k:Int)<s.length:=by omega
  have V:=DY (k:=k) (by omega)
  have D:=A3 k S0 J
  rw[List.drop_eq_getElem_cons hk,oW]at D
  by_cases hc:s[k]=46
  ·right
   have F:(s[k]:Int)=46:=by omega
   rw[if_pos hc]at D
   simp only[Option.map_some,Nat.zero_add]at D
   simp only[qA,seval,rf,r,H,I,K,Gx hk,F]
   refine⟨_,_,Ud,rfl,by rw[N,D];rfl,fun i hi=> ?_,rfl,rfl⟩
   rw[D]at hi
   cases hi
   simp only[qA,seval]
  ·left
   have F: ¬(s[k]:Int)=46:=by omega
   simp only[qA,seval,rf,r,H,I,K,Gx hk,F,V]
   refine⟨_,rfl,_,rfl, ?_, ?_, ?_,by omega, ?_⟩
   all_goals first|(simp only[qA,seval,r,H];done)|skip
   grind
 ·rintro _ ⟨fr,rfl,r,H,I,S0,J⟩
  have D:=A3 s.length S0 J
  rw[List.drop_length,oW]at D
  simp only[qA,seval,rf,r,I,Int.lt_irrefl]
  grind
def FL(s:List Nat):Int:=match oW s with|none=> -1|some i=>(i:Int)
theorem X7(s:List Nat)(hs:s.length≤oY):be pE 169 [.s s,.i .u8 46] []=some (.i .i64 (FL s),[]):=by
 have r:=fun fr lh sh=>ajw s hs _ rfl fr lh sh
 rw[il aeA (by simp[QE])]
 unfold FL
 cases D:oW s with
 |none=>
  simp only[D,if_true,reduceCtorEq,false_implies,implies_true,true_and]at r
  simp only[qA,seval,QE,r]
 |some i=>
  simp only[D,reduceCtorEq,if_false,Option.some.injEq,forall_eq']at r
  simp only[qA,seval,QE,r]
theorem GQ{fr:Fr}{r:List Nat}{x:iF}{k:IntKind}{j:Nat}(h:rd fr x= .i k (j:Int))(D:j≤r.length):DN fr (.s r) (some x) none=some (.s (r.drop j)):=by
 grind [DN,kN,HD,List.take_of_length_le]
theorem PC{fr:Fr}{r:List Nat}{x:iF}{k:IntKind}{j:Nat}(h:rd fr x= .i k (j:Int))(D:j≤r.length):DN fr (.s r) none (some x)=some (.s (r.take j)):=by
 grind [DN,kN,HD]
theorem BI{s:List Nat}{i:Nat}(h:oW s=some i):tH s=(oe (s.take i)&&oe (s.drop (i+1))):=by unfold tH;rw[h]
theorem BJ{s:List Nat}(h:oW s=none):tH s=og s:=by unfold tH;rw[h]
theorem Np(s:List Nat)(hs:s.length≤oY):be pE 211 [.s s] []=some (.b (tH s),[]):=by
 have r:=X7 s hs
 unfold FL at r
 rw[il aeY (by simp[QO])]
 cases D:oW s with
 |none=>
  simp only[D]at r
  rw[BJ D]
  simp only[qA,seval,QO,r,aeB,qy,F6]
 |some i=>
  simp only[D]at r
  rw[BI D]
  have hi:=Ib D
  have I: ¬(i:Int)<0:=by omega
  have H:=DY (k:=i) (by omega)
  have F:i≤s.length:=by omega
  have JX:i+1≤s.length:=by omega
  generalize i+1=j at H JX ⊢
  have J:=fun fr x (h:rd fr x= .i .i64 (j:Int))=>GQ h JX
  have Fg:=fun fr x (h:rd fr x= .i .i64 (i:Int))=>PC h F
  cases K:oe (s.take i) <;> simp only[qA,seval,QO,r,aeB,Kz,aeD,I,H,J,Fg,K]
theorem Le: ∀s:List Nat,idxN s 46=FL s
 | []=>rfl
 |c::cs=>by
  rw[idxN,Le cs]
  unfold FL
  rw[oW]
  by_cases h:c=46
  ·simp[h]
  ·rw[if_neg h,if_neg h]
   cases oW cs with
   |none=>rfl
   |some i=>simp only[Option.map_some];rw[if_neg (by omega)];omega
theorem afR{z:Nat}{fr:Fr}{lh:iw b8}{sh:List b8}{s:List Nat}:jf pE (be pE) z ⟨fr,lh,sh⟩ 253 [.s s,.s [46]]=some (.i .i64 (FL s),⟨fr,lh,sh⟩):=by
 rw[Vp (g:=idxE) rfl rfl,yV (by rfl),←Le]
 rfl
theorem Su{s:List Nat}{i:Nat}(h:oW s=some i):FL s=(i:Int):=by unfold FL;rw[h]
theorem Sv{s:List Nat}(h:oW s=none):FL s= -1:=by unfold FL;rw[h]
theorem atC{s:List Nat}(i:oW s=none):be pE 227 [.s s,.s [46]] []=some (.tup [.s s,.s [],.b false],[]):=by
 have r:be pE 241 [.s s,.s [46]] []=some (.tup [.s s,.s [],.b false],[]):=by
  rw[il UC (by simp[L8])]
  simp only[qA,seval,DN,L8,afR,Sv i]
 rw[il Uz (by simp[L7])]
 simp only[qA,seval,L7,r,afd]
theorem atD{s:List Nat}{i:Nat}(hs:s.length≤oY)(D:oW s=some i):be pE 227 [.s s,.s [46]] []=some (.tup [.s (s.take i),.s (s.drop (i+1)),.b true],[]):=by
 have hi:=Ib D
 have H:(0:Int)≤i:=by omega
 have F:=DY (k:=i) (by omega)
 have r:i≤s.length:=by omega
 have JX:i+1≤s.length:=by omega
 generalize i+1=j at F JX ⊢
 have I:=fun fr x (h:rd fr x= .i .i64 (j:Int))=>GQ h JX
 have Fg:=fun fr x (h:rd fr x= .i .i64 (i:Int))=>PC h r
 have J:be pE 241 [.s s,.s [46]] []=some (.tup [.s (s.take i),.s (s.drop j),.b true],[]):=by
  rw[il UC (by simp[L8])]
  simp only[qA,seval,L8,afR,Su D,H,F,I,Fg]
 rw[il Uz (by simp[L7])]
 simp only[qA,seval,L7,J,afd]
theorem Nq(s:List Nat)(hs:s.length≤oY):be pE 214 [.s s] []=some (.b (tH s),[]):=by
 rw[il ae1 (by simp[QP])]
 cases r:oW s with
 |none=>
  rw[BJ r]
  simp only[qA,seval,QP,atC r,ae5,sO,yn]
 |some i=>
  have hc:=atD hs r
  rw[BI r]
  generalize i+1=j at hc ⊢
  cases D:oe (s.take i) <;> simp only[qA,seval,QP,hc,ae5,zd,JJ,D]
mutual
def Ex.sm:Ex→Prop
 | .mk _ _ name args=>name.length≤oY∧X8 args
def X8:List Ex→Prop
 | []=>True
 |x::xs=>x.sm∧X8 xs
end
theorem Ex.sm_eq(x:Ex):x.sm↔(x.name.length≤oY∧X8 x.args):=by obtain⟨_,_,_,_⟩:=x;rw[Ex.sm];rfl
theorem Ic: ∀{xs:List Ex},X8 xs↔ ∀x∈xs,x.sm
 | []=>by simp[X8]
 |x::xs=>by rw[X8,Ic (xs:=xs)];simp
def wfP(y:Ex):Prop:= ∀cs:List T,mU y cs→y.nodes≤100000→y.sm→be pE 181 [.agg cs] []=some (.b y.wf,[])
theorem Lf{xs:List Ex}{k:Nat}(hk:k<xs.length):BV (xs.drop k)=(xs[k].wf&&BV (xs.drop (k+1))):=by rw[vN hk,BV]
theorem wf1(xs:List Ex)(ih: ∀y∈xs,wfP y)(a:T)(J:List T)(N:IsSl a xs.length J)(hx:ku xs J)(hlen:jP xs≤100000)(O:X8 xs)(fr:Fr)(lh:iw b8)(sh:List b8)
  (GR:an fr 59=a) (E9:an fr 60= .i .i64 (xs.length:Int)) (GS:an fr 61= .i .i64 0):
  LpC pE 69 yh fr lh sh 1 2 (BV xs=true) (.b false) (fun F H=>H=sh):=by
 refine xm QI (by simp[iT]) (fun k f F H=>an f 61= .i .i64 (k:Int)∧H=sh∧BV xs=BV (xs.drop k)) xs.length ⟨GS,rfl,rfl⟩ ?_ ?_
 ·rintro k f F _ hk D ⟨I,rfl,hr⟩
  have U:(k:Int)<xs.length:=by omega
  have OI:=mi xs
  have V:=oV (List.getElem_mem hk)
  have W:=ji (k:=k) (oi (by omega))
  obtain⟨b,cb,r,X,Y,sg,Z⟩:=rY N hx k hk
  have K:=kq (ih xs[k] (List.getElem_mem hk) _ Z (by omega) (Ic.1 O _ (List.getElem_mem hk)))
  rw[Lf hk]at hr
  simp only[qB,seval,gd,yh,D,GR,E9,I,U,X,W,K,aeL,Y.froz1]
  clear D K
  grind
 ·rintro f F _ D ⟨I,rfl,hr⟩
  rw[List.drop_length,BV]at hr
  simp only[qB,seval,gd,yh,D,E9,I,Int.lt_irrefl,hr]
theorem atE(x:Ex):wfP x:=by
 induction x using Ex.ind with
 |h x ih=>
  intro cs hx K hs
  obtain⟨a,H,rfl,D,KE⟩:=hx.cells
  rw[il aeK (by simp[QJ]),Ex.wf_eq]
  have I:=x.nodes_eq
  obtain⟨J,Fg⟩:=(Ex.sm_eq x).1 hs
  have i:=wf1 x.args ih a H D KE (by omega) Fg
  have r:=kq (Nq x.name J)
  generalize x.op=op,x.num=num,x.name=name at*
  clear ih
  have N:DX op=if op=1∨op=2 then 1099511627776 else if op=3 then 1439 else 0:=rfl
  unfold tI
  by_cases h:1≤op∧op≤22
  ·have F:=kq (No op x.args.length h.1 h.2)
   simp only[qB,seval,QJ,D.lenI,F,aqK,r,aqL,i]
   clear i F r
   repeat' (refine ifl (fun _=> ?_) (fun _=> ?_))
   all_goals refine congrArg (fun b=>some (T.b b,[])) ?_
   all_goals symm
   all_goals simp only[Bool.and_eq_true,Bool.and_eq_false_iff,decide_eq_true_eq,decide_eq_false_iff_not]
   all_goals grind
  ·simp only[qB,seval,QJ]
   clear i r
   grind
def ndP(y:Ex):Prop:= ∀cs:List T,mU y cs→y.nodes≤200→y.sm→be pE 178 [.agg cs] []=some (.b y.wf,[])
theorem nd1(xs:List Ex)(ih: ∀y∈xs,ndP y)(a:T)(J:List T)(F:IsSl a xs.length J)(hx:ku xs J)(hlen:jP xs≤200)(V:X8 xs)(op num:Int)(s:List Nat)(g:Nat)(fr:Fr)(lh:iw b8)(sh:List b8)
  (K:an fr 1= .ptr .L 1 g 0) (W:an fr 6= .i .i64 0) (N:b7 lh 1=⟨g,.cells [.i .i64 op,.i .i64 num,.s s,a] 0 true⟩):
  LpC pE 84 yg fr lh sh 1 2 (BV xs=true) (.b false) (fun O H=>H=sh):=by
 refine xm QG (by simp[iT]) (fun k f O H=>an f 6= .i .i64 (k:Int)∧O=lh∧H=sh∧BV xs=BV (xs.drop k)) xs.length ⟨W,rfl,rfl,rfl⟩ ?_ ?_
 ·rintro k f _ _ hk D ⟨I,rfl,rfl,hr⟩
  have X:(k:Int)<xs.length:=by omega
  have OI:=mi xs
  have Y:=oV (List.getElem_mem hk)
  have Z:=ji (k:=k) (oi (by omega))
  obtain⟨b,cb,r,je,mZ,sg,hb⟩:=rY F hx k hk
  have U:=kq (ih xs[k] (List.getElem_mem hk) _ hb (by omega) (Ic.1 V _ (List.getElem_mem hk)))
  rw[Lf hk]at hr
  simp only[qB,seval,gd,yg,D,K,I,N,F.lenI,X,je,Z,U,aeH,mZ.froz1]
  clear D U
  grind
 ·rintro f _ _ D ⟨I,rfl,rfl,hr⟩
  rw[List.drop_length,BV]at hr
  simp only[qB,seval,gd,yg,D,K,I,N,F.lenI,Int.lt_irrefl,hr]
theorem atF(x:Ex):ndP x:=by
 induction x using Ex.ind with
 |h x ih=>
  intro cs hx K hs
  obtain⟨a,H,rfl,D,KE⟩:=hx.cells
  rw[il aeG (by simp[QH]),Ex.wf_eq]
  have I:=x.nodes_eq
  have N:=mi x.args
  obtain⟨J,Fg⟩:=(Ex.sm_eq x).1 hs
  have i:=nd1 x.args ih a H D KE (by omega) Fg x.op x.num x.name 1
  have r:=kq (Np x.name J)
  generalize x.op=op,x.num=num,x.name=name at*
  clear ih
  have O:DX op=if op=1∨op=2 then 1099511627776 else if op=3 then 1439 else 0:=rfl
  unfold tI
  by_cases h:1≤op∧op≤22
  ·have F:=X6 op h.1 h.2
   have KF:=ajv op x.args.length h.1 h.2 (by omega)
   simp only[qB,seval,QH,D.lenI,F,aqH,r,aqI,i]
   clear i F r
   repeat' (refine ifl (fun _=> ?_) (fun _=> ?_))
   all_goals refine congrArg (fun b=>some (T.b b,[])) ?_
   all_goals symm
   all_goals simp only[Bool.and_eq_true,Bool.and_eq_false_iff,decide_eq_true_eq,decide_eq_false_iff_not]
   all_goals grind
  ·simp only[qB,seval,QH]
   clear i r
   grind
theorem X9{x:Ex}(i:jy x=0):x.nodes≤200:=by
 unfold jy at i
 by_cases h:big x
 ·rw[if_pos h]at i;cases i
 ·unfold big at h;omega
theorem Sw(x:Ex)(cs:List T)(hx:mU x cs)(O:0≤x.nodes)(hs:x.sm): ∃s,be pE 141 [.agg cs] []=some (.i .i64 (jy x),s):=by
 obtain⟨U,r,_⟩:=aco x 1 0 cs hx (by omega) (by omega)
 have F:=fun h=>atE x cs hx h hs
 have KF:kF 0 1 x↔ ¬big x:=by unfold kF big;omega
 obtain⟨a,V,rfl,H,KE⟩:=hx.cells
 rw[il ael (by simp[Qz])]
 unfold DZ at r
 have I:((0:Nat):Int)=0:=rfl
 have J:((1:Nat):Int)=1:=rfl
 rw[I,J]at r
 unfold jy
 by_cases D:big x
 ·have N: ¬kF 0 1 x:=fun h=>KF.1 h D
  rw[decide_eq_false N]at r
  simp only[qA,seval,jm,j2,Qz,r,Od,H.kept1,D]
  exact⟨_,rfl⟩
 ·have K:=F (by unfold big at D;omega)
  rw[decide_eq_true (KF.2 D)]at r
  cases Cv:x.wf <;> rw[Cv]at K <;> simp only[qA,seval,jm,j2,Qz,r,Od,K,aeL,H.kept1,H.froz1,D] <;> exact⟨_,rfl⟩
theorem sX{z:Nat}{fr:Fr}{lh:iw b8}{sh:List b8}(x:Ex)(cs:List T)(hx:mU x cs)(r:0≤x.nodes)(hs:x.sm):jf pE (be pE) z ⟨fr,lh,sh⟩ 141 [.agg cs]=some (.i .i64 (jy x),⟨fr,lh,sh⟩):=by
 obtain⟨s,h⟩:=Sw x cs hx r hs
 obtain⟨a,F,rfl,D,KE⟩:=hx.cells
 rw[aqs (by simp[Kl,yX,HE,D.froz1]),h];rfl
theorem vP(x:Ex)(cs:List T)(hx:mU x cs)(hs:x.sm):be pE 131 [.agg cs] []=some (.i .i64 (jy x),[]):=by
 have F:=acW x cs hx
 have BR:=aiK x
 have K:=atF x cs hx
 obtain⟨a,N,rfl,H,KE⟩:=hx.cells
 rw[il aeb (by simp[L3])]
 unfold jy
 generalize x.sz 1=p at*
 by_cases I:(200:Int)<(p.1:Int)
 ·have r:big x:=BR.1 (by omega)
  simp only[qA,seval,L3,F,Uu,H.froz1,r,I]
 ·by_cases J:(16:Int)<(p.2:Int)
  ·have r:big x:=BR.1 (by omega)
   simp only[qA,seval,L3,F,Uu,H.froz1,r,I,J]
  ·have r: ¬big x:=fun h=>by have:=BR.2 h;omega
   have D:=K (by unfold big at r;omega) hs
   cases Cv:x.wf <;> rw[Cv]at D <;> simp only[qA,seval,L3,F,Uu,H.froz1,r,I,J,D,aeH]
theorem kO(l:List Int):(ints l).length=l.length:=by simp[ints]
theorem oQ(l:List Int)(k:Nat)(hk:k<l.length):(ints l).drop k=T.i .i64 l[k]::(ints l).drop (k+1):=by
 rw[List.drop_eq_getElem_cons (by rw[kO];exact hk)];simp[ints]
theorem Nr{a:T}{ts:List Int}(r:IsSl a ts.length (ints ts)){k:Nat}(hk:k<ts.length)(kk:IntKind):lR a (.i kk (k:Int)) 1=some (.vp (T.i .i64 ts[k]::(ints ts).drop (k+1))):=by
 rw[r.ia (sz:=1) (by rw[kO];omega) hk,Nat.mul_one,oQ ts k hk]
theorem Sx{ts:List Int}{k:Nat}{t:Int}(hk:k<ts.length):oh (ts.drop k) t=(decide (ts[k]=t)&&oh (ts.drop (k+1)) t):=by
 unfold oh;rw[List.drop_eq_getElem_cons hk,List.all_cons]
theorem atG(ts:List Int)(t:Int)(a:T)(K:IsSl a ts.length (ints ts))(hlen:ts.length≤qz)(o:Out)(N:o=if oh ts t then .ext 0 else .ret)(fr:Fr)(lh:iw b8)(sh:List b8)
  (F:an fr 1= .i .i64 t) (H:an fr 7=a) (D:an fr 8= .i .i64 (ts.length:Int)) (I:an fr 9= .i .i64 0):
  wJ 17 rj fr lh sh o∧
  ((oh ts t=false→an (tD pE 17 rj fr lh sh) 4= .b false)∧nU pE 17 rj fr lh sh=lh∧ow pE 17 rj fr lh sh=sh):=by
 refine jH (P:=fun fr U V=>(oh ts t=false→an fr 4= .b false)∧U=lh∧V=sh) (j6 (fun k st=> ∃(fr:Fr),st=⟨fr,lh,sh⟩∧an fr 1= .i .i64 t∧an fr 7=a∧an fr 8= .i .i64 (ts.length:Int)∧an fr 9= .i .i64 (k:Int)∧oh ts t=oh (ts.drop k) t) _ ts.length ?_ ?_ 0 _ (Nat.zero_le _) ⟨fr,rfl,F,H,D,I,rfl⟩)
 ·rintro k _ hk ⟨fr,rfl,F,H,D,I,r⟩
  have O:(k:Int)<ts.length:=by omega
  have W:=ji (k:=k) (by omega)
  rw[Sx hk]at r
  by_cases J:ts[k]=t
  ·left
   rw[decide_eq_true J,Bool.true_and]at r
   simp only[qA,seval,rj,F,H,D,I,O,Nr K hk,W,J]
   refine⟨_,rfl,_,rfl, ?_, ?_, ?_, ?_,r⟩ <;> simp only[qA,seval,F,H,D]
  ·right
   rw[decide_eq_false J,Bool.false_and]at r
   simp only[qA,seval,rj,F,H,D,I,O,Nr K hk,J]
   refine⟨_,_,Ud,rfl,by rw[N,r];rfl,fun _=>by simp only[qA,seval],rfl,rfl⟩
 ·rintro _ ⟨fr,rfl,F,H,D,I,r⟩
  rw[List.drop_length]at r
  have r:oh ts t=true:=r
  simp only[qA,seval,rj,D,I,Int.lt_irrefl]
  exact⟨_,_,uC,rfl,by rw[N,r];rfl,fun hc=>(by rw[r]at hc;cases hc),rfl,rfl⟩
theorem PD(ts:List Int)(t:Int)(a:T)(r:IsSl a ts.length (ints ts))(hlen:ts.length≤qz):be pE 230 [a,.i .i64 t] []=some (.b (oh ts t),[]):=by
 have D:=fun fr lh sh=>atG ts t a r hlen _ rfl fr lh sh
 rw[il ae9 (by simp[Uc])]
 cases h:oh ts t <;> simp only[h]at D <;> simp only[qA,seval,Uc,r.lenI,D]
theorem GU(k:Int):be pE 229 [.i .i64 k] []=some (.b (decide (k=1∨k=2)),[]):=by
 rw[il UA (by simp[QS])]
 by_cases r:k=1
 ·simp only[qA,seval,QS,r,true_or]
 ·by_cases D:k=2 <;> simp only[qA,seval,QS,r,D,or_true,or_self]
theorem Ep(op a b:Int):be pE 231 [.i .i64 op,.i .i64 a,.i .i64 b] []=some (.i .i64 (KD op a b),[]):=by
 rw[il UB (by simp[Aq])]
 unfold KD
 by_cases a1:a=1
 ·subst a1
  by_cases r:b=1
  ·simp only[qA,seval,Aq,r]
  ·by_cases D:op=10
   ·by_cases H:b=2 <;> simp only[qA,seval,Aq,r,H,D]
   ·by_cases F:op=11 <;> simp only[qA,seval,Aq,r,D,F]
 ·by_cases a2:a=2
  ·subst a2
   by_cases r:b=1
   ·simp only[qA,seval,Aq,r]
   ·by_cases D:op=10
    ·simp only[qA,seval,Aq,r,D]
    ·by_cases F:op=11
     ·by_cases H:b=2 <;> simp only[qA,seval,Aq,r,H,F]
     ·simp only[qA,seval,Aq,r,D,F]
  ·by_cases D:op=10
   ·simp only[qA,seval,Aq,a1,a2,D]
   ·by_cases F:op=11 <;> simp only[qA,seval,Aq,a1,a2,D,F]
theorem GV{a:T}{t:Int}{ts:List Int}(r:IsSl a (t::ts).length (ints (t::ts))): ∃ex,a= .sl (.i .i64 t::ints ts) (ts.length+1) ex:=by
 rcases r with⟨_,h,_⟩|⟨ex,h⟩
 ·simp at h
 ·exact⟨ex,h⟩
theorem Ya{ts:List Int}(h:ts.length=1): ∃a,ts= [a]:=by
 match ts,h with
 | [a],_=>grind
theorem uu{ts:List Int}(h:ts.length=2): ∃a b,ts= [a,b]:=by
 match ts,h with
 | [a,b],_=>grind
theorem Yb{ts:List Int}(h:ts.length=3): ∃a b c,ts= [a,b,c]:=by
 match ts,h with
 | [a,b,c],_=>grind
theorem vQ(t:Int)(ts:List Int)(k:Int):oh (t::ts) k=(decide (t=k)&&oh ts k):=rfl
theorem Yc(t:Int)(ts:List Int):(if oh (t::ts) 1 then(1:Int)else if oh (t::ts) 2 then 2 else 0)=if(t=1∨t=2)∧oh (t::ts) t=true then t else 0:=by
 rw[vQ,vQ,vQ,decide_eq_true (p:=t=t) rfl,Bool.true_and]
 grind
theorem sY(op k:Int)(ts:List Int)(a:T)(r:IsSl a ts.length (ints ts))(hl:ts.length≤qz)(h:op=15∧k=3∨(op=19∨op=20∨op=21∨op=22)∧k=4):be pE 232 [.i .i64 op,a] []=some (.b (oh ts k),[]):=by
 have D:=PD ts k a r hl
 rw[il Og (by simp[Fa])]
 rcases h with⟨rfl,rfl⟩|⟨rfl|rfl|rfl|rfl,rfl⟩ <;> simp only[qA,seval,Fa,D,afa,r.froz]
theorem GW(op x y:Int)(a:T)(D:IsSl a 2 (ints [x,y]))(h:op=16∨op=17):be pE 232 [.i .i64 op,a] []=some (.b (decide ((x=1∨x=2)∧x=y)),[]):=by
 obtain⟨ex,rfl⟩:=GV (ts:= [y]) D
 have r:=GU x
 rw[il Og (by simp[Fa])]
 by_cases hx:x=1∨x=2
 ·rw[decide_eq_true hx]at r
  rcases h with rfl|rfl <;> simp only[qA,seval,oc,jG,iE,Fa,r,Oe,ae8,ints,hx]
 ·rw[decide_eq_false hx]at r
  rcases h with rfl|rfl <;> simp only[qA,seval,oc,jG,Fa,r,Oe,ae8,ints,hx]
theorem Yd(x y:Int)(a:T)(r:IsSl a 2 (ints [x,y])):be pE 232 [.i .i64 18,a] []=some (.b (decide (x=y)),[]):=by
 obtain⟨ex,rfl⟩:=GV (ts:= [y]) r
 rw[il Og (by simp[Fa])]
 simp only[qA,seval,oc,jG,Fa,ints]
theorem Ns(op:Int)(ts:List Int)(a:T)(r:IsSl a ts.length (ints ts))(hl:ts.length≤qz)(N:1≤op)(O:op≤22)(W:op≠6)(D:lF op ts.length=true):be pE 216 [.i .i64 op,a] []=some (.i .i64 (tJ op ts),[]):=by
 rw[il ae3 (by simp[si])]
 have FC: ∀t Di,ts=t::Di→(op=7∨op=8∨op=9∨op=12∨op=13)→AI si.res si.eff (DC pE si.n si.code ⟨pT [.i .i64 op,a],.nil,[]⟩)=some (.i .i64 (if(t=1∨t=2)∧oh ts t=true then t else 0),[]):=by
  rintro t Di rfl F
  have J:=PD (t::Di) t a r hl
  have H:=GU t
  obtain⟨ex,rfl⟩:=GV r
  have K:0<Di.length+1:=Nat.succ_pos _
  by_cases hx:t=1∨t=2
  ·rw[decide_eq_true hx]at H
   cases hk:oh (t::Di) t <;> rw[hk]at J <;> rcases F with rfl|rfl|rfl|rfl|rfl <;>
    simp only[qA,seval,oc,si,H,Oe,J,afa,hx,K]
  ·rw[decide_eq_false hx]at H
   rcases F with rfl|rfl|rfl|rfl|rfl <;> simp only[qA,seval,oc,si,H,Oe,hx,K]
 have Lh: ∀b:Bool,be pE 232 [.i .i64 op,a] []=some (.b b,[])→(op=15∨op=16∨op=17∨op=18∨op=19∨op=20∨op=21∨op=22)→AI si.res si.eff (DC pE si.n si.code ⟨pT [.i .i64 op,a],.nil,[]⟩)=some (.i .i64 (if b=true then 4 else 0),[]):=by
  intro b U F
  cases b <;> rcases F with rfl|rfl|rfl|rfl|rfl|rfl|rfl|rfl <;> simp only[qA,seval,si,U,aqN,r.froz]
 rcases uZ N O with rfl|rfl|rfl|rfl|rfl|rfl|rfl|rfl|rfl|rfl|rfl|rfl|rfl|rfl|rfl|rfl|rfl|rfl|rfl|rfl|rfl|rfl
 iterate 5 ·simp only[qA,seval,si,tJ]
 ·grind
 ·obtain⟨x,rfl⟩:=Ya (by simpa[lF]using D)
  rw[FC x [] rfl (by simp),←Yc];rfl
 ·obtain⟨x,y,rfl⟩:=uu (by simpa[lF]using D)
  rw[FC x [y] rfl (by simp),←Yc];rfl
 ·obtain⟨x,y,rfl⟩:=uu (by simpa[lF]using D)
  rw[FC x [y] rfl (by simp),←Yc];rfl
 ·obtain⟨x,y,rfl⟩:=uu (by simpa[lF]using D)
  obtain⟨ex,rfl⟩:=GV r
  have I:=Ep 10 x y
  simp only[qA,seval,oc,jG,iE,si,ints,I,afb,afc];rfl
 ·obtain⟨x,y,rfl⟩:=uu (by simpa[lF]using D)
  obtain⟨ex,rfl⟩:=GV r
  have I:=Ep 11 x y
  simp only[qA,seval,oc,jG,iE,si,ints,I,afb,afc];rfl
 ·match ts,D with
  |x::ts,_=>rw[FC x ts rfl (by simp),←Yc];rfl
 ·match ts,D with
  |x::ts,_=>rw[FC x ts rfl (by simp),←Yc];rfl
 ·obtain⟨x,y,z,rfl⟩:=Yb (by simpa[lF]using D)
  obtain⟨ex,rfl⟩:=GV r
  have hr:tJ 14 [x,y,z]=if x=4∧y=z then y else 0:=rfl
  rw[hr]
  by_cases hx:x=4
  ·by_cases V:y=z <;> simp only[qA,seval,oc,jG,iE,si,ints,hx,V]
  ·simp only[qA,seval,oc,jG,iE,si,ints,hx]
 ·exact Lh _ (sY 15 3 ts a r hl (by simp)) (by simp)
 ·obtain⟨x,y,rfl⟩:=uu (by simpa[lF]using D)
  rw[Lh _ (GW 16 x y a r (by simp)) (by simp)]
  have hr:tJ 16 [x,y]=if(x=1∨x=2)∧x=y then 4 else 0:=rfl
  rw[hr];simp only[decide_eq_true_eq]
 ·obtain⟨x,y,rfl⟩:=uu (by simpa[lF]using D)
  rw[Lh _ (GW 17 x y a r (by simp)) (by simp)]
  have hr:tJ 17 [x,y]=if(x=1∨x=2)∧x=y then 4 else 0:=rfl
  rw[hr];simp only[decide_eq_true_eq]
 ·obtain⟨x,y,rfl⟩:=uu (by simpa[lF]using D)
  rw[Lh _ (Yd x y a r) (by simp)]
  have hr:tJ 18 [x,y]=if x=y then 4 else 0:=rfl
  rw[hr];simp only[decide_eq_true_eq]
 ·exact Lh _ (sY 19 4 ts a r hl (by simp)) (by simp)
 ·exact Lh _ (sY 20 4 ts a r hl (by simp)) (by simp)
 ·exact Lh _ (sY 21 4 ts a r hl (by simp)) (by simp)
 ·exact Lh _ (sY 22 4 ts a r hl (by simp)) (by simp)
def mf:Cs→List T→Prop
 | [],cs=>cs= []
 |c::l,cs=> ∃ex r,cs=(T.s c.1::ex)++r∧mU c.2 ex∧mf l r
theorem mf.len: ∀{l:Cs} {cs:List T},mf l cs→cs.length=l.length*5
 | [],cs,h=>by grind [mf]
 |c::l,cs,h=>by
  rw[mf]at h
  obtain⟨ex,r,rfl,i,D⟩:=h
  rw[List.length_append,List.length_cons,i.len,D.len,List.length_cons];omega
theorem mf.drop: ∀{l:Cs} {cs:List T} (k:Nat) (hk:k<l.length),mf l cs→ ∃ex r,cs.drop (k*5)=(T.s l[k].1::ex)++r∧mU l[k].2 ex∧mf (l.drop (k+1)) r
 | [],cs,k,hk,h=>by simp at hk
 |x::xs,cs,0,hk,h=>by
  grind [mf]
 |x::xs,cs,k+1,hk,h=>by
  rw[mf]at h
  obtain⟨c,r,rfl,i,D⟩:=h
  obtain⟨F,H,e,I,J⟩:=mf.drop k (by simpa using hk) D
  refine⟨F,H, ?_,I,by simpa using J⟩
  have:(k+1)*5=(T.s x.1::c).length+k*5:=by rw[List.length_cons,i.len];omega
  grind [List.drop_append,Nat.add_sub_cancel_left,List.drop_eq_nil_of_le]
theorem ot{l:Cs}{a:T}{F:List T}(J:IsSl a l.length F)(H:mf l F)(k:Nat)(hk:k<l.length):
  ∃b D r,(∀kk,lR a (.i kk (k:Int)) 5=some (.vp (.s l[k].1:: .i .i64 l[k].2.op:: .i .i64 l[k].2.num:: .s l[k].2.name::b::r)))∧IsSl b l[k].2.args.length D∧ku l[k].2.args D∧mU l[k].2 [.i .i64 l[k].2.op,.i .i64 l[k].2.num,.s l[k].2.name,b]:=by
 obtain⟨c,r,e,I,O⟩:=mf.drop k hk H
 obtain⟨b,D,rfl,K,N⟩:=I.cells
 refine⟨b,D,r,fun kk=> ?_,K,N,I⟩
 rw[J.ia (sz:=5) H.len hk,e];rfl
theorem PE: ∀{l:Cs} {s:List Nat} {i:Nat},oX l s=some i→i<l.length
 | [],s,i,h=>by simp[oX]at h
 |c::cs,s,i,h=>by
  rw[oX]at h
  split at h
  ·grind
  ·cases r:oX cs s with
   |none=>simp[r]at h
   |some j=>
    simp[r]at h
    have:=PE r
    grind
theorem A4(l:Cs)(s:List Nat): ∀n,oX (l.take n) s=match oX l s with|some i=>if i<n then some i else none|none=>none:=by
 induction l with
 |nil=>intro n;simp[oX]
 |cons c l ih=>
  intro n
  cases n with
  |zero=>
   grind [oX]
  |succ n=>
   grind [oX,hi]
def Nt(ts:List Int):Except Int (List Int)→Except Int (List Int)
 | .error e=> .error e
 | .ok us=> .ok (ts++us)
def ajx:Except Int (List Int)→Out
 | .error _=> .ret
 | .ok _=> .ext 0
theorem Ye{cl:List Nat→Int×Int}{scope:Int}{xs:List Ex}{k:Nat}(hk:k<xs.length):se cl scope (xs.drop k)=if(xs[k].ty cl scope).2≠0 then .error (xs[k].ty cl scope).2 else Nt [(xs[k].ty cl scope).1] (se cl scope (xs.drop (k+1))):=by
 rw[vN hk,se]
 split
 ·rfl
 ·cases se cl scope (xs.drop (k+1)) <;> rfl
theorem Sy(a b:List Int)(x:Except Int (List Int)):Nt a (Nt b x)=Nt (a++b) x:=by cases x <;> simp[Nt]
theorem Cw{cl:List Nat→Int×Int}{scope:Int}: ∀{xs:List Ex} {ts:List Int},se cl scope xs= .ok ts→ts.length=xs.length
 | [],ts,h=>by grind [se]
 |x::xs,ts,h=>by
  rw[se]at h
  split at h
  ·cases h
  ·cases hx:se cl scope xs with
   |error e=>grind
   |ok us=>rw[hx]at h;cases h;simp[Cw hx]
section
variable(l:Cs)(IJ:List (Int×Int))(lT kT eT:T)(cl:List T)(hl:IsSl lT l.length cl)(mG:mf l cl)(hlen:l.length≤qz)(az1:IJ.length=l.length)(hk:IsSl kT IJ.length (ints (IJ.map (·.1))))(he:IsSl eT IJ.length (ints (IJ.map (·.2))))
include hl hk he
include mG hlen az1
end
end Go.Proofs.YtcpceiclnbmgiaaGreat
