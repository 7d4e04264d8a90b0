/- Walks of functions of the program and of the reference, and their plain laws, part 2. Conditions: the theorems' own. -/
import Derived.Test.YtjniffjppoklpaaGreatM1
import Derived.KernelRfl
set_option maxRecDepth 100000
set_option linter.unusedSimpArgs false
set_option linter.unusedVariables false
set_option maxHeartbeats 16000000
namespace Go.Proofs.YtjniffjppoklpaaGreat
open Go Go.Ev
theorem afO(x:Ex):szP x:=by
 induction x using Ex.ind with
 |h x ih=>
  intro level cs E hl
  obtain⟨a,F,rfl,H,I⟩:=E.cells
  rw[iD ahs (by simp[SA]),Ex.sz_eq]
  by_cases D:(16:Int)<(level:Int)
  ·have r:16<level:=by omega
   simp only[qA,seval,SA,D,r]
  ·have r: ¬16<level:=by omega
   have J:=fun g fr lh sh=>avo x.args ih a F H I level (by omega) x.op x.num x.name g fr lh sh
   simp only[qA,seval,SA,D,r,J 1]
theorem afP(x:Ex)(cs:List T)(r:mE x cs):be pE 133 [.agg cs] []=some (.tup [.i .i64 ((x.sz 1).1:Int),.i .i64 ((x.sz 1).2:Int)],[]):=by
 have h:=afO x 1 cs r (by omega)
 obtain⟨a,E,rfl,D,F⟩:=r.cells
 rw[iD agW (by simp[V3])]
 simp only[qA,seval,V3,Xc,D.froz1]at h ⊢
 simp only[qA,seval,h]
theorem su{op:Int}(r:1≤op)(D:op≤22):op=1∨op=2∨op=3∨op=4∨op=5∨op=6∨op=7∨op=8∨op=9∨op=10∨op=11∨op=12∨op=13∨op=14∨op=15∨op=16∨op=17∨op=18∨op=19∨op=20∨op=21∨op=22:=by omega
theorem PU(op:Int)(n:Nat)(r:1≤op)(D:op≤22):be pE 153 [.i .i64 op,.i .i64 (n:Int)] []=some (.b (kS op n),[]):=by
 have E:decide ((n:Int)=0)=decide (n=0):=by rw[decide_eq_decide];omega
 have F:decide ((n:Int)=1)=decide (n=1):=by rw[decide_eq_decide];omega
 have H:decide ((n:Int)=2)=decide (n=2):=by rw[decide_eq_decide];omega
 have I:decide ((n:Int)=3)=decide (n=3):=by rw[decide_eq_decide];omega
 have J:decide ((2:Int)≤n)=decide (2≤n):=by rw[decide_eq_decide];omega
 rw[iD ahk (by simp[Wg])]
 rcases su r D with rfl|rfl|rfl|rfl|rfl|rfl|rfl|rfl|rfl|rfl|rfl|rfl|rfl|rfl|rfl|rfl|rfl|rfl|rfl|rfl|rfl|rfl <;>
  simp only[qA,seval,Wg,kS,E,F,H,I,J,or_true,or_false,or_self]
def afQ(op:Int):Int:=if op≤6 then 0 else if op=7∨op=19 then 1 else if op=12∨op=13 then 2 else if op=14∨op=15 then 3 else 2
def afR(op:Int):Int:=if op≤6 then 0 else if op=7∨op=19 then 1 else if op=12∨op=13 then 200 else if op=14∨op=15 then 3 else 2
theorem aaU(op:Int)(r:1≤op)(D:op≤22):be pE 160 [.i .i64 op] []=some (.tup [.i .i64 (afQ op),.i .i64 (afR op)],[]):=by
 rw[iD aht (by simp[Wh])]
 rcases su r D with rfl|rfl|rfl|rfl|rfl|rfl|rfl|rfl|rfl|rfl|rfl|rfl|rfl|rfl|rfl|rfl|rfl|rfl|rfl|rfl|rfl|rfl <;>
  simp only[qA,seval,Wh,afQ,afR,or_true,or_false,or_self]
theorem amR(op:Int)(n:Nat)(r:1≤op)(D:op≤22)(E:n≤200):kS op n=true↔ ¬(n:Int)<afQ op∧ ¬afR op<(n:Int):=by
 grind [kS,afQ,afR,Int.reduceLE,Int.reduceEq]
theorem J1: ∀{s:List Nat} {i:Nat},qe s=some i→i<s.length
 | [],i,h=>by simp[qe]at h
 |c::cs,i,h=>by
  rw[qe]at h
  split at h
  ·grind
  ·cases r:qe cs with
   |none=>simp[r]at h
   |some j=>
    simp[r]at h
    have:=J1 r
    grind
theorem Ch{s:List Nat}: ∀(k:Nat),k≤s.length→(∀j (h:j<k) (hl:j<s.length),s[j]≠46)→qe s=(qe (s.drop k)).map (· +k)
 |0,_,_=>by simp
 |k+1,hk,h=>by
  have:=Ch (s:=s) k (by omega) fun j D hl=>h j (by omega) hl
  have r:k<s.length:=by omega
  rw[this,List.drop_eq_getElem_cons r,qe,if_neg (h k (by omega) r)]
  cases qe (s.drop (k+1))with
  |none=>rfl
  |some i=>simp;omega
theorem amS(s:List Nat)(hs:s.length≤mh)(o:Out)(K:o=if qe s=none then .ext 0 else .ret)(fr:Fr)(lh:iL iy)(sh:List iy)(r:an fr 0= .s s)(E:an fr 1= .i .u8 46)(F:an fr 5= .i .i64 0):
  qG 18 sO fr lh sh o∧
  ((∀i,qe s=some i→an (pb pE 18 sO fr lh sh) 4= .i .i64 (i:Int))∧nh pE 18 sO fr lh sh=lh∧nB pE 18 sO fr lh sh=sh):=by
 refine jh (P:=fun fr N O=>(∀i,qe s=some i→an fr 4= .i .i64 (i:Int))∧N=lh∧O=sh) (jx (fun k st=> ∃fr:Fr,st=⟨fr,lh,sh⟩∧an fr 0= .s s∧an fr 1= .i .u8 46∧an fr 5= .i .i64 (k:Int)∧k≤s.length∧ ∀j (h:j<k) (hl:j<s.length),s[j]≠46) _ s.length ?_ ?_ 0 _ (Nat.zero_le _) ⟨fr,rfl,r,E,F,Nat.zero_le _,by simp⟩)
 ·rintro k _ hk ⟨fr,rfl,r,E,F,H,I⟩
  have J:(k:Int)<s.length:=by omega
  have U:=oO (k:=k) (by omega)
  have D:=Ch k H I
  rw[List.drop_eq_getElem_cons hk,qe]at D
  by_cases V:s[k]=46
  ·right
   have Ms:(s[k]:Int)=46:=by omega
   rw[if_pos V]at D
   simp only[Option.map_some,Nat.zero_add]at D
   simp only[qA,seval,sO,r,E,F,J,yw hk,Ms]
   refine⟨_,_,Lw,rfl,by rw[K,D];rfl,fun i hi=> ?_,rfl,rfl⟩
   rw[D]at hi
   cases hi
   simp only[qA,seval]
  ·left
   have Ms: ¬(s[k]:Int)=46:=by omega
   simp only[qA,seval,sO,r,E,F,J,yw hk,Ms,U]
   refine⟨_,rfl,_,rfl, ?_, ?_, ?_,by omega, ?_⟩
   all_goals first|(simp only[qA,seval,r,E];done)|skip
   grind
 ·rintro _ ⟨fr,rfl,r,E,F,H,I⟩
  have D:=Ch s.length H I
  rw[List.drop_length,qe]at D
  simp only[qA,seval,sO,r,F,Int.lt_irrefl]
  grind
def G9(s:List Nat):Int:=match qe s with|none=> -1|some i=>(i:Int)
theorem aaV(s:List Nat)(hs:s.length≤mh):be pE 182 [.s s,.i .u8 46] []=some (.i .i64 (G9 s),[]):=by
 have r:=fun fr lh sh=>amS s hs _ rfl fr lh sh
 rw[iD ahP (by simp[SM])]
 unfold G9
 cases D:qe s with
 |none=>
  simp only[D,if_true,reduceCtorEq,false_implies,implies_true,true_and]at r
  simp only[qA,seval,SM,r]
 |some i=>
  simp only[D,reduceCtorEq,if_false,Option.some.injEq,forall_eq']at r
  simp only[qA,seval,SM,r]
theorem Ig{fr:Fr}{r:List Nat}{x:iS}{k:IntKind}{j:Nat}(h:rd fr x= .i k (j:Int))(D:j≤r.length):vg fr (.s r) (some x) none=some (.s (r.drop j)):=by
 grind [vg,lr,Jc,List.take_of_length_le]
theorem RP{fr:Fr}{r:List Nat}{x:iS}{k:IntKind}{j:Nat}(h:rd fr x= .i k (j:Int))(D:j≤r.length):vg fr (.s r) none (some x)=some (.s (r.take j)):=by
 grind [vg,lr,Jc]
theorem C1{s:List Nat}{i:Nat}(h:qe s=some i):vA s=(pO (s.take i)&&pO (s.drop (i+1))):=by unfold vA;rw[h]
theorem C2{s:List Nat}(h:qe s=none):vA s=tA s:=by unfold vA;rw[h]
theorem PV(s:List Nat)(hs:s.length≤mh):be pE 161 [.s s] []=some (.b (vA s),[]):=by
 have r:=aaV s hs
 unfold G9 at r
 rw[iD ahu (by simp[SC])]
 cases D:qe s with
 |none=>
  simp only[D]at r
  rw[C2 D]
  simp only[qA,seval,SC,r,ahQ,tZ,LA]
 |some i=>
  simp only[D]at r
  rw[C1 D]
  have hi:=J1 D
  have H: ¬(i:Int)<0:=by omega
  have F:=oO (k:=i) (by omega)
  have E:i≤s.length:=by omega
  have LP:i+1≤s.length:=by omega
  generalize i+1=j at F LP ⊢
  have I:=fun fr x (h:rd fr x= .i .i64 (j:Int))=>Ig h LP
  have A4:=fun fr x (h:rd fr x= .i .i64 (i:Int))=>RP h E
  cases J:pO (s.take i) <;> simp only[qA,seval,SC,r,ahQ,Az,SX,H,F,I,A4,J]
theorem No: ∀s:List Nat,idxN s 46=G9 s
 | []=>rfl
 |c::cs=>by
  rw[idxN,No cs]
  unfold G9
  rw[qe]
  by_cases h:c=46
  ·simp[h]
  ·rw[if_neg h,if_neg h]
   cases qe cs with
   |none=>rfl
   |some i=>simp only[Option.map_some];rw[if_neg (by omega)];omega
theorem ai4{z:Nat}{fr:Fr}{lh:iL iy}{sh:List iy}{s:List Nat}:jy pE (be pE) z ⟨fr,lh,sh⟩ 203 [.s s,.s [46]]=some (.i .i64 (G9 s),⟨fr,lh,sh⟩):=by
 rw[Ye (g:=idxE) rfl rfl,Ao (by rfl),←No]
 rfl
theorem UG{s:List Nat}{i:Nat}(h:qe s=some i):G9 s=(i:Int):=by unfold G9;rw[h]
theorem UH{s:List Nat}(h:qe s=none):G9 s= -1:=by unfold G9;rw[h]
theorem awr{s:List Nat}(r:qe s=none):be pE 174 [.s s,.s [46]] []=some (.tup [.s s,.s [],.b false],[]):=by
 have D:be pE 196 [.s s,.s [46]] []=some (.tup [.s s,.s [],.b false],[]):=by
  rw[iD Xq (by simp[Om])]
  simp only[qA,seval,vg,Om,ai4,UH r]
 rw[iD Xf (by simp[Oj])]
 simp only[qA,seval,Oj,D,ah3]
theorem aws{s:List Nat}{i:Nat}(hs:s.length≤mh)(D:qe s=some i):be pE 174 [.s s,.s [46]] []=some (.tup [.s (s.take i),.s (s.drop (i+1)),.b true],[]):=by
 have hi:=J1 D
 have F:(0:Int)≤i:=by omega
 have E:=oO (k:=i) (by omega)
 have r:i≤s.length:=by omega
 have LP:i+1≤s.length:=by omega
 generalize i+1=j at E LP ⊢
 have H:=fun fr x (h:rd fr x= .i .i64 (j:Int))=>Ig h LP
 have A4:=fun fr x (h:rd fr x= .i .i64 (i:Int))=>RP h r
 have I:be pE 196 [.s s,.s [46]] []=some (.tup [.s (s.take i),.s (s.drop j),.b true],[]):=by
  rw[iD Xq (by simp[Om])]
  simp only[qA,seval,Om,ai4,UG D,F,E,H,A4]
 rw[iD Xf (by simp[Oj])]
 simp only[qA,seval,Oj,I,ah3]
theorem PW(s:List Nat)(hs:s.length≤mh):be pE 154 [.s s] []=some (.b (vA s),[]):=by
 rw[iD ahl (by simp[Sy])]
 cases r:qe s with
 |none=>
  rw[C2 r]
  simp only[qA,seval,Sy,awr r,ahF,tY,zL]
 |some i=>
  have D:=aws hs r
  rw[C1 r]
  generalize i+1=j at D ⊢
  cases E:pO (s.take i) <;> simp only[qA,seval,Sy,D,ahF,AA,WK,E]
mutual
def Ex.sm:Ex→Prop
 | .mk _ _ name args=>name.length≤mh∧smL args
def smL:List Ex→Prop
 | []=>True
 |x::xs=>x.sm∧smL xs
end
theorem Ex.sm_eq(x:Ex):x.sm↔(x.name.length≤mh∧smL x.args):=by obtain⟨_,_,_,_⟩:=x;rw[Ex.sm];rfl
theorem DS: ∀{xs:List Ex},smL xs↔ ∀x∈xs,x.sm
 | []=>by simp[smL]
 |x::xs=>by rw[smL,DS (xs:=xs)];simp
def wfP(y:Ex):Prop:= ∀cs:List T,mE y cs→y.nodes≤100000→y.sm→be pE 122 [.agg cs] []=some (.b y.wf,[])
theorem Np{xs:List Ex}{k:Nat}(hk:k<xs.length):zq (xs.drop k)=(xs[k].wf&&zq (xs.drop (k+1))):=by rw[xI hk,zq]
theorem wf1(xs:List Ex)(ih: ∀y∈xs,wfP y)(a:T)(J:List T)(N:iJ a xs.length J)(O:kz xs J)(hlen:jX xs≤100000)(U:smL xs)(fr:Fr)(lh:iL iy)(sh:List iy)
  (Ih:an fr 59=a) (DR:an fr 60= .i .i64 (xs.length:Int)) (Ii:an fr 61= .i .i64 0):
  Zv pE 69 zG fr lh sh 1 2 (zq xs=true) (.b false) (fun F H=>H=sh):=by
 refine sd Sl (by simp[jg]) (fun k f F H=>an f 61= .i .i64 (k:Int)∧H=sh∧zq xs=zq (xs.drop k)) xs.length ⟨Ii,rfl,rfl⟩ ?_ ?_
 ·rintro k f F _ hk D ⟨I,rfl,E⟩
  have V:(k:Int)<xs.length:=by omega
  have Ff:=kB xs
  have W:=nz (List.getElem_mem hk)
  have X:=iZ (k:=k) (lK (by omega))
  obtain⟨b,cb,r,Y,Z,uE,hb⟩:=nY N O k hk
  have K:=j3 (ih xs[k] (List.getElem_mem hk) _ hb (by omega) (DS.1 U _ (List.getElem_mem hk)))
  rw[Np hk]at E
  simp only[qB,seval,gd,zG,D,Ih,DR,I,V,Y,X,K,agN,Z.froz1]
  clear D K
  grind
 ·rintro f F _ D ⟨I,rfl,E⟩
  rw[List.drop_length,zq]at E
  simp only[qB,seval,gd,zG,D,DR,I,Int.lt_irrefl,E]
theorem awt(x:Ex):wfP x:=by
 induction x using Ex.ind with
 |h x ih=>
  intro cs H O hs
  obtain⟨a,I,rfl,E,J⟩:=H.cells
  rw[iD agM (by simp[Sn]),Ex.wf_eq]
  have K:=x.nodes_eq
  obtain⟨N,A4⟩:=(Ex.sm_eq x).1 hs
  have r:=wf1 x.args ih a I E J (by omega) A4
  have D:=j3 (PW x.name N)
  generalize x.op=op,x.num=num,x.name=name at*
  clear ih
  have U:FE op=if op=1∨op=2 then 1099511627776 else if op=3 then 1439 else 0:=rfl
  unfold tB
  by_cases h:1≤op∧op≤22
  ·have F:=j3 (PU op x.args.length h.1 h.2)
   simp only[qB,seval,Sn,E.lenI,F,asO,D,asP,r]
   clear r F D
   repeat' (refine ifl (fun _=> ?_) (fun _=> ?_))
   all_goals refine congrArg (fun b=>some (T.b b,[])) ?_
   all_goals symm
   all_goals simp only[Bool.and_eq_true,Bool.and_eq_false_iff,decide_eq_true_eq,decide_eq_false_iff_not]
   all_goals grind
  ·simp only[qB,seval,Sn]
   clear r D
   grind
def ndP(y:Ex):Prop:= ∀cs:List T,mE y cs→y.nodes≤200→y.sm→be pE 134 [.agg cs] []=some (.b y.wf,[])
theorem nd1(xs:List Ex)(ih: ∀y∈xs,ndP y)(a:T)(J:List T)(F:iJ a xs.length J)(V:kz xs J)(hlen:jX xs≤200)(W:smL xs)(op num:Int)(s:List Nat)(g:Nat)(fr:Fr)(lh:iL iy)(sh:List iy)
  (K:an fr 1= .ptr .L 1 g 0) (X:an fr 6= .i .i64 0) (N:a6 lh 1=⟨g,.cells [.i .i64 op,.i .i64 num,.s s,a] 0 true⟩):
  Zv pE 84 zI fr lh sh 1 2 (zq xs=true) (.b false) (fun O H=>H=sh):=by
 refine sd Ss (by simp[jg]) (fun k f O H=>an f 6= .i .i64 (k:Int)∧O=lh∧H=sh∧zq xs=zq (xs.drop k)) xs.length ⟨X,rfl,rfl,rfl⟩ ?_ ?_
 ·rintro k f _ _ hk D ⟨I,rfl,rfl,E⟩
  have Y:(k:Int)<xs.length:=by omega
  have Ff:=kB xs
  have Z:=nz (List.getElem_mem hk)
  have hw:=iZ (k:=k) (lK (by omega))
  obtain⟨b,cb,r,iW,lE,uE,hb⟩:=nY F V k hk
  have U:=j3 (ih xs[k] (List.getElem_mem hk) _ hb (by omega) (DS.1 W _ (List.getElem_mem hk)))
  rw[Np hk]at E
  simp only[qB,seval,gd,zI,D,K,I,N,F.lenI,Y,iW,hw,U,agY,lE.froz1]
  clear D U
  grind
 ·rintro f _ _ D ⟨I,rfl,rfl,E⟩
  rw[List.drop_length,zq]at E
  simp only[qB,seval,gd,zI,D,K,I,N,F.lenI,Int.lt_irrefl,E]
theorem awu(x:Ex):ndP x:=by
 induction x using Ex.ind with
 |h x ih=>
  intro cs H O hs
  obtain⟨a,I,rfl,E,J⟩:=H.cells
  rw[iD agX (by simp[Su]),Ex.wf_eq]
  have K:=x.nodes_eq
  have U:=kB x.args
  obtain⟨N,A4⟩:=(Ex.sm_eq x).1 hs
  have r:=nd1 x.args ih a I E J (by omega) A4 x.op x.num x.name 1
  have D:=j3 (PV x.name N)
  generalize x.op=op,x.num=num,x.name=name at*
  clear ih
  have V:FE op=if op=1∨op=2 then 1099511627776 else if op=3 then 1439 else 0:=rfl
  unfold tB
  by_cases h:1≤op∧op≤22
  ·have F:=aaU op h.1 h.2
   have Mw:=amR op x.args.length h.1 h.2 (by omega)
   simp only[qB,seval,Su,E.lenI,F,asS,D,asT,r]
   clear r F D
   repeat' (refine ifl (fun _=> ?_) (fun _=> ?_))
   all_goals refine congrArg (fun b=>some (T.b b,[])) ?_
   all_goals symm
   all_goals simp only[Bool.and_eq_true,Bool.and_eq_false_iff,decide_eq_true_eq,decide_eq_false_iff_not]
   all_goals grind
  ·simp only[qB,seval,Su]
   clear r D
   grind
theorem AY{x:Ex}(r:jD x=0):x.nodes≤200:=by
 unfold jD at r
 by_cases h:big x
 ·rw[if_pos h]at r;cases r
 ·unfold big at h;omega
theorem UI(x:Ex)(cs:List T)(E:mE x cs)(U:0≤x.nodes)(hs:x.sm): ∃s,be pE 89 [.agg cs] []=some (.i .i64 (jD x),s):=by
 obtain⟨V,r,_⟩:=ae0 x 1 0 cs E (by omega) (by omega)
 have F:=fun h=>awt x cs E h hs
 have Mw:k6 0 1 x↔ ¬big x:=by unfold k6 big;omega
 obtain⟨a,W,rfl,H,X⟩:=E.cells
 rw[iD ar9 (by simp[c89])]
 unfold FG at r
 have I:((0:Nat):Int)=0:=rfl
 have J:((1:Nat):Int)=1:=rfl
 rw[I,J]at r
 unfold jD
 by_cases D:big x
 ·have N: ¬k6 0 1 x:=fun h=>Mw.1 h D
  rw[decide_eq_false N]at r
  simp only[qA,seval,jA,kP,c89,r,Qh,H.kept1,D]
  exact⟨_,rfl⟩
 ·have K:=F (by unfold big at D;omega)
  rw[decide_eq_true (Mw.2 D)]at r
  cases O:x.wf <;> rw[O]at K <;> simp only[qA,seval,jA,kP,c89,r,Qh,K,agN,H.kept1,H.froz1,D] <;> exact⟨_,rfl⟩
theorem uy{z:Nat}{fr:Fr}{lh:iL iy}{sh:List iy}(x:Ex)(cs:List T)(r:mE x cs)(D:0≤x.nodes)(hs:x.sm):jy pE (be pE) z ⟨fr,lh,sh⟩ 89 [.agg cs]=some (.i .i64 (jD x),⟨fr,lh,sh⟩):=by
 obtain⟨s,h⟩:=UI x cs r D hs
 obtain⟨a,F,rfl,E,H⟩:=r.cells
 rw[aAH (by simp[Me,As,Jd,E.froz1]),h];rfl
theorem rH(x:Ex)(cs:List T)(E:mE x cs)(hs:x.sm):be pE 103 [.agg cs] []=some (.i .i64 (jD x),[]):=by
 have F:=afP x cs E
 have Da:=alK x
 have K:=awu x cs E
 obtain⟨a,O,rfl,H,U⟩:=E.cells
 rw[iD agw (by simp[Od])]
 unfold jD
 generalize x.sz 1=p at*
 by_cases I:(200:Int)<(p.1:Int)
 ·have r:big x:=Da.1 (by omega)
  simp only[qA,seval,Od,F,W5,H.froz1,r,I]
 ·by_cases J:(16:Int)<(p.2:Int)
  ·have r:big x:=Da.1 (by omega)
   simp only[qA,seval,Od,F,W5,H.froz1,r,I,J]
  ·have r: ¬big x:=fun h=>by have:=Da.2 h;omega
   have D:=K (by unfold big at r;omega) hs
   cases N:x.wf <;> rw[N]at D <;> simp only[qA,seval,Od,F,W5,H.froz1,r,I,J,D,agY]
theorem kb(l:List Int):(ints l).length=l.length:=by simp[ints]
theorem pa(l:List Int)(k:Nat)(hk:k<l.length):(ints l).drop k=T.i .i64 l[k]::(ints l).drop (k+1):=by
 rw[List.drop_eq_getElem_cons (by rw[kb];exact hk)];simp[ints]
theorem tC{a:T}{ts:List Int}(r:iJ a ts.length (ints ts)){k:Nat}(hk:k<ts.length)(kk:IntKind):ng a (.i kk (k:Int)) 1=some (.vp (T.i .i64 ts[k]::(ints ts).drop (k+1))):=by
 rw[r.ia (sz:=1) (by rw[kb];omega) hk,Nat.mul_one,pa ts k hk]
theorem Ij{ts:List Int}{k:Nat}{t:Int}(hk:k<ts.length):nF (ts.drop k) t=(decide (ts[k]=t)&&nF (ts.drop (k+1)) t):=by
 unfold nF;rw[List.drop_eq_getElem_cons hk,List.all_cons]
theorem awv(ts:List Int)(t:Int)(a:T)(J:iJ a ts.length (ints ts))(hlen:ts.length≤pG)(o:Out)(K:o=if nF ts t then .ext 0 else .ret)(fr:Fr)(lh:iL iy)(sh:List iy)
  (E:an fr 1= .i .i64 t) (F:an fr 7=a) (D:an fr 8= .i .i64 (ts.length:Int)) (H:an fr 9= .i .i64 0):
  qG 17 sN fr lh sh o∧
  ((nF ts t=false→an (pb pE 17 sN fr lh sh) 4= .b false)∧nh pE 17 sN fr lh sh=lh∧nB pE 17 sN fr lh sh=sh):=by
 refine jh (P:=fun fr U V=>(nF ts t=false→an fr 4= .b false)∧U=lh∧V=sh) (jx (fun k st=> ∃(fr:Fr),st=⟨fr,lh,sh⟩∧an fr 1= .i .i64 t∧an fr 7=a∧an fr 8= .i .i64 (ts.length:Int)∧an fr 9= .i .i64 (k:Int)∧nF ts t=nF (ts.drop k) t) _ ts.length ?_ ?_ 0 _ (Nat.zero_le _) ⟨fr,rfl,E,F,D,H,rfl⟩)
 ·rintro k _ hk ⟨fr,rfl,E,F,D,H,r⟩
  have N:(k:Int)<ts.length:=by omega
  have W:=iZ (k:=k) (by omega)
  rw[Ij hk]at r
  by_cases I:ts[k]=t
  ·left
   rw[decide_eq_true I,Bool.true_and]at r
   simp only[qA,seval,sN,E,F,D,H,N,tC J hk,W,I]
   refine⟨_,rfl,_,rfl, ?_, ?_, ?_, ?_,r⟩ <;> simp only[qA,seval,E,F,D]
  ·right
   rw[decide_eq_false I,Bool.false_and]at r
   simp only[qA,seval,sN,E,F,D,H,N,tC J hk,I]
   refine⟨_,_,Lw,rfl,by rw[K,r];rfl,fun _=>by simp only[qA,seval],rfl,rfl⟩
 ·rintro _ ⟨fr,rfl,E,F,D,H,r⟩
  rw[List.drop_length]at r
  have r:nF ts t=true:=r
  simp only[qA,seval,sN,D,H,Int.lt_irrefl]
  exact⟨_,_,oH,rfl,by rw[K,r];rfl,fun O=>(by rw[r]at O;cases O),rfl,rfl⟩
theorem RQ(ts:List Int)(t:Int)(a:T)(r:iJ a ts.length (ints ts))(hlen:ts.length≤pG):be pE 177 [a,.i .i64 t] []=some (.b (nF ts t),[]):=by
 have D:=fun fr lh sh=>awv ts t a r hlen _ rfl fr lh sh
 rw[iD ahJ (by simp[Wn])]
 cases h:nF ts t <;> simp only[h]at D <;> simp only[qA,seval,Wn,r.lenI,D]
theorem aww(ts:List Int)(t:Int)(a:T)(H:iJ a ts.length (ints ts))(hlen:ts.length≤pG)(o:Out)(J:o=if nF ts t then .ext 0 else .ret)(fr:Fr)(lh:iL iy)(sh:List iy)
  (D:an fr 0=a) (E:an fr 1= .i .i64 t) (F:an fr 5= .i .i64 0):
  qG 18 sL fr lh sh o∧
  ((nF ts t=false→an (pb pE 18 sL fr lh sh) 4= .b false)∧nh pE 18 sL fr lh sh=lh∧nB pE 18 sL fr lh sh=sh):=by
 refine jh (P:=fun fr O U=>(nF ts t=false→an fr 4= .b false)∧O=lh∧U=sh) (jx (fun k st=> ∃(fr:Fr),st=⟨fr,lh,sh⟩∧an fr 0=a∧an fr 1= .i .i64 t∧an fr 5= .i .i64 (k:Int)∧nF ts t=nF (ts.drop k) t) _ ts.length ?_ ?_ 0 _ (Nat.zero_le _) ⟨fr,rfl,D,E,F,rfl⟩)
 ·rintro k _ hk ⟨fr,rfl,D,E,F,r⟩
  have K:(k:Int)<ts.length:=by omega
  have V:=iZ (k:=k) (by omega)
  rw[Ij hk]at r
  by_cases I:ts[k]=t
  ·left
   rw[decide_eq_true I,Bool.true_and]at r
   simp only[qA,seval,sL,D,E,F,H.lenI,K,tC H hk,V,I]
   refine⟨_,rfl,_,rfl, ?_, ?_, ?_,r⟩ <;> simp only[qA,seval,D,E]
  ·right
   rw[decide_eq_false I,Bool.false_and]at r
   simp only[qA,seval,sL,D,E,F,H.lenI,K,tC H hk,I]
   refine⟨_,_,Lw,rfl,by rw[J,r];rfl,fun _=>by simp only[qA,seval],rfl,rfl⟩
 ·rintro _ ⟨fr,rfl,D,E,F,r⟩
  rw[List.drop_length]at r
  have r:nF ts t=true:=r
  simp only[qA,seval,sL,D,F,H.lenI,Int.lt_irrefl]
  exact⟨_,_,oH,rfl,by rw[J,r];rfl,fun N=>(by rw[r]at N;cases N),rfl,rfl⟩
theorem afS(ts:List Int)(t:Int)(a:T)(D:iJ a ts.length (ints ts))(hlen:ts.length≤pG):be pE 163 [a,.i .i64 t] []=some (.b (nF ts t),[]):=by
 have r:=fun fr lh sh=>aww ts t a D hlen _ rfl fr lh sh
 rw[iD ahv (by simp[Wi])]
 cases h:nF ts t <;> simp only[h]at r <;> simp only[qA,seval,Wi,r]
theorem Ik(k:Int):be pE 176 [.i .i64 k] []=some (.b (decide (k=1∨k=2)),[]):=by
 rw[iD Xg (by simp[SK])]
 by_cases r:k=1
 ·simp only[qA,seval,SK,r,true_or]
 ·by_cases D:k=2 <;> simp only[qA,seval,SK,r,D,or_true,or_self]
theorem Gf(op a b:Int):be pE 178 [.i .i64 op,.i .i64 a,.i .i64 b] []=some (.i .i64 (FF op a b),[]):=by
 rw[iD Xh (by simp[BF])]
 unfold FF
 by_cases a1:a=1
 ·subst a1
  by_cases r:b=1
  ·simp only[qA,seval,BF,r]
  ·by_cases D:op=10
   ·by_cases F:b=2 <;> simp only[qA,seval,BF,r,F,D]
   ·by_cases E:op=11 <;> simp only[qA,seval,BF,r,D,E]
 ·by_cases a2:a=2
  ·subst a2
   by_cases r:b=1
   ·simp only[qA,seval,BF,r]
   ·by_cases D:op=10
    ·simp only[qA,seval,BF,r,D]
    ·by_cases E:op=11
     ·by_cases F:b=2 <;> simp only[qA,seval,BF,r,F,E]
     ·simp only[qA,seval,BF,r,D,E]
  ·by_cases D:op=10
   ·simp only[qA,seval,BF,a1,a2,D]
   ·by_cases E:op=11 <;> simp only[qA,seval,BF,a1,a2,D,E]
theorem sw{a:T}{t:Int}{ts:List Int}(r:iJ a (t::ts).length (ints (t::ts))): ∃ex,a= .sl (.i .i64 t::ints ts) (ts.length+1) ex:=by
 rcases r with⟨_,h,_⟩|⟨ex,h⟩
 ·simp at h
 ·exact⟨ex,h⟩
theorem PX{ts:List Int}(h:ts.length=1): ∃a,ts= [a]:=by
 match ts,h with
 | [a],_=>grind
theorem pI{ts:List Int}(h:ts.length=2): ∃a b,ts= [a,b]:=by
 match ts,h with
 | [a,b],_=>grind
theorem Nq{ts:List Int}(h:ts.length=3): ∃a b c,ts= [a,b,c]:=by
 match ts,h with
 | [a,b,c],_=>grind
theorem rI(t:Int)(ts:List Int)(k:Int):nF (t::ts) k=(decide (t=k)&&nF ts k):=rfl
theorem Nr(k:Int):nF [] k=true:=rfl
theorem aaW(t:Int)(ts:List Int):(if nF (t::ts) 1 then(1:Int)else if nF (t::ts) 2 then 2 else 0)=if(t=1∨t=2)∧nF (t::ts) t=true then t else 0:=by
 rw[rI,rI,rI,decide_eq_true (p:=t=t) rfl,Bool.true_and]
 grind
theorem uz(op k:Int)(ts:List Int)(a:T)(r:iJ a ts.length (ints ts))(hl:ts.length≤pG)(h:op=15∧k=3∨(op=19∨op=20∨op=21∨op=22)∧k=4):be pE 179 [.i .i64 op,a] []=some (.b (nF ts k),[]):=by
 have D:=RQ ts k a r hl
 rw[iD Qo (by simp[GB])]
 rcases h with⟨rfl,rfl⟩|⟨rfl|rfl|rfl|rfl,rfl⟩ <;> simp only[qA,seval,GB,D,ahK,r.froz]
theorem Il(op x y:Int)(a:T)(E:iJ a 2 (ints [x,y]))(h:op=16∨op=17):be pE 179 [.i .i64 op,a] []=some (.b (decide ((x=1∨x=2)∧x=y)),[]):=by
 obtain⟨ex,rfl⟩:=sw (ts:= [y]) E
 have r:=Ik x
 rw[iD Qo (by simp[GB])]
 by_cases D:x=1∨x=2
 ·rw[decide_eq_true D]at r
  rcases h with rfl|rfl <;> simp only[qA,seval,kG,jw,iN,GB,r,Qn,ahI,ints,D]
 ·rw[decide_eq_false D]at r
  rcases h with rfl|rfl <;> simp only[qA,seval,kG,jw,GB,r,Qn,ahI,ints,D]
theorem aaX(x y:Int)(a:T)(r:iJ a 2 (ints [x,y])):be pE 179 [.i .i64 18,a] []=some (.b (decide (x=y)),[]):=by
 obtain⟨ex,rfl⟩:=sw (ts:= [y]) r
 rw[iD Qo (by simp[GB])]
 simp only[qA,seval,kG,jw,GB,ints]
theorem PY(op:Int)(ts:List Int)(a:T)(r:iJ a ts.length (ints ts))(hl:ts.length≤pG)(O:1≤op)(U:op≤22)(X:op≠6)(D:kS op ts.length=true):be pE 156 [.i .i64 op,a] []=some (.i .i64 (qW op ts),[]):=by
 rw[iD ahn (by simp[tH])]
 have AP: ∀t ER,ts=t::ER→(op=7∨op=8∨op=9∨op=12∨op=13)→Ar tH.res tH.eff (DC pE tH.n tH.code ⟨qx [.i .i64 op,a],.nil,[]⟩)=some (.i .i64 (if(t=1∨t=2)∧nF ts t=true then t else 0),[]):=by
  rintro t ER rfl H
  have K:=RQ (t::ER) t a r hl
  have I:=Ik t
  obtain⟨ex,rfl⟩:=sw r
  have N:0<ER.length+1:=Nat.succ_pos _
  by_cases E:t=1∨t=2
  ·rw[decide_eq_true E]at I
   cases hk:nF (t::ER) t <;> rw[hk]at K <;> rcases H with rfl|rfl|rfl|rfl|rfl <;>
    simp only[qA,seval,kG,tH,I,Qn,K,ahK,E,N]
  ·rw[decide_eq_false E]at I
   rcases H with rfl|rfl|rfl|rfl|rfl <;> simp only[qA,seval,kG,tH,I,Qn,E,N]
 have Ns: ∀b:Bool,be pE 179 [.i .i64 op,a] []=some (.b b,[])→(op=15∨op=16∨op=17∨op=18∨op=19∨op=20∨op=21∨op=22)→Ar tH.res tH.eff (DC pE tH.n tH.code ⟨qx [.i .i64 op,a],.nil,[]⟩)=some (.i .i64 (if b=true then 4 else 0),[]):=by
  intro b V H
  cases b <;> rcases H with rfl|rfl|rfl|rfl|rfl|rfl|rfl|rfl <;> simp only[qA,seval,tH,V,as4,r.froz]
 rcases su O U with rfl|rfl|rfl|rfl|rfl|rfl|rfl|rfl|rfl|rfl|rfl|rfl|rfl|rfl|rfl|rfl|rfl|rfl|rfl|rfl|rfl|rfl
 iterate 5 ·simp only[qA,seval,tH,qW]
 ·grind
 ·obtain⟨x,rfl⟩:=PX (by simpa[kS]using D)
  rw[AP x [] rfl (by simp),←aaW];rfl
 ·obtain⟨x,y,rfl⟩:=pI (by simpa[kS]using D)
  rw[AP x [y] rfl (by simp),←aaW];rfl
 ·obtain⟨x,y,rfl⟩:=pI (by simpa[kS]using D)
  rw[AP x [y] rfl (by simp),←aaW];rfl
 ·obtain⟨x,y,rfl⟩:=pI (by simpa[kS]using D)
  obtain⟨ex,rfl⟩:=sw r
  have J:=Gf 10 x y
  simp only[qA,seval,kG,jw,iN,tH,ints,J,ahL,ahM];rfl
 ·obtain⟨x,y,rfl⟩:=pI (by simpa[kS]using D)
  obtain⟨ex,rfl⟩:=sw r
  have J:=Gf 11 x y
  simp only[qA,seval,kG,jw,iN,tH,ints,J,ahL,ahM];rfl
 ·match ts,D with
  |x::ts,_=>rw[AP x ts rfl (by simp),←aaW];rfl
 ·match ts,D with
  |x::ts,_=>rw[AP x ts rfl (by simp),←aaW];rfl
 ·obtain⟨x,y,z,rfl⟩:=Nq (by simpa[kS]using D)
  obtain⟨ex,rfl⟩:=sw r
  have F:qW 14 [x,y,z]=if x=4∧y=z then y else 0:=rfl
  rw[F]
  by_cases E:x=4
  ·by_cases W:y=z <;> simp only[qA,seval,kG,jw,iN,tH,ints,E,W]
  ·simp only[qA,seval,kG,jw,iN,tH,ints,E]
 ·exact Ns _ (uz 15 3 ts a r hl (by simp)) (by simp)
 ·obtain⟨x,y,rfl⟩:=pI (by simpa[kS]using D)
  rw[Ns _ (Il 16 x y a r (by simp)) (by simp)]
  have F:qW 16 [x,y]=if(x=1∨x=2)∧x=y then 4 else 0:=rfl
  rw[F];simp only[decide_eq_true_eq]
 ·obtain⟨x,y,rfl⟩:=pI (by simpa[kS]using D)
  rw[Ns _ (Il 17 x y a r (by simp)) (by simp)]
  have F:qW 17 [x,y]=if(x=1∨x=2)∧x=y then 4 else 0:=rfl
  rw[F];simp only[decide_eq_true_eq]
 ·obtain⟨x,y,rfl⟩:=pI (by simpa[kS]using D)
  rw[Ns _ (aaX x y a r) (by simp)]
  have F:qW 18 [x,y]=if x=y then 4 else 0:=rfl
  rw[F];simp only[decide_eq_true_eq]
 ·exact Ns _ (uz 19 4 ts a r hl (by simp)) (by simp)
 ·exact Ns _ (uz 20 4 ts a r hl (by simp)) (by simp)
 ·exact Ns _ (uz 21 4 ts a r hl (by simp)) (by simp)
 ·exact Ns _ (uz 22 4 ts a r hl (by simp)) (by simp)
theorem PZ(op:Int)(ts:List Int)(a:T)(D:iJ a ts.length (ints ts))(hl:ts.length≤pG)(F:1≤op)(H:op≤22)(I:op≠6)(E:kS op ts.length=true):be pE 138 [.i .i64 op,a] []=some (.i .i64 (qW op ts),[]):=by
 rw[iD ag2 (by simp[Lv])]
 have w:=fun k=>j3 (afS ts k a D hl)
 have r:=D.froz
 rcases su F H with rfl|rfl|rfl|rfl|rfl|rfl|rfl|rfl|rfl|rfl|rfl|rfl|rfl|rfl|rfl|rfl|rfl|rfl|rfl|rfl|rfl|rfl
 all_goals first
  |exact absurd rfl I
  |(simp only[qB,seval,Lv,w,Ql,r,qW];done)
  |(simp only[qB,seval,Lv,w,Ql,r,qW];clear w;grind;done)
  |(obtain⟨x,y,rfl⟩:=pI (by simpa[kS]using E);obtain⟨ex,rfl⟩:=sw D;simp only[seval,ints,List.map_cons,List.map_nil,List.length_cons,List.length_nil,Nat.zero_add]at w r;simp only[qB,seval,kG,Lv,ints,w,Ql,r];clear w;simp only[qW,FF,a0,a1,a2,rI,Nr];grind;done)
  |(obtain⟨x,y,z,rfl⟩:=Nq (by simpa[kS]using E);obtain⟨ex,rfl⟩:=sw D;simp only[seval,ints,List.map_cons,List.map_nil,List.length_cons,List.length_nil,Nat.zero_add]at w r;simp only[qB,seval,kG,Lv,ints,w,Ql,r];clear w;simp only[qW,FF,a0,a1,a2,rI,Nr];grind;done)
def lB:Cs→List T→Prop
 | [],cs=>cs= []
 |c::l,cs=> ∃ex r,cs=(T.s c.1::ex)++r∧mE c.2 ex∧lB l r
theorem lB.len: ∀{l:Cs} {cs:List T},lB l cs→cs.length=l.length*5
 | [],cs,h=>by grind [lB]
 |c::l,cs,h=>by
  rw[lB]at h
  obtain⟨ex,r,rfl,D,E⟩:=h
  rw[List.length_append,List.length_cons,D.len,E.len,List.length_cons];omega
theorem lB.drop: ∀{l:Cs} {cs:List T} (k:Nat) (hk:k<l.length),lB l cs→ ∃ex r,cs.drop (k*5)=(T.s l[k].1::ex)++r∧mE l[k].2 ex∧lB (l.drop (k+1)) r
 | [],cs,k,hk,h=>by simp at hk
 |x::xs,cs,0,hk,h=>by
  grind [lB]
 |x::xs,cs,k+1,hk,h=>by
  rw[lB]at h
  obtain⟨c,r,rfl,D,E⟩:=h
  obtain⟨F,H,e,I,J⟩:=lB.drop k (by simpa using hk) E
  refine⟨F,H, ?_,I,by simpa using J⟩
  have:(k+1)*5=(T.s x.1::c).length+k*5:=by rw[List.length_cons,D.len];omega
  grind [List.drop_append,Nat.add_sub_cancel_left,List.drop_eq_nil_of_le]
theorem lB.take: ∀{l:Cs} {cs:List T} (k:Nat),lB l cs→lB (l.take k) (cs.take (k*5))
 |l,cs,0,h=>by simp[lB]
 | [],cs,k+1,h=>by grind [lB]
 |x::xs,cs,k+1,h=>by
  rw[lB]at h
  obtain⟨c,r,rfl,D,E⟩:=h
  have:(k+1)*5=(T.s x.1::c).length+k*5:=by rw[List.length_cons,D.len];omega
  rw[List.take_succ_cons,lB]
  refine⟨c,r.take (k*5), ?_,D,lB.take k E⟩
  grind [List.take_append,Nat.add_sub_cancel_left,List.take_of_length_le]
theorem mH{l:Cs}{a:T}{E:List T}(I:iJ a l.length E)(F:lB l E)(k:Nat)(hk:k<l.length):
  ∃b D r,(∀kk,ng a (.i kk (k:Int)) 5=some (.vp (.s l[k].1:: .i .i64 l[k].2.op:: .i .i64 l[k].2.num:: .s l[k].2.name::b::r)))∧iJ b l[k].2.args.length D∧kz l[k].2.args D∧mE l[k].2 [.i .i64 l[k].2.op,.i .i64 l[k].2.num,.s l[k].2.name,b]:=by
 obtain⟨c,r,e,H,N⟩:=lB.drop k hk F
 obtain⟨b,D,rfl,J,K⟩:=H.cells
 refine⟨b,D,r,fun kk=> ?_,J,K,H⟩
 rw[I.ia (sz:=5) F.len hk,e];rfl
theorem J2: ∀{l:Cs} {s:List Nat} {i:Nat},mS l s=some i→i<l.length
 | [],s,i,h=>by simp[mS]at h
 |c::cs,s,i,h=>by
  rw[mS]at h
  split at h
  ·grind
  ·cases r:mS cs s with
   |none=>simp[r]at h
   |some j=>
    simp[r]at h
    have:=J2 r
    grind
theorem Ci{l:Cs}{s:List Nat}: ∀(k:Nat),k≤l.length→(∀j (h:j<k) (hl:j<l.length),l[j].1≠s)→mS l s=(mS (l.drop k) s).map (· +k)
 |0,_,_=>by simp
 |k+1,hk,h=>by
  have:=Ci (l:=l) k (by omega) fun j D hl=>h j (by omega) hl
  have r:k<l.length:=by omega
  rw[this,List.drop_eq_getElem_cons r,mS,if_neg (h k (by omega) r)]
  cases mS (l.drop (k+1)) s with
  |none=>rfl
  |some i=>simp;omega
theorem xR(l:Cs)(s:List Nat): ∀n,mS (l.take n) s=match mS l s with|some i=>if i<n then some i else none|none=>none:=by
 induction l with
 |nil=>intro n;simp[mS]
 |cons c l ih=>
  intro n
  cases n with
  |zero=>
   grind [mS]
  |succ n=>
   grind [mS,hi]
def aaY(l:Cs)(s:List Nat):Int:=match mS l s with|none=> -1|some i=>(i:Int)
theorem xM{l:Cs}{s:List Nat}{i:Nat}(h:mS l s=some i):aaY l s=(i:Int):=by unfold aaY;rw[h]
theorem Im{l:Cs}{s:List Nat}(h:mS l s=none):aaY l s= -1:=by unfold aaY;rw[h]
theorem awx(l:Cs)(s:List Nat)(a:T)(O:List T)(J:iJ a l.length O)(W:lB l O)(hs:l.length≤pG)(o:Out)(X:o=if mS l s=none then .ext 0 else .ret)(fr:Fr)(lh:iL iy)(sh:List iy)(D:an fr 0=a)(H:an fr 1= .s s)(I:an fr 5= .i .i64 0):
  qG 20 sI fr lh sh o∧
  ((∀i,mS l s=some i→an (pb pE 20 sI fr lh sh) 4= .i .i64 (i:Int))∧nh pE 20 sI fr lh sh=lh∧nB pE 20 sI fr lh sh=sh):=by
 refine jh (P:=fun fr Y Z=>(∀i,mS l s=some i→an fr 4= .i .i64 (i:Int))∧Y=lh∧Z=sh) (jx (fun k st=> ∃fr:Fr,st=⟨fr,lh,sh⟩∧an fr 0=a∧an fr 1= .s s∧an fr 5= .i .i64 (k:Int)∧k≤l.length∧ ∀j (h:j<k) (hl:j<l.length),l[j].1≠s) _ l.length ?_ ?_ 0 _ (Nat.zero_le _) ⟨fr,rfl,D,H,I,Nat.zero_le _,by simp⟩)
 ·rintro k _ hk ⟨fr,rfl,D,H,I,K,N⟩
  have U:(k:Int)<l.length:=by omega
  have hw:=iZ (k:=k) (by omega)
  have E:=Ci k K N
  rw[List.drop_eq_getElem_cons hk,mS]at E
  obtain⟨b,cb,r,V,_,_,_⟩:=mH J W k hk
  by_cases F:l[k].1=s
  ·right
   rw[if_pos F]at E
   simp only[Option.map_some,Nat.zero_add]at E
   simp only[qA,seval,sI,D,H,I,J.lenI,U,V,F]
   refine⟨_,_,Lw,rfl,by rw[X,E];rfl,fun i hi=> ?_,rfl,rfl⟩
   rw[E]at hi
   cases hi
   simp only[qA,seval]
  ·left
   simp only[qA,seval,sI,D,H,I,J.lenI,U,V,F,hw]
   refine⟨_,rfl,_,rfl, ?_, ?_, ?_,by omega, ?_⟩
   all_goals first|(simp only[qA,seval,D,H];done)|skip
   grind
 ·rintro _ ⟨fr,rfl,D,H,I,K,N⟩
  have E:=Ci l.length K N
  rw[List.drop_length,mS]at E
  simp only[qA,seval,sI,D,I,J.lenI,Int.lt_irrefl]
  grind
theorem JL(l:Cs)(s:List Nat)(a:T)(E:List T)(F:iJ a l.length E)(H:lB l E)(hs:l.length≤pG):be pE 137 [a,.s s] []=some (.i .i64 (aaY l s),[]):=by
 have r:=fun fr lh sh=>awx l s a E F H hs _ rfl fr lh sh
 rw[iD ag1 (by simp[Sv])]
 cases D:mS l s with
 |none=>
  rw[Im D]
  simp only[D,if_true,reduceCtorEq,false_implies,implies_true,true_and]at r
  simp only[qA,seval,Sv,r]
 |some i=>
  rw[xM D]
  simp only[D,reduceCtorEq,if_false,Option.some.injEq,forall_eq']at r
  simp only[qA,seval,Sv,r]
def J3(ts:List Int):Except Int (List Int)→Except Int (List Int)
 | .error e=> .error e
 | .ok us=> .ok (ts++us)
def P0:Except Int (List Int)→Out
 | .error _=> .ret
 | .ok _=> .ext 0
theorem Nt{cl:List Nat→Int×Int}{scope:Int}{xs:List Ex}{k:Nat}(hk:k<xs.length):qI cl scope (xs.drop k)=if(xs[k].ty cl scope).2≠0 then .error (xs[k].ty cl scope).2 else J3 [(xs[k].ty cl scope).1] (qI cl scope (xs.drop (k+1))):=by
 rw[xI hk,qI]
 split
 ·rfl
 ·cases qI cl scope (xs.drop (k+1)) <;> rfl
theorem Io(a b:List Int)(x:Except Int (List Int)):J3 a (J3 b x)=J3 (a++b) x:=by cases x <;> simp[J3]
theorem vI{cl:List Nat→Int×Int}{scope:Int}: ∀{xs:List Ex} {ts:List Int},qI cl scope xs= .ok ts→ts.length=xs.length
 | [],ts,h=>by grind [qI]
 |x::xs,ts,h=>by
  rw[qI]at h
  split at h
  ·cases h
  ·cases r:qI cl scope xs with
   |error e=>grind
   |ok us=>rw[r]at h;cases h;simp[vI r]
theorem pD{lh:iL iy}{sh:List iy}{v:T}{k n:Nat}{cs:List T}(h:jr lh v k 1 n cs)(r:n≤pG)(x:T)(ex:Bool):
  appW lh sh k 1 8 v (.sl [x] 1 ex)=some (Zd lh sh k 1 8 v (.sl [x] 1 ex),HL lh sh k 1 8 v (.sl [x] 1 ex))∧jr (HL lh sh k 1 8 v (.sl [x] 1 ex)) (Zd lh sh k 1 8 v (.sl [x] 1 ex)) k 1 (n+1) (cs++ [x])∧ ∀j,j≠k→a6 (HL lh sh k 1 8 v (.sl [x] 1 ex)) j=a6 lh j:=
 jr.appW h (m:=0) (by rw[I9];rfl) rfl (by unfold roomy;unfold pG at r;omega)
section
variable(l:Cs)(xH:List (Int×Int))(lT kT eT:T)(cl:List T)(hl:iJ lT l.length cl)(ls:lB l cl)(hlen:l.length≤pG)(amT:xH.length=l.length)(hk:iJ kT xH.length (ints (xH.map (·.1))))(he:iJ eT xH.length (ints (xH.map (·.2))))
def awy(scope:Int)(y:Ex):Prop:= ∀cs:List T,mE y cs→y.nodes≤100000→y.wf=true→be pE 106 [.agg [kT,eT],lT,.i .i64 scope,.agg cs] []=some (.tup [.i .i64 (y.ty (clk l xH) scope).1,.i .i64 (y.ty (clk l xH) scope).2],[])
include hl hk he
theorem aDf(scope:Int)(xs:List Ex)(ih: ∀y∈xs,awy l xH lT kT eT scope y)(a:T)(cc:List T)(Y:iJ a xs.length cc)(hx:kz xs cc)(hn:jX xs≤100000)(uq:zq xs=true)(op num:Int)(s:List Nat)(r:Except Int (List Int))(hr:r=qI (clk l xH) scope xs)(o:Out)(ho:o=P0 r)(g g4:Nat)(fr:Fr)(lh:iL iy)(sh:List iy)
  (N:an fr 1=lT) (O:an fr 2= .i .i64 scope) (U:an fr 4= .ptr .L 4 g4 0) (J:an fr 7= .ptr .L 7 g 0) (K:an fr 10= .nilsl) (H:an fr 11= .i .i64 0) (Z:a6 lh 4=⟨g4,.cells [kT,eT] 0 true⟩) (o7:a6 lh 7=⟨g,.cells [.i .i64 op,.i .i64 num,.s s,a] 0 true⟩):
  qG 80 oc fr lh sh o∧
  ((∀e,r= .error e→an (pb pE 80 oc fr lh sh) 8= .i .i64 0∧an (pb pE 80 oc fr lh sh) 9= .i .i64 e)∧(∀ts,r= .ok ts→jr (nh pE 80 oc fr lh sh) (an (pb pE 80 oc fr lh sh) 10) 43 1 ts.length (ints ts))∧
    a6 (nh pE 80 oc fr lh sh) 4=a6 lh 4∧a6 (nh pE 80 oc fr lh sh) 7=a6 lh 7∧nB pE 80 oc fr lh sh=sh):=by
 refine jh (P:=fun jB je jk=>(∀e,r= .error e→an jB 8= .i .i64 0∧an jB 9= .i .i64 e)∧(∀ts,r= .ok ts→jr je (an jB 10) 43 1 ts.length (ints ts))∧a6 je 4=a6 lh 4∧a6 je 7=a6 lh 7∧jk=sh)
  (jx (fun k st=> ∃(fr:Fr) (V:iL iy) (ts:List Int),st=⟨fr,V,sh⟩∧an fr 1=lT∧an fr 2= .i .i64 scope∧an fr 4= .ptr .L 4 g4 0∧an fr 7= .ptr .L 7 g 0∧an fr 11= .i .i64 (k:Int)∧a6 V 4=a6 lh 4∧a6 V 7=a6 lh 7∧
    jr V (an fr 10) 43 1 k (ints ts)∧ts.length=k∧r=J3 ts (qI (clk l xH) scope (xs.drop k))) _ xs.length ?_ ?_ 0 _ (Nat.zero_le _) ⟨fr,lh,[],rfl,N,O,U,J,H,rfl,rfl,by rw[K];exact jr.nil,rfl,by rw[hr,List.drop_zero];cases qI (clk l xH) scope xs <;> rfl⟩)
 ·rintro k _ DN ⟨fr,V,ts,rfl,N,O,U,J,H,F,D,hO,uD,E⟩
  rw[Z]at F
  rw[o7]at D
  have iU:(k:Int)<xs.length:=by omega
  have Ff:=kB xs
  have hyk:=nz (List.getElem_mem DN)
  have hw:=iZ (k:=k) (lK (by omega))
  obtain⟨b,cb,rr,iW,lE,uE,hb⟩:=nY Y hx k DN
  have W:=ih xs[k] (List.getElem_mem DN) _ hb (by omega) (xG.1 uq _ (List.getElem_mem DN))
  rw[Nt DN]at E
  by_cases I:(xs[k].ty (clk l xH) scope).2=0
  ·left
   rw[if_neg (by simp[I]),Io]at E
   have nQ:=pD hO (lK (by omega)) (sh:=sh) (T.i .i64 (xs[k].ty (clk l xH) scope).1) true
   generalize xs[k].ty (clk l xH) scope=q at W I E nQ
   obtain⟨q1,q2⟩:=q
   simp only at W I E nQ
   subst I
   generalize K:an fr 10=v10 at hO nQ
   simp only[qA,seval,repl,jw,iN,oc,N,O,U,J,K,H,F,D,Y.lenI,iU,iW,hw,W,WN,WO,lE.froz1,hk.froz1,he.froz1,hl.froz,hO.notS,nQ.1]
   refine⟨_,rfl,_,_,ts++ [q1],rfl, ?_, ?_, ?_, ?_, ?_, ?_, ?_, ?_,by simp[uD],E⟩
   all_goals first|(simp only[qA,seval,N,O,U,J];done)|skip
   ·grind
   ·grind
   ·simp only[qA,seval]
    grind [ints]
  ·right
   rw[if_pos (by simp[I])]at E
   generalize xs[k].ty (clk l xH) scope=q at W I E
   obtain⟨q1,q2⟩:=q
   simp only at W I E
   simp only[qA,seval,jw,iN,oc,N,O,U,J,H,F,D,Y.lenI,iU,iW,W,WN,WO,lE.froz1,hk.froz1,he.froz1,hl.froz,I]
   refine⟨_,_,Lw,rfl,by rw[ho,E];rfl,fun e he=> ?_,fun t X=>(by rw[E]at X;cases X),by rw[F,Z],by rw[D,o7],rfl⟩
   rw[E]at he
   cases he
   exact⟨by simp only[qA,seval],by simp only[qA,seval]⟩
 ·rintro _ ⟨fr,V,ts,rfl,N,O,U,J,H,F,D,hO,uD,E⟩
  rw[Z]at F
  rw[o7]at D
  rw[List.drop_length,qI,J3,List.append_nil]at E
  simp only[qA,seval,oc,J,H,D,Y.lenI,Int.lt_irrefl]
  refine⟨_,_,oH,rfl,by rw[ho,E];rfl,fun e he=>(by rw[E]at he;cases he),fun t X=> ?_,by rw[F,Z],by rw[D,o7],rfl⟩
  rw[E]at X
  cases X
  simp only[qA,seval]
  grind
include ls hlen amT
theorem aaZ(scope:Int)(x:Ex):awy l xH lT kT eT scope x:=by
 induction x using Ex.ind with
 |h x ih=>
  intro cs Y hn O
  obtain⟨a,Z,rfl,ha,zr⟩:=Y.cells
  rw[iD LB (by simp[GA]),Ex.ty_eq]
  have hnd:=x.nodes_eq
  rw[Ex.wf_eq,Bool.and_eq_true]at O
  obtain⟨U,Dd⟩:=O
  have r:=fun fr lh sh=>aDf l xH lT kT eT cl hl hk he scope x.args (fun y hy=>ih y hy) a Z ha zr (by omega) Dd x.op x.num x.name _ rfl _ rfl 1 1 fr lh sh
  have F:=AG scope x.name
  have Ve:=JL l x.name lT cl hl ls hlen
  have CG:=kB x.args
  have Dj:x.args.length≤pG:=lK (by omega)
  simp only[tB,Bool.and_eq_true,decide_eq_true_eq]at U
  obtain⟨H,I,mL,_,_⟩:=U
  by_cases E:x.op=6
  ·rw[if_pos E]
   have nw:x.args= []:=by
    grind [kS]
   rw[nw]at r
   simp only[qI,P0,reduceCtorEq,false_implies,implies_true,Except.ok.injEq,forall_eq',true_and]at r
   unfold ua at F
   by_cases D:lu scope x.name=0
   ·rw[if_neg (by simp[D])]
    rw[if_pos D,D]at F
    cases hi:mS l x.name with
    |none=>
     rw[Im hi]at Ve
     have:clk l xH x.name=(0,6):=by unfold clk;rw[hi]
     rw[this]
     simp only[qA,seval,GA,tG,E,r,F,yj,Ve,Qj,hl.froz]
    |some i=>
     rw[xM hi]at Ve
     have nv:=J2 hi
     have PB: ¬(i:Int)<0:=by omega
     have V:=fun kk=>tC (ts:=xH.map (·.1)) (by simpa using hk) (k:=i) (by simp;omega) kk
     have W:=fun kk=>tC (ts:=xH.map (·.2)) (by simpa using he) (k:=i) (by simp;omega) kk
     have:clk l xH x.name=xH[i]'(by omega):=by unfold clk;rw[hi];simp[List.getD_eq_getElem?_getD,List.getElem?_eq_getElem (show i<xH.length by omega)]
     rw[this]
     simp only[List.getElem_map]at V W
     simp only[qA,seval,GA,tG,E,r,F,yj,Ve,Qj,hl.froz,PB,V,W]
   ·rw[if_pos D]
    rw[if_neg D]at F
    simp only[qA,seval,GA,tG,E,r,F,yj]
  ·rw[if_neg E]
   cases J:qI (clk l xH) scope x.args with
   |error e=>
    simp only[J,P0,Except.error.injEq,reduceCtorEq,false_implies,implies_true,forall_eq',true_and]at r
    simp only[qA,seval,GA,r]
   |ok ts=>
    have Gg:=vI J
    simp only[J,P0,Except.ok.injEq,reduceCtorEq,false_implies,implies_true,forall_eq',true_and]at r
    have X:=fun fr lh sh h1 h2 h4 h7 K N o4 o7=>jr.fzV (sh:=sh) (keep:=false) (r fr lh sh h1 h2 h4 h7 K N o4 o7).2.1
    have Ac:=PZ x.op ts (ku ts.length (ints ts)) (oN (fun h0=>by rw[List.length_eq_zero_iff.1 h0];rfl)) (by rw[Gg];exact Dj) H I E (by rw[Gg];exact mL)
    by_cases D:qW x.op ts=0
    ·rw[D]at Ac
     simp only[qA,seval,GA,tG,E,r,X,Ac,ag3,D]
    ·simp only[qA,seval,GA,tG,E,r,X,Ac,ag3,D]
end
end Go.Proofs.YtjniffjppoklpaaGreat
