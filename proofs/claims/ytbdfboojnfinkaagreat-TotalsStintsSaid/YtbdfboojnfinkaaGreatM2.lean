/- Walks of functions of the program and of the reference, and their plain laws, part 2. Conditions: the theorems' own. -/
import Derived.Test.YtbdfboojnfinkaaGreatM1
import Derived.KernelRfl
set_option maxRecDepth 100000
set_option linter.unusedSimpArgs false
set_option linter.unusedVariables false
set_option maxHeartbeats 16000000
namespace Go.Proofs.YtbdfboojnfinkaaGreat
open Go Go.Ev
theorem ZQ(x:Ex):szP x:=by
 induction x using Ex.ind with
 |h x ih=>
  intro level cs F hl
  obtain⟨a,H,rfl,I,AJ⟩:=F.cells
  rw[im abB (by simp[Ot]),Ex.sz_eq]
  by_cases E:(16:Int)<(level:Int)
  ·have D:16<level:=by omega
   simp only[qA,seval,Ot,E,D]
  ·have D: ¬16<level:=by omega
   have J:=fun g fr lh sh=>aox x.args ih a H I AJ level (by omega) x.op x.num x.name g fr lh sh
   simp only[qA,seval,Ot,E,D,J 1]
theorem ZR(x:Ex)(cs:List T)(D:lv x cs):hZ pE 148 [.agg cs] []=some (.tup [.i .i64 ((x.sz 1).1:Int),.i .i64 ((x.sz 1).2:Int)],[]):=by
 have h:=ZQ x 1 cs D (by omega)
 obtain⟨a,F,rfl,E,AJ⟩:=D.cells
 rw[im aa4 (by simp[Rl])]
 simp only[qA,seval,Rl,Sv,E.froz1]at h ⊢
 simp only[qA,seval,h]
theorem qz{op:Int}(h:1≤op)(D:op≤22):op=1∨op=2∨op=3∨op=4∨op=5∨op=6∨op=7∨op=8∨op=9∨op=10∨op=11∨op=12∨op=13∨op=14∨op=15∨op=16∨op=17∨op=18∨op=19∨op=20∨op=21∨op=22:=by omega
theorem LG(op:Int)(n:Nat)(h:1≤op)(D:op≤22):hZ pE 190 [.i .i64 op,.i .i64 (n:Int)] []=some (.b (j5 op n),[]):=by
 have E:decide ((n:Int)=0)=decide (n=0):=by rw[decide_eq_decide];omega
 have F:decide ((n:Int)=1)=decide (n=1):=by rw[decide_eq_decide];omega
 have H:decide ((n:Int)=2)=decide (n=2):=by rw[decide_eq_decide];omega
 have I:decide ((n:Int)=3)=decide (n=3):=by rw[decide_eq_decide];omega
 have J:decide ((2:Int)≤n)=decide (2≤n):=by rw[decide_eq_decide];omega
 rw[im abH (by simp[RD])]
 rcases qz h D with rfl|rfl|rfl|rfl|rfl|rfl|rfl|rfl|rfl|rfl|rfl|rfl|rfl|rfl|rfl|rfl|rfl|rfl|rfl|rfl|rfl|rfl <;>
  simp only[qA,seval,RD,j5,E,F,H,I,J,or_true,or_false,or_self]
def ZS(op:Int):Int:=if op≤6 then 0 else if op=7∨op=19 then 1 else if op=12∨op=13 then 2 else if op=14∨op=15 then 3 else 2
def ZT(op:Int):Int:=if op≤6 then 0 else if op=7∨op=19 then 1 else if op=12∨op=13 then 200 else if op=14∨op=15 then 3 else 2
theorem VB(op:Int)(h:1≤op)(D:op≤22):hZ pE 186 [.i .i64 op] []=some (.tup [.i .i64 (ZS op),.i .i64 (ZT op)],[]):=by
 rw[im abC (by simp[RB])]
 rcases qz h D with rfl|rfl|rfl|rfl|rfl|rfl|rfl|rfl|rfl|rfl|rfl|rfl|rfl|rfl|rfl|rfl|rfl|rfl|rfl|rfl|rfl|rfl <;>
  simp only[qA,seval,RB,ZS,ZT,or_true,or_false,or_self]
theorem agt(op:Int)(n:Nat)(h:1≤op)(D:op≤22)(E:n≤200):j5 op n=true↔ ¬(n:Int)<ZS op∧ ¬ZT op<(n:Int):=by
 grind [j5,ZS,ZT,Int.reduceLE,Int.reduceEq]
theorem GB: ∀{s:List Nat} {i:Nat},oK s=some i→i<s.length
 | [],i,h=>by simp[oK]at h
 |c::cs,i,h=>by
  rw[oK]at h
  split at h
  ·grind
  ·cases D:oK cs with
   |none=>simp[D]at h
   |some j=>
    simp[D]at h
    have:=GB D
    grind
theorem zP{s:List Nat}: ∀(k:Nat),k≤s.length→(∀j (h:j<k) (hl:j<s.length),s[j]≠46)→oK s=(oK (s.drop k)).map (· +k)
 |0,_,_=>by simp
 |k+1,hk,h=>by
  have:=zP (s:=s) k (by omega) fun j E hl=>h j (by omega) hl
  have D:k<s.length:=by omega
  rw[this,List.drop_eq_getElem_cons D,oK,if_neg (h k (by omega) D)]
  cases oK (s.drop (k+1))with
  |none=>rfl
  |some i=>simp;omega
theorem agu(s:List Nat)(hs:s.length≤mJ)(o:Out)(O:o=if oK s=none then .ext 0 else .ret)(fr:Fr)(lh:iz ib)(sh:List ib)(D:an fr 0= .s s)(H:an fr 1= .i .u8 46)(I:an fr 5= .i .i64 0):
  rD 18 qM fr lh sh o∧
  ((∀i,oK s=some i→an (pw pE 18 qM fr lh sh) 4= .i .i64 (i:Int))∧lZ pE 18 qM fr lh sh=lh∧ng pE 18 qM fr lh sh=sh):=by
 refine jc (P:=fun fr U V=>(∀i,oK s=some i→an fr 4= .i .i64 (i:Int))∧U=lh∧V=sh) (jm (fun k st=> ∃fr:Fr,st=⟨fr,lh,sh⟩∧an fr 0= .s s∧an fr 1= .i .u8 46∧an fr 5= .i .i64 (k:Int)∧k≤s.length∧ ∀j (h:j<k) (hl:j<s.length),s[j]≠46) _ s.length ?_ ?_ 0 _ (Nat.zero_le _) ⟨fr,rfl,D,H,I,Nat.zero_le _,by simp⟩)
 ·rintro k _ hk ⟨fr,rfl,D,H,I,J,K⟩
  have N:(k:Int)<s.length:=by omega
  have W:=yb (k:=k) (by omega)
  have E:=zP k J K
  rw[List.drop_eq_getElem_cons hk,oK]at E
  by_cases X:s[k]=46
  ·right
   have F:(s[k]:Int)=46:=by omega
   rw[if_pos X]at E
   simp only[Option.map_some,Nat.zero_add]at E
   simp only[qA,seval,qM,D,H,I,N,we hk,F]
   refine⟨_,_,HS,rfl,by rw[O,E];rfl,fun i hi=> ?_,rfl,rfl⟩
   rw[E]at hi
   cases hi
   simp only[qA,seval]
  ·left
   have F: ¬(s[k]:Int)=46:=by omega
   simp only[qA,seval,qM,D,H,I,N,we hk,F,W]
   refine⟨_,rfl,_,rfl, ?_, ?_, ?_,by omega, ?_⟩
   all_goals first|(simp only[qA,seval,D,H];done)|skip
   grind
 ·rintro _ ⟨fr,rfl,D,H,I,J,K⟩
  have E:=zP s.length J K
  rw[List.drop_length,oK]at E
  simp only[qA,seval,qM,D,I,Int.lt_irrefl]
  grind
def DX(s:List Nat):Int:=match oK s with|none=> -1|some i=>(i:Int)
theorem VC(s:List Nat)(hs:s.length≤mJ):hZ pE 140 [.s s,.i .u8 46] []=some (.i .i64 (DX s),[]):=by
 have h:=fun fr lh sh=>agu s hs _ rfl fr lh sh
 rw[im aa0 (by simp[Oa])]
 unfold DX
 cases D:oK s with
 |none=>
  simp only[D,if_true,reduceCtorEq,false_implies,implies_true,true_and]at h
  simp only[qA,seval,Oa,h]
 |some i=>
  simp only[D,reduceCtorEq,if_false,Option.some.injEq,forall_eq']at h
  simp only[qA,seval,Oa,h]
theorem ET{fr:Fr}{D:List Nat}{x:iD}{k:IntKind}{j:Nat}(h:rd fr x= .i k (j:Int))(E:j≤D.length):te fr (.s D) (some x) none=some (.s (D.drop j)):=by
 grind [te,ky,F2,List.take_of_length_le]
theorem Nw{fr:Fr}{D:List Nat}{x:iD}{k:IntKind}{j:Nat}(h:rd fr x= .i k (j:Int))(E:j≤D.length):te fr (.s D) none (some x)=some (.s (D.take j)):=by
 grind [te,ky,F2]
theorem Ax{s:List Nat}{i:Nat}(h:oK s=some i):tl s=(ou (s.take i)&&ou (s.drop (i+1))):=by unfold tl;rw[h]
theorem Ay{s:List Nat}(h:oK s=none):tl s=rE s:=by unfold tl;rw[h]
theorem LH(s:List Nat)(hs:s.length≤mJ):hZ pE 187 [.s s] []=some (.b (tl s),[]):=by
 have D:=VC s hs
 unfold DX at D
 rw[im abD (by simp[Ou])]
 cases E:oK s with
 |none=>
  simp only[E]at D
  rw[Ay E]
  simp only[qA,seval,Ou,D,aa1,sf,RS]
 |some i=>
  simp only[E]at D
  rw[Ax E]
  have hi:=GB E
  have J: ¬(i:Int)<0:=by omega
  have I:=yb (k:=i) (by omega)
  have F:i≤s.length:=by omega
  have If:i+1≤s.length:=by omega
  generalize i+1=j at I If ⊢
  have K:=fun fr x (h:rd fr x= .i .i64 (j:Int))=>ET h If
  have H:=fun fr x (h:rd fr x= .i .i64 (i:Int))=>Nw h F
  cases N:ou (s.take i) <;> simp only[qA,seval,Ou,D,aa1,xT,Ec,J,I,K,H,N]
theorem Jr: ∀s:List Nat,idxN s 46=DX s
 | []=>rfl
 |c::cs=>by
  rw[idxN,Jr cs]
  unfold DX
  rw[oK]
  by_cases h:c=46
  ·simp[h]
  ·rw[if_neg h,if_neg h]
   cases oK cs with
   |none=>rfl
   |some i=>simp only[Option.map_some];rw[if_neg (by omega)];omega
theorem acI{z:Nat}{fr:Fr}{lh:iz ib}{sh:List ib}{s:List Nat}:je pE (hZ pE) z ⟨fr,lh,sh⟩ 231 [.s s,.s [46]]=some (.i .i64 (DX s),⟨fr,lh,sh⟩):=by
 rw[Tl (g:=idxE) rfl rfl,uA (by rfl),←Jr]
 rfl
theorem P5{s:List Nat}{i:Nat}(h:oK s=some i):DX s=(i:Int):=by unfold DX;rw[h]
theorem P6{s:List Nat}(h:oK s=none):DX s= -1:=by unfold DX;rw[h]
theorem apj{s:List Nat}(h:oK s=none):hZ pE 215 [.s s,.s [46]] []=some (.tup [.s s,.s [],.b false],[]):=by
 have D:hZ pE 228 [.s s,.s [46]] []=some (.tup [.s s,.s [],.b false],[]):=by
  rw[im Sz (by simp[Ko])]
  simp only[qA,seval,te,Ko,acI,P6 h]
 rw[im Sw (by simp[Kn])]
 simp only[qA,seval,Kn,D,ab3]
theorem apk{s:List Nat}{i:Nat}(hs:s.length≤mJ)(F:oK s=some i):hZ pE 215 [.s s,.s [46]] []=some (.tup [.s (s.take i),.s (s.drop (i+1)),.b true],[]):=by
 have hi:=GB F
 have I:(0:Int)≤i:=by omega
 have H:=yb (k:=i) (by omega)
 have D:i≤s.length:=by omega
 have If:i+1≤s.length:=by omega
 generalize i+1=j at H If ⊢
 have J:=fun fr x (h:rd fr x= .i .i64 (j:Int))=>ET h If
 have E:=fun fr x (h:rd fr x= .i .i64 (i:Int))=>Nw h D
 have K:hZ pE 228 [.s s,.s [46]] []=some (.tup [.s (s.take i),.s (s.drop j),.b true],[]):=by
  rw[im Sz (by simp[Ko])]
  simp only[qA,seval,Ko,acI,P5 F,I,H,J,E]
 rw[im Sw (by simp[Kn])]
 simp only[qA,seval,Kn,K,ab3]
theorem LI(s:List Nat)(hs:s.length≤mJ):hZ pE 191 [.s s] []=some (.b (tl s),[]):=by
 rw[im abI (by simp[Ov])]
 cases h:oK s with
 |none=>
  rw[Ay h]
  simp only[qA,seval,Ov,apj h,abV,se,xg]
 |some i=>
  have D:=apk hs h
  rw[Ax h]
  generalize i+1=j at D ⊢
  cases E:ou (s.take i) <;> simp only[qA,seval,Ov,D,abV,xU,HY,E]
mutual
def Ex.sm:Ex→Prop
 | .mk _ _ name args=>name.length≤mJ∧VD args
def VD:List Ex→Prop
 | []=>True
 |x::xs=>x.sm∧VD xs
end
theorem Ex.sm_eq(x:Ex):x.sm↔(x.name.length≤mJ∧VD x.args):=by obtain⟨_,_,_,_⟩:=x;rw[Ex.sm];rfl
theorem GC: ∀{xs:List Ex},VD xs↔ ∀x∈xs,x.sm
 | []=>by simp[VD]
 |x::xs=>by rw[VD,GC (xs:=xs)];simp
def wfP(y:Ex):Prop:= ∀cs:List T,lv y cs→y.nodes≤100000→y.sm→hZ pE 158 [.agg cs] []=some (.b y.wf,[])
theorem Js{xs:List Ex}{k:Nat}(hk:k<xs.length):wP (xs.drop k)=(xs[k].wf&&wP (xs.drop (k+1))):=by rw[vA hk,wP]
theorem wf1(xs:List Ex)(ih: ∀y∈xs,wfP y)(a:T)(J:List T)(N:IsSl a xs.length J)(O:jx xs J)(hlen:jz xs≤100000)(U:VD xs)(fr:Fr)(lh:iz ib)(sh:List ib)
  (EU:an fr 59=a) (Dr:an fr 60= .i .i64 (xs.length:Int)) (EV:an fr 61= .i .i64 0):
  UC pE 69 xf fr lh sh 1 2 (wP xs=true) (.b false) (fun E F=>F=sh):=by
 refine qt Oi (by simp[iI]) (fun k f E F=>an f 61= .i .i64 (k:Int)∧F=sh∧wP xs=wP (xs.drop k)) xs.length ⟨EV,rfl,rfl⟩ ?_ ?_
 ·rintro k f E _ hk h ⟨H,rfl,D⟩
  have V:(k:Int)<xs.length:=by omega
  have I:=jQ xs
  have W:=l8 (List.getElem_mem hk)
  have X:=iG (k:=k) (kI (by omega))
  obtain⟨b,cb,r,Y,Z,tK,hb⟩:=nJ N O k hk
  have K:=jE (ih xs[k] (List.getElem_mem hk) _ hb (by omega) (GC.1 U _ (List.getElem_mem hk)))
  rw[Js hk]at D
  simp only[qB,seval,gd,xf,h,EU,Dr,H,V,Y,X,K,abg,Z.froz1]
  clear h K
  grind
 ·rintro f E _ h ⟨H,rfl,D⟩
  rw[List.drop_length,wP]at D
  simp only[qB,seval,gd,xf,h,Dr,H,Int.lt_irrefl,D]
theorem apl(x:Ex):wfP x:=by
 induction x using Ex.ind with
 |h x ih=>
  intro cs J U hs
  obtain⟨a,K,rfl,H,AJ⟩:=J.cells
  rw[im abf (by simp[Oj]),Ex.wf_eq]
  have N:=x.nodes_eq
  obtain⟨O,E⟩:=(Ex.sm_eq x).1 hs
  have F:=wf1 x.args ih a K H AJ (by omega) E
  have D:=jE (LI x.name O)
  generalize x.op=op,x.num=num,x.name=name at*
  clear ih
  have V:CE op=if op=1∨op=2 then 1099511627776 else if op=3 then 1439 else 0:=rfl
  unfold rF
  by_cases h:1≤op∧op≤22
  ·have I:=jE (LG op x.args.length h.1 h.2)
   simp only[qB,seval,Oj,H.lenI,I,amr,D,ams,F]
   clear F I D
   repeat' (refine ifl (fun _=> ?_) (fun _=> ?_))
   all_goals refine congrArg (fun b=>some (T.b b,[])) ?_
   all_goals symm
   all_goals simp only[Bool.and_eq_true,Bool.and_eq_false_iff,decide_eq_true_eq,decide_eq_false_iff_not]
   all_goals grind
  ·simp only[qB,seval,Oj]
   clear F D
   grind
def ndP(y:Ex):Prop:= ∀cs:List T,lv y cs→y.nodes≤200→y.sm→hZ pE 149 [.agg cs] []=some (.b y.wf,[])
theorem nd1(xs:List Ex)(ih: ∀y∈xs,ndP y)(a:T)(J:List T)(E:IsSl a xs.length J)(V:jx xs J)(hlen:jz xs≤200)(W:VD xs)(op num:Int)(s:List Nat)(g:Nat)(fr:Fr)(lh:iz ib)(sh:List ib)
  (K:an fr 1= .ptr .L 1 g 0) (X:an fr 6= .i .i64 0) (N:a6 lh 1=⟨g,.cells [.i .i64 op,.i .i64 num,.s s,a] 0 true⟩):
  UC pE 84 xc fr lh sh 1 2 (wP xs=true) (.b false) (fun O F=>F=sh):=by
 refine qt Od (by simp[iI]) (fun k f O F=>an f 6= .i .i64 (k:Int)∧O=lh∧F=sh∧wP xs=wP (xs.drop k)) xs.length ⟨X,rfl,rfl,rfl⟩ ?_ ?_
 ·rintro k f _ _ hk h ⟨H,rfl,rfl,D⟩
  have Y:(k:Int)<xs.length:=by omega
  have I:=jQ xs
  have Z:=l8 (List.getElem_mem hk)
  have hw:=iG (k:=k) (kI (by omega))
  obtain⟨b,cb,r,iS,kg,tK,hb⟩:=nJ E V k hk
  have U:=jE (ih xs[k] (List.getElem_mem hk) _ hb (by omega) (GC.1 W _ (List.getElem_mem hk)))
  rw[Js hk]at D
  simp only[qB,seval,gd,xc,h,K,H,N,E.lenI,Y,iS,hw,U,aa6,kg.froz1]
  clear h U
  grind
 ·rintro f _ _ h ⟨H,rfl,rfl,D⟩
  rw[List.drop_length,wP]at D
  simp only[qB,seval,gd,xc,h,K,H,N,E.lenI,Int.lt_irrefl,D]
theorem apm(x:Ex):ndP x:=by
 induction x using Ex.ind with
 |h x ih=>
  intro cs J U hs
  obtain⟨a,K,rfl,H,AJ⟩:=J.cells
  rw[im aa5 (by simp[Oe]),Ex.wf_eq]
  have N:=x.nodes_eq
  have Dz:=jQ x.args
  obtain⟨O,E⟩:=(Ex.sm_eq x).1 hs
  have F:=nd1 x.args ih a K H AJ (by omega) E x.op x.num x.name 1
  have D:=jE (LH x.name O)
  generalize x.op=op,x.num=num,x.name=name at*
  clear ih
  have V:CE op=if op=1∨op=2 then 1099511627776 else if op=3 then 1439 else 0:=rfl
  unfold rF
  by_cases h:1≤op∧op≤22
  ·have I:=VB op h.1 h.2
   have IX:=agt op x.args.length h.1 h.2 (by omega)
   simp only[qB,seval,Oe,H.lenI,I,amo,D,amp,F]
   clear F I D
   repeat' (refine ifl (fun _=> ?_) (fun _=> ?_))
   all_goals refine congrArg (fun b=>some (T.b b,[])) ?_
   all_goals symm
   all_goals simp only[Bool.and_eq_true,Bool.and_eq_false_iff,decide_eq_true_eq,decide_eq_false_iff_not]
   all_goals grind
  ·simp only[qB,seval,Oe]
   clear F D
   grind
theorem yq{x:Ex}(D:jh x=0):x.nodes≤200:=by
 unfold jh at D
 by_cases h:big x
 ·rw[if_pos h]at D;cases D
 ·unfold big at h;omega
theorem P7(x:Ex)(cs:List T)(F:lv x cs)(V:0≤x.nodes)(hs:x.sm): ∃s,hZ pE 112 [.agg cs] []=some (.i .i64 (jh x),s):=by
 obtain⟨W,D,_⟩:=Zp x 1 0 cs F (by omega) (by omega)
 have H:=fun h=>apl x cs F h hs
 have IX:ki 0 1 x↔ ¬big x:=by unfold ki big;omega
 obtain⟨a,X,rfl,I,AJ⟩:=F.cells
 rw[im aaF (by simp[N2])]
 unfold CG at D
 have J:((0:Nat):Int)=0:=rfl
 have K:((1:Nat):Int)=1:=rfl
 rw[J,K]at D
 unfold jh
 by_cases E:big x
 ·have O: ¬ki 0 1 x:=fun h=>IX.1 h E
  rw[decide_eq_false O]at D
  simp only[qA,seval,nl,kD,N2,D,Mb,I.kept1,E]
  exact⟨_,rfl⟩
 ·have N:=H (by unfold big at E;omega)
  rw[decide_eq_true (IX.2 E)]at D
  cases U:x.wf <;> rw[U]at N <;> simp only[qA,seval,nl,kD,N2,D,Mb,N,abg,I.kept1,I.froz1,E] <;> exact⟨_,rfl⟩
theorem sy{z:Nat}{fr:Fr}{lh:iz ib}{sh:List ib}(x:Ex)(cs:List T)(D:lv x cs)(E:0≤x.nodes)(hs:x.sm):je pE (hZ pE) z ⟨fr,lh,sh⟩ 112 [.agg cs]=some (.i .i64 (jh x),⟨fr,lh,sh⟩):=by
 obtain⟨s,h⟩:=P7 x cs D E hs
 obtain⟨a,H,rfl,F,AJ⟩:=D.cells
 rw[alJ (by simp[IE,xM,F3,F.froz1]),h];rfl
theorem pY(x:Ex)(cs:List T)(E:lv x cs)(hs:x.sm):hZ pE 94 [.agg cs] []=some (.i .i64 (jh x),[]):=by
 have F:=ZR x cs E
 have Ig:=afz x
 have K:=apm x cs E
 obtain⟨a,O,rfl,H,AJ⟩:=E.cells
 rw[im alz (by simp[c94])]
 unfold jh
 generalize x.sz 1=p at*
 by_cases I:(200:Int)<(p.1:Int)
 ·have D:big x:=Ig.1 (by omega)
  simp only[qA,seval,c94,F,Se,H.froz1,D,I]
 ·by_cases J:(16:Int)<(p.2:Int)
  ·have D:big x:=Ig.1 (by omega)
   simp only[qA,seval,c94,F,Se,H.froz1,D,I,J]
  ·have D: ¬big x:=fun h=>by have:=Ig.2 h;omega
   have WJ:=K (by unfold big at D;omega) hs
   cases N:x.wf <;> rw[N]at WJ <;> simp only[qA,seval,c94,F,Se,H.froz1,D,I,J,WJ,aa6]
theorem lB(l:List Int):(ints l).length=l.length:=by simp[ints]
theorem oG(l:List Int)(k:Nat)(hk:k<l.length):(ints l).drop k=T.i .i64 l[k]::(ints l).drop (k+1):=by
 rw[List.drop_eq_getElem_cons (by rw[lB];exact hk)];simp[ints]
theorem rG{a:T}{ts:List Int}(h:IsSl a ts.length (ints ts)){k:Nat}(hk:k<ts.length)(kk:IntKind):pv a (.i kk (k:Int)) 1=some (.vp (T.i .i64 ts[k]::(ints ts).drop (k+1))):=by
 rw[h.ia (sz:=1) (by rw[lB];omega) hk,Nat.mul_one,oG ts k hk]
theorem EW{ts:List Int}{k:Nat}{t:Int}(hk:k<ts.length):mi (ts.drop k) t=(decide (ts[k]=t)&&mi (ts.drop (k+1)) t):=by
 unfold mi;rw[List.drop_eq_getElem_cons hk,List.all_cons]
theorem apn(ts:List Int)(t:Int)(a:T)(J:IsSl a ts.length (ints ts))(hlen:ts.length≤oh)(o:Out)(K:o=if mi ts t then .ext 0 else .ret)(fr:Fr)(lh:iz ib)(sh:List ib)
  (E:an fr 1= .i .i64 t) (F:an fr 7=a) (D:an fr 8= .i .i64 (ts.length:Int)) (H:an fr 9= .i .i64 0):
  rD 17 qQ fr lh sh o∧
  ((mi ts t=false→an (pw pE 17 qQ fr lh sh) 4= .b false)∧lZ pE 17 qQ fr lh sh=lh∧ng pE 17 qQ fr lh sh=sh):=by
 refine jc (P:=fun fr U V=>(mi ts t=false→an fr 4= .b false)∧U=lh∧V=sh) (jm (fun k st=> ∃(fr:Fr),st=⟨fr,lh,sh⟩∧an fr 1= .i .i64 t∧an fr 7=a∧an fr 8= .i .i64 (ts.length:Int)∧an fr 9= .i .i64 (k:Int)∧mi ts t=mi (ts.drop k) t) _ ts.length ?_ ?_ 0 _ (Nat.zero_le _) ⟨fr,rfl,E,F,D,H,rfl⟩)
 ·rintro k _ hk ⟨fr,rfl,E,F,D,H,h⟩
  have N:(k:Int)<ts.length:=by omega
  have W:=iG (k:=k) (by omega)
  rw[EW hk]at h
  by_cases I:ts[k]=t
  ·left
   rw[decide_eq_true I,Bool.true_and]at h
   simp only[qA,seval,qQ,E,F,D,H,N,rG J hk,W,I]
   refine⟨_,rfl,_,rfl, ?_, ?_, ?_, ?_,h⟩ <;> simp only[qA,seval,E,F,D]
  ·right
   rw[decide_eq_false I,Bool.false_and]at h
   simp only[qA,seval,qQ,E,F,D,H,N,rG J hk,I]
   refine⟨_,_,HS,rfl,by rw[K,h];rfl,fun _=>by simp only[qA,seval],rfl,rfl⟩
 ·rintro _ ⟨fr,rfl,E,F,D,H,h⟩
  rw[List.drop_length]at h
  have h:mi ts t=true:=h
  simp only[qA,seval,qQ,D,H,Int.lt_irrefl]
  exact⟨_,_,qH,rfl,by rw[K,h];rfl,fun O=>(by rw[h]at O;cases O),rfl,rfl⟩
theorem Nx(ts:List Int)(t:Int)(a:T)(D:IsSl a ts.length (ints ts))(hlen:ts.length≤oh):hZ pE 218 [a,.i .i64 t] []=some (.b (mi ts t),[]):=by
 have E:=fun fr lh sh=>apn ts t a D hlen _ rfl fr lh sh
 rw[im abZ (by simp[RK])]
 cases h:mi ts t <;> simp only[h]at E <;> simp only[qA,seval,RK,D.lenI,E]
theorem apo(ts:List Int)(t:Int)(a:T)(H:IsSl a ts.length (ints ts))(hlen:ts.length≤oh)(o:Out)(J:o=if mi ts t then .ext 0 else .ret)(fr:Fr)(lh:iz ib)(sh:List ib)
  (D:an fr 0=a) (E:an fr 1= .i .i64 t) (F:an fr 5= .i .i64 0):
  rD 18 qP fr lh sh o∧
  ((mi ts t=false→an (pw pE 18 qP fr lh sh) 4= .b false)∧lZ pE 18 qP fr lh sh=lh∧ng pE 18 qP fr lh sh=sh):=by
 refine jc (P:=fun fr O U=>(mi ts t=false→an fr 4= .b false)∧O=lh∧U=sh) (jm (fun k st=> ∃(fr:Fr),st=⟨fr,lh,sh⟩∧an fr 0=a∧an fr 1= .i .i64 t∧an fr 5= .i .i64 (k:Int)∧mi ts t=mi (ts.drop k) t) _ ts.length ?_ ?_ 0 _ (Nat.zero_le _) ⟨fr,rfl,D,E,F,rfl⟩)
 ·rintro k _ hk ⟨fr,rfl,D,E,F,h⟩
  have K:(k:Int)<ts.length:=by omega
  have V:=iG (k:=k) (by omega)
  rw[EW hk]at h
  by_cases I:ts[k]=t
  ·left
   rw[decide_eq_true I,Bool.true_and]at h
   simp only[qA,seval,qP,D,E,F,H.lenI,K,rG H hk,V,I]
   refine⟨_,rfl,_,rfl, ?_, ?_, ?_,h⟩ <;> simp only[qA,seval,D,E]
  ·right
   rw[decide_eq_false I,Bool.false_and]at h
   simp only[qA,seval,qP,D,E,F,H.lenI,K,rG H hk,I]
   refine⟨_,_,HS,rfl,by rw[J,h];rfl,fun _=>by simp only[qA,seval],rfl,rfl⟩
 ·rintro _ ⟨fr,rfl,D,E,F,h⟩
  rw[List.drop_length]at h
  have h:mi ts t=true:=h
  simp only[qA,seval,qP,D,F,H.lenI,Int.lt_irrefl]
  exact⟨_,_,qH,rfl,by rw[J,h];rfl,fun N=>(by rw[h]at N;cases N),rfl,rfl⟩
theorem ZU(ts:List Int)(t:Int)(a:T)(E:IsSl a ts.length (ints ts))(hlen:ts.length≤oh):hZ pE 214 [a,.i .i64 t] []=some (.b (mi ts t),[]):=by
 have D:=fun fr lh sh=>apo ts t a E hlen _ rfl fr lh sh
 rw[im abU (by simp[RJ])]
 cases h:mi ts t <;> simp only[h]at D <;> simp only[qA,seval,RJ,D]
theorem EX(k:Int):hZ pE 217 [.i .i64 k] []=some (.b (decide (k=1∨k=2)),[]):=by
 rw[im Sx (by simp[OA])]
 by_cases h:k=1
 ·simp only[qA,seval,OA,h,true_or]
 ·by_cases D:k=2 <;> simp only[qA,seval,OA,h,D,or_true,or_self]
theorem C2(op a b:Int):hZ pE 219 [.i .i64 op,.i .i64 a,.i .i64 b] []=some (.i .i64 (CF op a b),[]):=by
 rw[im Sy (by simp[yX])]
 unfold CF
 by_cases a1:a=1
 ·subst a1
  by_cases h:b=1
  ·simp only[qA,seval,yX,h]
  ·by_cases D:op=10
   ·by_cases F:b=2 <;> simp only[qA,seval,yX,h,F,D]
   ·by_cases E:op=11 <;> simp only[qA,seval,yX,h,D,E]
 ·by_cases a2:a=2
  ·subst a2
   by_cases h:b=1
   ·simp only[qA,seval,yX,h]
   ·by_cases D:op=10
    ·simp only[qA,seval,yX,h,D]
    ·by_cases E:op=11
     ·by_cases F:b=2 <;> simp only[qA,seval,yX,h,F,E]
     ·simp only[qA,seval,yX,h,D,E]
  ·by_cases D:op=10
   ·simp only[qA,seval,yX,a1,a2,D]
   ·by_cases E:op=11 <;> simp only[qA,seval,yX,a1,a2,D,E]
theorem qC{a:T}{t:Int}{ts:List Int}(D:IsSl a (t::ts).length (ints (t::ts))): ∃ex,a= .sl (.i .i64 t::ints ts) (ts.length+1) ex:=by
 rcases D with⟨_,h,_⟩|⟨ex,h⟩
 ·simp at h
 ·exact⟨ex,h⟩
theorem LJ{ts:List Int}(h:ts.length=1): ∃a,ts= [a]:=by
 match ts,h with
 | [a],_=>grind
theorem rI{ts:List Int}(h:ts.length=2): ∃a b,ts= [a,b]:=by
 match ts,h with
 | [a,b],_=>grind
theorem Jt{ts:List Int}(h:ts.length=3): ∃a b c,ts= [a,b,c]:=by
 match ts,h with
 | [a,b,c],_=>grind
theorem pZ(t:Int)(ts:List Int)(k:Int):mi (t::ts) k=(decide (t=k)&&mi ts k):=rfl
theorem Ju(k:Int):mi [] k=true:=rfl
theorem VE(t:Int)(ts:List Int):(if mi (t::ts) 1 then(1:Int)else if mi (t::ts) 2 then 2 else 0)=if(t=1∨t=2)∧mi (t::ts) t=true then t else 0:=by
 rw[pZ,pZ,pZ,decide_eq_true (p:=t=t) rfl,Bool.true_and]
 grind
theorem sA(op k:Int)(ts:List Int)(a:T)(D:IsSl a ts.length (ints ts))(hl:ts.length≤oh)(h:op=15∧k=3∨(op=19∨op=20∨op=21∨op=22)∧k=4):hZ pE 220 [.i .i64 op,a] []=some (.b (mi ts k),[]):=by
 have E:=Nx ts k a D hl
 rw[im Me (by simp[Dt])]
 rcases h with⟨rfl,rfl⟩|⟨rfl|rfl|rfl|rfl,rfl⟩ <;> simp only[qA,seval,Dt,E,ab0,D.froz]
theorem EY(op x y:Int)(a:T)(F:IsSl a 2 (ints [x,y]))(h:op=16∨op=17):hZ pE 220 [.i .i64 op,a] []=some (.b (decide ((x=1∨x=2)∧x=y)),[]):=by
 obtain⟨ex,rfl⟩:=qC (ts:= [y]) F
 have D:=EX x
 rw[im Me (by simp[Dt])]
 by_cases E:x=1∨x=2
 ·rw[decide_eq_true E]at D
  rcases h with rfl|rfl <;> simp only[qA,seval,lu,iY,iC,Dt,D,Md,abY,ints,E]
 ·rw[decide_eq_false E]at D
  rcases h with rfl|rfl <;> simp only[qA,seval,lu,iY,Dt,D,Md,abY,ints,E]
theorem VF(x y:Int)(a:T)(h:IsSl a 2 (ints [x,y])):hZ pE 220 [.i .i64 18,a] []=some (.b (decide (x=y)),[]):=by
 obtain⟨ex,rfl⟩:=qC (ts:= [y]) h
 rw[im Me (by simp[Dt])]
 simp only[qA,seval,lu,iY,Dt,ints]
theorem LK(op:Int)(ts:List Int)(a:T)(h:IsSl a ts.length (ints ts))(hl:ts.length≤oh)(O:1≤op)(U:op≤22)(X:op≠6)(D:j5 op ts.length=true):hZ pE 193 [.i .i64 op,a] []=some (.i .i64 (py op ts),[]):=by
 rw[im abK (by simp[rO])]
 have DS: ∀t B0,ts=t::B0→(op=7∨op=8∨op=9∨op=12∨op=13)→xL rO.res rO.eff (DC pE rO.n rO.code ⟨oX [.i .i64 op,a],.nil,[]⟩)=some (.i .i64 (if(t=1∨t=2)∧mi ts t=true then t else 0),[]):=by
  rintro t B0 rfl I
  have E:=Nx (t::B0) t a h hl
  have J:=EX t
  obtain⟨ex,rfl⟩:=qC h
  have N:0<B0.length+1:=Nat.succ_pos _
  by_cases F:t=1∨t=2
  ·rw[decide_eq_true F]at J
   cases hk:mi (t::B0) t <;> rw[hk]at E <;> rcases I with rfl|rfl|rfl|rfl|rfl <;>
    simp only[qA,seval,lu,rO,J,Md,E,ab0,F,N]
  ·rw[decide_eq_false F]at J
   rcases I with rfl|rfl|rfl|rfl|rfl <;> simp only[qA,seval,lu,rO,J,Md,F,N]
 have Jv: ∀b:Bool,hZ pE 220 [.i .i64 op,a] []=some (.b b,[])→(op=15∨op=16∨op=17∨op=18∨op=19∨op=20∨op=21∨op=22)→xL rO.res rO.eff (DC pE rO.n rO.code ⟨oX [.i .i64 op,a],.nil,[]⟩)=some (.i .i64 (if b=true then 4 else 0),[]):=by
  intro b V I
  cases b <;> rcases I with rfl|rfl|rfl|rfl|rfl|rfl|rfl|rfl <;> simp only[qA,seval,rO,V,amy,h.froz]
 rcases qz O U with rfl|rfl|rfl|rfl|rfl|rfl|rfl|rfl|rfl|rfl|rfl|rfl|rfl|rfl|rfl|rfl|rfl|rfl|rfl|rfl|rfl|rfl
 iterate 5 ·simp only[qA,seval,rO,py]
 ·grind
 ·obtain⟨x,rfl⟩:=LJ (by simpa[j5]using D)
  rw[DS x [] rfl (by simp),←VE];rfl
 ·obtain⟨x,y,rfl⟩:=rI (by simpa[j5]using D)
  rw[DS x [y] rfl (by simp),←VE];rfl
 ·obtain⟨x,y,rfl⟩:=rI (by simpa[j5]using D)
  rw[DS x [y] rfl (by simp),←VE];rfl
 ·obtain⟨x,y,rfl⟩:=rI (by simpa[j5]using D)
  obtain⟨ex,rfl⟩:=qC h
  have K:=C2 10 x y
  simp only[qA,seval,lu,iY,iC,rO,ints,K,ab1,ab2];rfl
 ·obtain⟨x,y,rfl⟩:=rI (by simpa[j5]using D)
  obtain⟨ex,rfl⟩:=qC h
  have K:=C2 11 x y
  simp only[qA,seval,lu,iY,iC,rO,ints,K,ab1,ab2];rfl
 ·match ts,D with
  |x::ts,_=>rw[DS x ts rfl (by simp),←VE];rfl
 ·match ts,D with
  |x::ts,_=>rw[DS x ts rfl (by simp),←VE];rfl
 ·obtain⟨x,y,z,rfl⟩:=Jt (by simpa[j5]using D)
  obtain⟨ex,rfl⟩:=qC h
  have H:py 14 [x,y,z]=if x=4∧y=z then y else 0:=rfl
  rw[H]
  by_cases F:x=4
  ·by_cases W:y=z <;> simp only[qA,seval,lu,iY,iC,rO,ints,F,W]
  ·simp only[qA,seval,lu,iY,iC,rO,ints,F]
 ·exact Jv _ (sA 15 3 ts a h hl (by simp)) (by simp)
 ·obtain⟨x,y,rfl⟩:=rI (by simpa[j5]using D)
  rw[Jv _ (EY 16 x y a h (by simp)) (by simp)]
  have H:py 16 [x,y]=if(x=1∨x=2)∧x=y then 4 else 0:=rfl
  rw[H];simp only[decide_eq_true_eq]
 ·obtain⟨x,y,rfl⟩:=rI (by simpa[j5]using D)
  rw[Jv _ (EY 17 x y a h (by simp)) (by simp)]
  have H:py 17 [x,y]=if(x=1∨x=2)∧x=y then 4 else 0:=rfl
  rw[H];simp only[decide_eq_true_eq]
 ·obtain⟨x,y,rfl⟩:=rI (by simpa[j5]using D)
  rw[Jv _ (VF x y a h) (by simp)]
  have H:py 18 [x,y]=if x=y then 4 else 0:=rfl
  rw[H];simp only[decide_eq_true_eq]
 ·exact Jv _ (sA 19 4 ts a h hl (by simp)) (by simp)
 ·exact Jv _ (sA 20 4 ts a h hl (by simp)) (by simp)
 ·exact Jv _ (sA 21 4 ts a h hl (by simp)) (by simp)
 ·exact Jv _ (sA 22 4 ts a h hl (by simp)) (by simp)
theorem LL(op:Int)(ts:List Int)(a:T)(D:IsSl a ts.length (ints ts))(hl:ts.length≤oh)(F:1≤op)(H:op≤22)(I:op≠6)(E:j5 op ts.length=true):hZ pE 188 [.i .i64 op,a] []=some (.i .i64 (py op ts),[]):=by
 rw[im abE (by simp[HR])]
 have w:=fun k=>jE (ZU ts k a D hl)
 have h:=D.froz
 rcases qz F H with rfl|rfl|rfl|rfl|rfl|rfl|rfl|rfl|rfl|rfl|rfl|rfl|rfl|rfl|rfl|rfl|rfl|rfl|rfl|rfl|rfl|rfl
 all_goals first
  |exact absurd rfl I
  |(simp only[qB,seval,HR,w,Mc,h,py];done)
  |(simp only[qB,seval,HR,w,Mc,h,py];clear w;grind;done)
  |(obtain⟨x,y,rfl⟩:=rI (by simpa[j5]using E);obtain⟨ex,rfl⟩:=qC D;simp only[seval,ints,List.map_cons,List.map_nil,List.length_cons,List.length_nil,Nat.zero_add]at w h;simp only[qB,seval,lu,HR,ints,w,Mc,h];clear w;simp only[py,CF,a0,a1,a2,pZ,Ju];grind;done)
  |(obtain⟨x,y,z,rfl⟩:=Jt (by simpa[j5]using E);obtain⟨ex,rfl⟩:=qC D;simp only[seval,ints,List.map_cons,List.map_nil,List.length_cons,List.length_nil,Nat.zero_add]at w h;simp only[qB,seval,lu,HR,ints,w,Mc,h];clear w;simp only[py,CF,a0,a1,a2,pZ,Ju];grind;done)
def kN:Cs→List T→Prop
 | [],cs=>cs= []
 |c::l,cs=> ∃ex r,cs=(T.s c.1::ex)++r∧lv c.2 ex∧kN l r
theorem kN.len: ∀{l:Cs} {cs:List T},kN l cs→cs.length=l.length*5
 | [],cs,h=>by grind [kN]
 |c::l,cs,h=>by
  rw[kN]at h
  obtain⟨ex,r,rfl,D,E⟩:=h
  rw[List.length_append,List.length_cons,D.len,E.len,List.length_cons];omega
theorem kN.drop: ∀{l:Cs} {cs:List T} (k:Nat) (hk:k<l.length),kN l cs→ ∃ex r,cs.drop (k*5)=(T.s l[k].1::ex)++r∧lv l[k].2 ex∧kN (l.drop (k+1)) r
 | [],cs,k,hk,h=>by simp at hk
 |x::xs,cs,0,hk,h=>by
  grind [kN]
 |x::xs,cs,k+1,hk,h=>by
  rw[kN]at h
  obtain⟨c,r,rfl,D,E⟩:=h
  obtain⟨F,H,e,I,J⟩:=kN.drop k (by simpa using hk) E
  refine⟨F,H, ?_,I,by simpa using J⟩
  have:(k+1)*5=(T.s x.1::c).length+k*5:=by rw[List.length_cons,D.len];omega
  grind [List.drop_append,Nat.add_sub_cancel_left,List.drop_eq_nil_of_le]
theorem kN.take: ∀{l:Cs} {cs:List T} (k:Nat),kN l cs→kN (l.take k) (cs.take (k*5))
 |l,cs,0,h=>by simp[kN]
 | [],cs,k+1,h=>by grind [kN]
 |x::xs,cs,k+1,h=>by
  rw[kN]at h
  obtain⟨c,r,rfl,D,E⟩:=h
  have:(k+1)*5=(T.s x.1::c).length+k*5:=by rw[List.length_cons,D.len];omega
  rw[List.take_succ_cons,kN]
  refine⟨c,r.take (k*5), ?_,D,kN.take k E⟩
  grind [List.take_append,Nat.add_sub_cancel_left,List.take_of_length_le]
theorem lW{l:Cs}{a:T}{D:List T}(H:IsSl a l.length D)(E:kN l D)(k:Nat)(hk:k<l.length):
  ∃b h r,(∀kk,pv a (.i kk (k:Int)) 5=some (.vp (.s l[k].1:: .i .i64 l[k].2.op:: .i .i64 l[k].2.num:: .s l[k].2.name::b::r)))∧IsSl b l[k].2.args.length h∧jx l[k].2.args h∧lv l[k].2 [.i .i64 l[k].2.op,.i .i64 l[k].2.num,.s l[k].2.name,b]:=by
 obtain⟨c,r,e,F,K⟩:=kN.drop k hk E
 obtain⟨b,h,rfl,I,J⟩:=F.cells
 refine⟨b,h,r,fun kk=> ?_,I,J,F⟩
 rw[H.ia (sz:=5) E.len hk,e];rfl
theorem GD: ∀{l:Cs} {s:List Nat} {i:Nat},lN l s=some i→i<l.length
 | [],s,i,h=>by simp[lN]at h
 |c::cs,s,i,h=>by
  rw[lN]at h
  split at h
  ·grind
  ·cases D:lN cs s with
   |none=>simp[D]at h
   |some j=>
    simp[D]at h
    have:=GD D
    grind
theorem zQ{l:Cs}{s:List Nat}: ∀(k:Nat),k≤l.length→(∀j (h:j<k) (hl:j<l.length),l[j].1≠s)→lN l s=(lN (l.drop k) s).map (· +k)
 |0,_,_=>by simp
 |k+1,hk,h=>by
  have:=zQ (l:=l) k (by omega) fun j E hl=>h j (by omega) hl
  have D:k<l.length:=by omega
  rw[this,List.drop_eq_getElem_cons D,lN,if_neg (h k (by omega) D)]
  cases lN (l.drop (k+1)) s with
  |none=>rfl
  |some i=>simp;omega
theorem vG(l:Cs)(s:List Nat): ∀n,lN (l.take n) s=match lN l s with|some i=>if i<n then some i else none|none=>none:=by
 induction l with
 |nil=>intro n;simp[lN]
 |cons c l ih=>
  intro n
  cases n with
  |zero=>
   grind [lN]
  |succ n=>
   grind [lN,hi]
def VG(l:Cs)(s:List Nat):Int:=match lN l s with|none=> -1|some i=>(i:Int)
theorem vE{l:Cs}{s:List Nat}{i:Nat}(h:lN l s=some i):VG l s=(i:Int):=by unfold VG;rw[h]
theorem EZ{l:Cs}{s:List Nat}(h:lN l s=none):VG l s= -1:=by unfold VG;rw[h]
theorem apq(l:Cs)(s:List Nat)(a:T)(O:List T)(J:IsSl a l.length O)(W:kN l O)(hs:l.length≤oh)(o:Out)(X:o=if lN l s=none then .ext 0 else .ret)(fr:Fr)(lh:iz ib)(sh:List ib)(D:an fr 0=a)(H:an fr 1= .s s)(I:an fr 5= .i .i64 0):
  rD 20 qL fr lh sh o∧
  ((∀i,lN l s=some i→an (pw pE 20 qL fr lh sh) 4= .i .i64 (i:Int))∧lZ pE 20 qL fr lh sh=lh∧ng pE 20 qL fr lh sh=sh):=by
 refine jc (P:=fun fr Y Z=>(∀i,lN l s=some i→an fr 4= .i .i64 (i:Int))∧Y=lh∧Z=sh) (jm (fun k st=> ∃fr:Fr,st=⟨fr,lh,sh⟩∧an fr 0=a∧an fr 1= .s s∧an fr 5= .i .i64 (k:Int)∧k≤l.length∧ ∀j (h:j<k) (hl:j<l.length),l[j].1≠s) _ l.length ?_ ?_ 0 _ (Nat.zero_le _) ⟨fr,rfl,D,H,I,Nat.zero_le _,by simp⟩)
 ·rintro k _ hk ⟨fr,rfl,D,H,I,K,N⟩
  have U:(k:Int)<l.length:=by omega
  have hw:=iG (k:=k) (by omega)
  have E:=zQ k K N
  rw[List.drop_eq_getElem_cons hk,lN]at E
  obtain⟨b,cb,r,V,_,_,_⟩:=lW J W k hk
  by_cases F:l[k].1=s
  ·right
   rw[if_pos F]at E
   simp only[Option.map_some,Nat.zero_add]at E
   simp only[qA,seval,qL,D,H,I,J.lenI,U,V,F]
   refine⟨_,_,HS,rfl,by rw[X,E];rfl,fun i hi=> ?_,rfl,rfl⟩
   rw[E]at hi
   cases hi
   simp only[qA,seval]
  ·left
   simp only[qA,seval,qL,D,H,I,J.lenI,U,V,F,hw]
   refine⟨_,rfl,_,rfl, ?_, ?_, ?_,by omega, ?_⟩
   all_goals first|(simp only[qA,seval,D,H];done)|skip
   grind
 ·rintro _ ⟨fr,rfl,D,H,I,K,N⟩
  have E:=zQ l.length K N
  rw[List.drop_length,lN]at E
  simp only[qA,seval,qL,D,I,J.lenI,Int.lt_irrefl]
  grind
theorem Gz(l:Cs)(s:List Nat)(a:T)(E:List T)(F:IsSl a l.length E)(H:kN l E)(hs:l.length≤oh):hZ pE 133 [a,.s s] []=some (.i .i64 (VG l s),[]):=by
 have h:=fun fr lh sh=>apq l s a E F H hs _ rfl fr lh sh
 rw[im aaW (by simp[N7])]
 cases D:lN l s with
 |none=>
  rw[EZ D]
  simp only[D,if_true,reduceCtorEq,false_implies,implies_true,true_and]at h
  simp only[qA,seval,N7,h]
 |some i=>
  rw[vE D]
  simp only[D,reduceCtorEq,if_false,Option.some.injEq,forall_eq']at h
  simp only[qA,seval,N7,h]
def GF(ts:List Int):Except Int (List Int)→Except Int (List Int)
 | .error e=> .error e
 | .ok us=> .ok (ts++us)
def LM:Except Int (List Int)→Out
 | .error _=> .ret
 | .ok _=> .ext 0
theorem Jw{cl:List Nat→Int×Int}{scope:Int}{xs:List Ex}{k:Nat}(hk:k<xs.length):pc cl scope (xs.drop k)=if(xs[k].ty cl scope).2≠0 then .error (xs[k].ty cl scope).2 else GF [(xs[k].ty cl scope).1] (pc cl scope (xs.drop (k+1))):=by
 rw[vA hk,pc]
 split
 ·rfl
 ·cases pc cl scope (xs.drop (k+1)) <;> rfl
theorem E0(a b:List Int)(x:Except Int (List Int)):GF a (GF b x)=GF (a++b) x:=by cases x <;> simp[GF]
theorem tq{cl:List Nat→Int×Int}{scope:Int}: ∀{xs:List Ex} {ts:List Int},pc cl scope xs= .ok ts→ts.length=xs.length
 | [],ts,h=>by grind [pc]
 |x::xs,ts,h=>by
  rw[pc]at h
  split at h
  ·cases h
  ·cases D:pc cl scope xs with
   |error e=>grind
   |ok us=>rw[D]at h;cases h;simp[tq D]
theorem oe{lh:iz ib}{sh:List ib}{v:T}{k n:Nat}{cs:List T}(h:iP lh v k 1 n cs)(D:n≤oh)(x:T)(ex:Bool):
  appW lh sh k 1 8 v (.sl [x] 1 ex)=some (J4 lh sh k 1 8 v (.sl [x] 1 ex),Cy lh sh k 1 8 v (.sl [x] 1 ex))∧iP (Cy lh sh k 1 8 v (.sl [x] 1 ex)) (J4 lh sh k 1 8 v (.sl [x] 1 ex)) k 1 (n+1) (cs++ [x])∧ ∀j,j≠k→a6 (Cy lh sh k 1 8 v (.sl [x] 1 ex)) j=a6 lh j:=
 iP.appW h (m:=0) (by rw[FZ];rfl) rfl (by unfold roomy;unfold oh at D;omega)
section
variable(l:Cs)(vz:List (Int×Int))(lT kT eT:T)(cl:List T)(hl:IsSl lT l.length cl)(l9:kN l cl)(hlen:l.length≤oh)(agv:vz.length=l.length)(hk:IsSl kT vz.length (ints (vz.map (·.1))))(he:IsSl eT vz.length (ints (vz.map (·.2))))
def apr(scope:Int)(y:Ex):Prop:= ∀cs:List T,lv y cs→y.nodes≤100000→y.wf=true→hZ pE 154 [.agg [kT,eT],lT,.i .i64 scope,.agg cs] []=some (.tup [.i .i64 (y.ty (clk l vz) scope).1,.i .i64 (y.ty (clk l vz) scope).2],[])
include hl hk he
theorem av0(scope:Int)(xs:List Ex)(ih: ∀y∈xs,apr l vz lT kT eT scope y)(a:T)(cc:List T)(X:IsSl a xs.length cc)(hx:jx xs cc)(hn:jz xs≤100000)(sv:wP xs=true)(op num:Int)(s:List Nat)(r:Except Int (List Int))(hr:r=pc (clk l vz) scope xs)(o:Out)(ho:o=LM r)(g g4:Nat)(fr:Fr)(lh:iz ib)(sh:List ib)
  (K:an fr 1=lT) (N:an fr 2= .i .i64 scope) (O:an fr 4= .ptr .L 4 g4 0) (I:an fr 7= .ptr .L 7 g 0) (J:an fr 10= .nilsl) (F:an fr 11= .i .i64 0) (Y:a6 lh 4=⟨g4,.cells [kT,eT] 0 true⟩) (Z:a6 lh 7=⟨g,.cells [.i .i64 op,.i .i64 num,.s s,a] 0 true⟩):
  rD 80 mS fr lh sh o∧
  ((∀e,r= .error e→an (pw pE 80 mS fr lh sh) 8= .i .i64 0∧an (pw pE 80 mS fr lh sh) 9= .i .i64 e)∧(∀ts,r= .ok ts→iP (lZ pE 80 mS fr lh sh) (an (pw pE 80 mS fr lh sh) 10) 43 1 ts.length (ints ts))∧
    a6 (lZ pE 80 mS fr lh sh) 4=a6 lh 4∧a6 (lZ pE 80 mS fr lh sh) 7=a6 lh 7∧ng pE 80 mS fr lh sh=sh):=by
 refine jc (P:=fun js iN jb=>(∀e,r= .error e→an js 8= .i .i64 0∧an js 9= .i .i64 e)∧(∀ts,r= .ok ts→iP iN (an js 10) 43 1 ts.length (ints ts))∧a6 iN 4=a6 lh 4∧a6 iN 7=a6 lh 7∧jb=sh)
  (jm (fun k st=> ∃(fr:Fr) (U:iz ib) (ts:List Int),st=⟨fr,U,sh⟩∧an fr 1=lT∧an fr 2= .i .i64 scope∧an fr 4= .ptr .L 4 g4 0∧an fr 7= .ptr .L 7 g 0∧an fr 11= .i .i64 (k:Int)∧a6 U 4=a6 lh 4∧a6 U 7=a6 lh 7∧
    iP U (an fr 10) 43 1 k (ints ts)∧ts.length=k∧r=GF ts (pc (clk l vz) scope (xs.drop k))) _ xs.length ?_ ?_ 0 _ (Nat.zero_le _) ⟨fr,lh,[],rfl,K,N,O,I,F,rfl,rfl,by rw[J];exact iP.nil,rfl,by rw[hr,List.drop_zero];cases pc (clk l vz) scope xs <;> rfl⟩)
 ·rintro k _ A6 ⟨fr,U,ts,rfl,K,N,O,I,F,E,h,hO,sH,D⟩
  rw[Y]at E
  rw[Z]at h
  have iR:(k:Int)<xs.length:=by omega
  have hlen':=jQ xs
  have hyk:=l8 (List.getElem_mem A6)
  have hw:=iG (k:=k) (kI (by omega))
  obtain⟨b,cb,rr,iS,kg,tK,hb⟩:=nJ X hx k A6
  have V:=ih xs[k] (List.getElem_mem A6) _ hb (by omega) (vw.1 sv _ (List.getElem_mem A6))
  rw[Jw A6]at D
  by_cases H:(xs[k].ty (clk l vz) scope).2=0
  ·left
   rw[if_neg (by simp[H]),E0]at D
   have mw:=oe hO (kI (by omega)) (sh:=sh) (T.i .i64 (xs[k].ty (clk l vz) scope).1) true
   generalize xs[k].ty (clk l vz) scope=q at V H D mw
   obtain⟨q1,q2⟩:=q
   simp only at V H D mw
   subst H
   generalize J:an fr 10=v10 at hO mw
   simp only[qA,seval,repl,iY,iC,mS,K,N,O,I,J,F,E,h,X.lenI,iR,iS,hw,V,Sg,Sh,kg.froz1,hk.froz1,he.froz1,hl.froz,hO.notS,mw.1]
   refine⟨_,rfl,_,_,ts++ [q1],rfl, ?_, ?_, ?_, ?_, ?_, ?_, ?_, ?_,by simp[sH],D⟩
   all_goals first|(simp only[qA,seval,K,N,O,I];done)|skip
   ·grind
   ·grind
   ·simp only[qA,seval]
    grind [ints]
  ·right
   rw[if_pos (by simp[H])]at D
   generalize xs[k].ty (clk l vz) scope=q at V H D
   obtain⟨q1,q2⟩:=q
   simp only at V H D
   simp only[qA,seval,iY,iC,mS,K,N,O,I,F,E,h,X.lenI,iR,iS,V,Sg,Sh,kg.froz1,hk.froz1,he.froz1,hl.froz,H]
   refine⟨_,_,HS,rfl,by rw[ho,D];rfl,fun e he=> ?_,fun t W=>(by rw[D]at W;cases W),by rw[E,Y],by rw[h,Z],rfl⟩
   rw[D]at he
   cases he
   exact⟨by simp only[qA,seval],by simp only[qA,seval]⟩
 ·rintro _ ⟨fr,U,ts,rfl,K,N,O,I,F,E,h,hO,sH,D⟩
  rw[Y]at E
  rw[Z]at h
  rw[List.drop_length,pc,GF,List.append_nil]at D
  simp only[qA,seval,mS,I,F,h,X.lenI,Int.lt_irrefl]
  refine⟨_,_,qH,rfl,by rw[ho,D];rfl,fun e he=>(by rw[D]at he;cases he),fun t W=> ?_,by rw[E,Y],by rw[h,Z],rfl⟩
  rw[D]at W
  cases W
  simp only[qA,seval]
  grind
include l9 hlen agv
theorem VH(scope:Int)(x:Ex):apr l vz lT kT eT scope x:=by
 induction x using Ex.ind with
 |h x ih=>
  intro cs hx hn W
  obtain⟨a,cc,rfl,ha,AJ⟩:=hx.cells
  rw[im H2 (by simp[Ds]),Ex.ty_eq]
  have hnd:=x.nodes_eq
  rw[Ex.wf_eq,Bool.and_eq_true]at W
  obtain⟨X,AI⟩:=W
  have E:=fun fr lh sh=>av0 l vz lT kT eT cl hl hk he scope x.args (fun y hy=>ih y hy) a cc ha AJ (by omega) AI x.op x.num x.name _ rfl _ rfl 1 1 fr lh sh
  have D:=xZ scope x.name
  have WT:=Gz l x.name lT cl hl l9 hlen
  have yB:=jQ x.args
  have C3:x.args.length≤oh:=kI (by omega)
  simp only[rF,Bool.and_eq_true,decide_eq_true_eq]at X
  obtain⟨J,K,lD,_,_⟩:=X
  by_cases H:x.op=6
  ·rw[if_pos H]
   have I:x.args= []:=by
    grind [j5]
   rw[I]at E
   simp only[pc,LM,reduceCtorEq,false_implies,implies_true,Except.ok.injEq,forall_eq',true_and]at E
   unfold sg at D
   by_cases F:kA scope x.name=0
   ·rw[if_neg (by simp[F])]
    rw[if_pos F,F]at D
    cases hi:lN l x.name with
    |none=>
     rw[EZ hi]at WT
     have:clk l vz x.name=(0,6):=by unfold clk;rw[hi]
     rw[this]
     simp only[qA,seval,Ds,rN,H,E,D,vV,WT,L8,hl.froz]
    |some i=>
     rw[vE hi]at WT
     have hlt:=GD hi
     have Gq: ¬(i:Int)<0:=by omega
     have Y:=fun kk=>rG (ts:=vz.map (·.1)) (by simpa using hk) (k:=i) (by simp;omega) kk
     have Z:=fun kk=>rG (ts:=vz.map (·.2)) (by simpa using he) (k:=i) (by simp;omega) kk
     have:clk l vz x.name=vz[i]'(by omega):=by unfold clk;rw[hi];simp[List.getD_eq_getElem?_getD,List.getElem?_eq_getElem (show i<vz.length by omega)]
     rw[this]
     simp only[List.getElem_map]at Y Z
     simp only[qA,seval,Ds,rN,H,E,D,vV,WT,L8,hl.froz,Gq,Y,Z]
   ·rw[if_pos F]
    rw[if_neg F]at D
    simp only[qA,seval,Ds,rN,H,E,D,vV]
  ·rw[if_neg H]
   cases N:pc (clk l vz) scope x.args with
   |error e=>
    simp only[N,LM,Except.error.injEq,reduceCtorEq,false_implies,implies_true,forall_eq',true_and]at E
    simp only[qA,seval,Ds,E]
   |ok ts=>
    have C4:=tq N
    simp only[N,LM,Except.ok.injEq,reduceCtorEq,false_implies,implies_true,forall_eq',true_and]at E
    have hO:=fun fr lh sh h1 h2 h4 h7 O U o4 o7=>iP.fzV (sh:=sh) (keep:=false) (E fr lh sh h1 h2 h4 h7 O U o4 o7).2.1
    have V:=LL x.op ts (kz ts.length (ints ts)) (mg (fun h0=>by rw[List.length_eq_zero_iff.1 h0];rfl)) (by rw[C4];exact C3) J K H (by rw[C4];exact lD)
    by_cases F:py x.op ts=0
    ·rw[F]at V
     simp only[qA,seval,Ds,rN,H,E,hO,V,abF,F]
    ·simp only[qA,seval,Ds,rN,H,E,hO,V,abF,F]
end
end Go.Proofs.YtbdfboojnfinkaaGreat
