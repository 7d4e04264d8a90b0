/- The form of an expression: both checks. The form of an expression: the reference's check, and both results. The type of a node by the types of its arguments: the program's and the reference's. Conditions: the theorems' own. -/
import Derived.Test.YtfenhjpkomldcaaGreatM2
import Derived.KernelRfl
set_option maxRecDepth 100000
set_option linter.unusedSimpArgs false
set_option linter.unusedVariables false
set_option maxHeartbeats 16000000
namespace Go.Proofs.YtfenhjpkomldcaaGreat
open Go Go.Ev
theorem yK: ∀s:List Nat,Ak s 46=ti s
 | []=>rfl
 |c::cs=>by
  rw[Ak,yK cs]
  unfold ti
  rw[gA]
  by_cases h:c=46
  ·simp[h]
  ·rw[if_neg h,if_neg h]
   cases gA cs with
   |none=>rfl
   |some i=>simp only[Option.map_some];rw[if_neg (by omega)];omega
theorem Oa{z:Nat}{fr:Fr}{lh:aQ aA}{sh:List aA}{s:List Nat}:ar pE (aa pE) z ⟨fr,lh,sh⟩ 267 [.s s,.s [46]]=some (.i .i64 (ti s),⟨fr,lh,sh⟩):=by
 rw[F8 (g:=IQ) rfl rfl,nU (by rfl),←yK]
 rfl
theorem D3{s:List Nat}{i:Nat}(h:gA s=some i):ti s=(i:Int):=by unfold ti;rw[h]
theorem D4{s:List Nat}(h:gA s=none):ti s= -1:=by unfold ti;rw[h]
theorem Vt{s:List Nat}(hd:gA s=none):aa pE 217 [.s s,.s [46]] []=some (.tup [.s s,.s [],.b false],[]):=by
 have h1:aa pE 250 [.s s,.s [46]] []=some (.tup [.s s,.s [],.b false],[]):=by
  rw[aD Fk (by simp[zf])]
  simp(maxDischargeDepth:=6) only[qF,ah,ai,ab,aj,ae,ak,Int.reduceNeg,kE,bk,aY,aK,Nat.reduceAdd,reduceCtorEq,Nat.reduceLT,Nat.reduceEqDiff,Int.reduceToNat,Int.reduceLE,zf,Oa,D4 hd]
 rw[aD Fg (by simp[ze])]
 simp(maxDischargeDepth:=6) only[qF,ah,ai,ab,aj,ae,reduceCtorEq,Nat.reduceLT,Nat.reduceEqDiff,ze,h1,Nl]
theorem Vu{s:List Nat}{i:Nat}(hs:s.length≤iq)(hd:gA s=some i):aa pE 217 [.s s,.s [46]] []=some (.tup [.s (s.take i),.s (s.drop (i+1)),.b true],[]):=by
 have hi:=vP hd
 have h0:(0:Int)≤i:=by omega
 have hw:=jh (k:=i) (by omega)
 have hle:i≤s.length:=by omega
 have ta:i+1≤s.length:=by omega
 generalize i+1=j at hw ta ⊢
 have rj:=fun fr x (h:rd fr x= .i .i64 (j:Int))=>um h ta
 have sW:=fun fr x (h:rd fr x= .i .i64 (i:Int))=>B0 h hle
 have h1:aa pE 250 [.s s,.s [46]] []=some (.tup [.s (s.take i),.s (s.drop j),.b true],[]):=by
  rw[aD Fk (by simp[zf])]
  simp(maxDischargeDepth:=6) only[qF,ah,ai,ab,aj,ae,aY,aK,Nat.reduceAdd,reduceCtorEq,Nat.reduceLT,Nat.reduceEqDiff,zf,Oa,D3 hd,h0,hw,rj,sW]
 rw[aD Fg (by simp[ze])]
 simp(maxDischargeDepth:=6) only[qF,ah,ai,ab,aj,ae,reduceCtorEq,Nat.reduceLT,Nat.reduceEqDiff,ze,h1,Nl]
theorem AH(s:List Nat)(hs:s.length≤iq):aa pE 156 [.s s] []=some (.b (gB s),[]):=by
 rw[aD MC (by simp[Ck])]
 cases hd:gA s with
 |none=>
  rw[qf hd]
  simp(maxDischargeDepth:=6) only[qF,ah,ai,ab,aj,ae,reduceCtorEq,Nat.reduceLT,Nat.reduceEqDiff,Ck,Vt hd,MY,DE,SM]
 |some i=>
  have hc:=Vu hs hd
  rw[qe hd]
  generalize i+1=j at hc ⊢
  cases hn:fm (s.take i) <;> simp(maxDischargeDepth:=6) only[qF,ah,ai,ab,aj,ae,reduceCtorEq,Nat.reduceLT,Nat.reduceEqDiff,Ck,hc,MY,xV,MN,hn]
mutual
def Ex.sm:Ex→Prop
 | .mk _ _ name args=>name.length≤iq∧Hz args
def Hz:List Ex→Prop
 | []=>True
 |x::xs=>x.sm∧Hz xs
end
theorem Ex.sm_eq(x:Ex):x.sm↔(x.name.length≤iq∧Hz x.args):=by obtain⟨_,_,_,_⟩:=x;rw[Ex.sm];rfl
theorem mg: ∀{xs:List Ex},Hz xs↔ ∀x∈xs,x.sm
 | []=>by simp[Hz]
 |x::xs=>by rw[Hz,mg (xs:=xs)];simp
def wfP(y:Ex):Prop:= ∀cs:List T,bj y cs→y.nodes≤100000→y.sm→aa pE 102 [.agg cs] []=some (.b y.wf,[])
theorem yL{xs:List Ex}{k:Nat}(hk:k<xs.length):fG (xs.drop k)=(xs[k].wf&&fG (xs.drop (k+1))):=by rw[j8 hk,fG]
theorem wf1(xs:List Ex)(ih: ∀y∈xs,wfP y)(a:T)(cc:List T)(ha:aN a xs.length cc)(hx:aL xs cc)(hlen:aR xs≤100000)(j7:Hz xs)(o:Out)(ho:o=if fG xs then .ext 1 else .ret)(fr:Fr)(lh:aQ aA)(sh:List aA)
  (qB:an fr 59=a) (pB:an fr 60= .i .i64 (xs.length:Int)) (qC:an fr 61= .i .i64 0):
  DC pE 69 (.loop gC) ⟨fr,lh,sh⟩=some (o,⟨ev pE 69 gC fr lh sh,eP pE 69 gC fr lh sh,eJ pE 69 gC fr lh sh⟩)∧
  ((fG xs=false→an (ev pE 69 gC fr lh sh) 2= .b false)∧eJ pE 69 gC fr lh sh=sh):=by
 refine a6 (P:=fun fr dj cq=>(fG xs=false→an fr 2= .b false)∧cq=sh) (bt (fun k st=> ∃(fr:Fr) (lh:aQ aA),st=⟨fr,lh,sh⟩∧an fr 59=a∧an fr 60= .i .i64 (xs.length:Int)∧an fr 61= .i .i64 (k:Int)∧fG xs=fG (xs.drop k)) _ xs.length ?_ ?_ 0 _ (Nat.zero_le _) ⟨fr,lh,rfl,qB,pB,qC,rfl⟩)
 ·rintro k _ hk ⟨fr,lh,rfl,qB,pB,qC,aU⟩
  have dN:(k:Int)<xs.length:=by omega
  have nR:=bE xs
  have NP:=cB (List.getElem_mem hk)
  have hw:=cE (k:=k) (c5 (by omega))
  obtain⟨b,cb,r,cQ,fu,oq,hb⟩:=dV ha hx k hk
  have aB:=ih xs[k] (List.getElem_mem hk) _ hb (by omega) (mg.1 j7 _ (List.getElem_mem hk))
  rw[yL hk]at aU
  cases hf:xs[k].wf with
  |true=>
   left
   rw[hf]at aB aU
   simp(maxDischargeDepth:=6) only[qF,ah,ai,ab,aj,ae,ak,splice,Nat.reduceAdd,Nat.reduceLT,Nat.reduceLeDiff,Nat.reduceEqDiff,gC,qB,pB,qC,dN,cQ,hw,aB,ES,fu.froz1]
   refine⟨_,rfl,_,_,rfl, ?_, ?_, ?_,aU⟩ <;> simp(maxDischargeDepth:=6) only[ab,ae,Nat.reduceEqDiff,qB,pB]
  |false=>
   right
   rw[hf]at aB aU
   simp(maxDischargeDepth:=6) only[qF,ah,ai,ab,aj,ae,ak,splice,Nat.reduceAdd,Nat.reduceLT,Nat.reduceLeDiff,Nat.reduceEqDiff,gC,qB,pB,qC,dN,cQ,aB,ES,fu.froz1]
   refine⟨_,_,(by simp:Out.ret≠ .nrm),rfl,by rw[ho,aU];rfl,fun _=>by simp(maxDischargeDepth:=6) only[ab],rfl⟩
 ·rintro _ ⟨fr,lh,rfl,qB,pB,qC,aU⟩
  rw[List.drop_length,fG]at aU
  simp(maxDischargeDepth:=6) only[ah,ai,ab,ae,ak,Nat.reduceLT,gC,pB,qC,Int.lt_irrefl]
  exact⟨_,_,(by simp:Out.ext 1≠ .nrm),rfl,by rw[ho,aU];rfl,fun hc=>(by rw[aU]at hc;cases hc),rfl⟩
theorem B4{op num:Int}{name:List Nat}{n:Nat}(h:op<1):fe op num name n=false:=by unfold fe;rw[decide_eq_false (by omega)];rfl
theorem B5{op num:Int}{name:List Nat}{n:Nat}(h:22<op):fe op num name n=false:=by unfold fe;rw[decide_eq_false (p:=op≤22) (by omega)];simp
theorem B6{op num:Int}{name:List Nat}{n:Nat}(h1: ¬op<1)(h2: ¬22<op):fe op num name n=(aW op n&&(decide (0≤num∧num≤ga op)&&(if op=6 then gB name else decide (name= [])))):=by
 unfold fe;rw[decide_eq_true (p:=1≤op) (by omega),decide_eq_true (p:=op≤22) (by omega)];rfl
theorem Vv(x:Ex):wfP x:=by
 induction x using Ex.ind with
 |h x ih=>
  intro cs hx hn hs
  obtain⟨a,cc,rfl,ha,g5⟩:=hx.cells
  rw[aD L6 (by simp[iC]),Ex.wf_eq]
  have hnd:=x.nodes_eq
  obtain⟨rj,sW⟩:=(Ex.sm_eq x).1 hs
  have hL:=fun fr lh sh=>wf1 x.args ih a cc ha g5 (by omega) sW _ rfl fr lh sh
  have gm:=AH x.name rj
  generalize x.op=op,x.num=num,x.name=name,x.args.length=n at*
  by_cases h1:op<1
  ·rw[B4 h1];simp(maxDischargeDepth:=6) only[qF,ah,ai,ab,aj,ae,ak,Nat.reduceLT,Nat.reduceEqDiff,iC,h1]
  by_cases h2:(22:Int)<op
  ·rw[B5 h2];simp(maxDischargeDepth:=6) only[qF,ah,ai,ab,aj,ae,ak,Nat.reduceLT,Nat.reduceEqDiff,iC,h1,h2]
  rw[B6 h1 h2]
  have aX:=AA op n (by omega) (by omega)
  cases ho:aW op n with
  |false=>
   rw[ho]at aX
   simp(maxDischargeDepth:=6) only[qF,ah,ai,ab,aj,ae,ak,Nat.reduceLT,Nat.reduceEqDiff,iC,h1,h2,ha.lenI,aX,gj]
  |true=>
   rw[ho]at aX
   have base: ∀b:Bool,(true&&b)=b:=fun b=>by simp
   rw[base]
   by_cases e1:op=1
   ·subst e1
    have hm:ga 1=1099511627776:=rfl
    rw[hm,if_neg (by decide)]
    by_cases n1:num<0
    ·rw[decide_eq_false (by omega)];simp(maxDischargeDepth:=6) only[qF,ah,ai,ab,aj,ae,ak,Nat.reduceLT,Nat.reduceEqDiff,Int.reduceLT,Int.reduceEq,iC,ha.lenI,aX,gj,n1]
    by_cases n2:(1099511627776:Int)<num
    ·rw[decide_eq_false (fun h=>absurd h.2 (Int.not_le.2 n2))];simp(maxDischargeDepth:=6) only[qF,ah,ai,ab,aj,ae,ak,Nat.reduceLT,Nat.reduceEqDiff,Int.reduceLT,Int.reduceEq,iC,ha.lenI,aX,gj,n1,n2]
    rw[decide_eq_true (p:=0≤num∧num≤1099511627776) ⟨Int.not_lt.1 n1,Int.not_lt.1 n2⟩,base]
    by_cases e:name= []
    ·rw[decide_eq_true e,base]
     cases hw:fG x.args <;> simp only[hw]at hL <;> simp(maxDischargeDepth:=6) only[qF,ah,ai,ab,aj,ae,ak,Nat.reduceLT,Nat.reduceEqDiff,Int.reduceLT,Int.reduceEq,iC,ha.lenI,aX,gj,n1,n2,e,hL]
    ·rw[decide_eq_false e];simp(maxDischargeDepth:=6) only[qF,ah,ai,ab,aj,ae,ak,Nat.reduceLT,Nat.reduceEqDiff,Int.reduceLT,Int.reduceEq,iC,ha.lenI,aX,gj,n1,n2,e]
   by_cases e2:op=2
   ·subst e2
    have hm:ga 2=1099511627776:=rfl
    rw[hm,if_neg (by decide)]
    by_cases n1:num<0
    ·rw[decide_eq_false (by omega)];simp(maxDischargeDepth:=6) only[qF,ah,ai,ab,aj,ae,ak,Nat.reduceLT,Nat.reduceEqDiff,Int.reduceLT,Int.reduceEq,iC,ha.lenI,aX,gj,n1]
    by_cases n2:(1099511627776:Int)<num
    ·rw[decide_eq_false (fun h=>absurd h.2 (Int.not_le.2 n2))];simp(maxDischargeDepth:=6) only[qF,ah,ai,ab,aj,ae,ak,Nat.reduceLT,Nat.reduceEqDiff,Int.reduceLT,Int.reduceEq,iC,ha.lenI,aX,gj,n1,n2]
    rw[decide_eq_true (p:=0≤num∧num≤1099511627776) ⟨Int.not_lt.1 n1,Int.not_lt.1 n2⟩,base]
    by_cases e:name= []
    ·rw[decide_eq_true e,base]
     cases hw:fG x.args <;> simp only[hw]at hL <;> simp(maxDischargeDepth:=6) only[qF,ah,ai,ab,aj,ae,ak,Nat.reduceLT,Nat.reduceEqDiff,Int.reduceLT,Int.reduceEq,iC,ha.lenI,aX,gj,n1,n2,e,hL]
    ·rw[decide_eq_false e];simp(maxDischargeDepth:=6) only[qF,ah,ai,ab,aj,ae,ak,Nat.reduceLT,Nat.reduceEqDiff,Int.reduceLT,Int.reduceEq,iC,ha.lenI,aX,gj,n1,n2,e]
   by_cases e3:op=3
   ·subst e3
    have hm:ga 3=1439:=rfl
    rw[hm,if_neg (by decide)]
    by_cases n1:num<0
    ·rw[decide_eq_false (by omega)];simp(maxDischargeDepth:=6) only[qF,ah,ai,ab,aj,ae,ak,Nat.reduceLT,Nat.reduceEqDiff,Int.reduceLT,Int.reduceEq,iC,ha.lenI,aX,gj,n1]
    by_cases n2:(1439:Int)<num
    ·rw[decide_eq_false (fun h=>absurd h.2 (Int.not_le.2 n2))];simp(maxDischargeDepth:=6) only[qF,ah,ai,ab,aj,ae,ak,Nat.reduceLT,Nat.reduceEqDiff,Int.reduceLT,Int.reduceEq,iC,ha.lenI,aX,gj,n1,n2]
    rw[decide_eq_true (p:=0≤num∧num≤1439) ⟨Int.not_lt.1 n1,Int.not_lt.1 n2⟩,base]
    by_cases e:name= []
    ·rw[decide_eq_true e,base]
     cases hw:fG x.args <;> simp only[hw]at hL <;> simp(maxDischargeDepth:=6) only[qF,ah,ai,ab,aj,ae,ak,Nat.reduceLT,Nat.reduceEqDiff,Int.reduceLT,Int.reduceEq,iC,ha.lenI,aX,gj,n1,n2,e,hL]
    ·rw[decide_eq_false e];simp(maxDischargeDepth:=6) only[qF,ah,ai,ab,aj,ae,ak,Nat.reduceLT,Nat.reduceEqDiff,Int.reduceLT,Int.reduceEq,iC,ha.lenI,aX,gj,n1,n2,e]
   have hm:ga op=0:=by unfold ga;rw[if_neg (by omega),if_neg e3]
   rw[hm]
   by_cases n1:num=0
   ·rw[decide_eq_true (p:=0≤num∧num≤0) (by omega),base]
    by_cases e6:op=6
    ·subst e6
     rw[if_pos rfl]
     cases hb:gB name with
     |true=>
      rw[hb]at gm
      cases hw:fG x.args <;> simp only[hw]at hL <;> simp(maxDischargeDepth:=6) only[qF,ah,ai,ab,aj,ae,ak,Nat.reduceLT,Nat.reduceEqDiff,Int.reduceLT,Int.reduceEq,iC,ha.lenI,aX,gj,n1,gm,MD,hL]
     |false=>
      rw[hb]at gm
      simp(maxDischargeDepth:=6) only[qF,ah,ai,ab,aj,ae,ak,Nat.reduceLT,Nat.reduceEqDiff,Int.reduceLT,Int.reduceEq,iC,ha.lenI,aX,gj,n1,gm,MD]
    ·rw[if_neg e6]
     by_cases e:name= []
     ·rw[decide_eq_true e,base]
      cases hw:fG x.args <;> simp only[hw]at hL <;> simp(maxDischargeDepth:=6) only[qF,ah,ai,ab,aj,ae,ak,Nat.reduceLT,Nat.reduceEqDiff,Int.reduceLT,iC,ha.lenI,aX,gj,h1,h2,e1,e2,e3,e6,n1,e,hL]
     ·rw[decide_eq_false e];simp(maxDischargeDepth:=6) only[qF,ah,ai,ab,aj,ae,ak,Nat.reduceLT,Nat.reduceEqDiff,Int.reduceLT,iC,ha.lenI,aX,gj,h1,h2,e1,e2,e3,e6,n1,e]
   ·rw[decide_eq_false (p:=0≤num∧num≤0) (by omega)]
    simp(maxDischargeDepth:=6) only[qF,ah,ai,ab,aj,ae,ak,Nat.reduceLT,Nat.reduceEqDiff,iC,ha.lenI,aX,gj,h1,h2,e1,e2,e3,n1]
end Go.Proofs.YtfenhjpkomldcaaGreat
namespace Go.Proofs.YtfenhjpkomldcaaGreat
open Go Go.Ev
def ndP(y:Ex):Prop:= ∀cs:List T,bj y cs→y.nodes≤200→y.sm→aa pE 112 [.agg cs] []=some (.b y.wf,[])
theorem nd1(xs:List Ex)(ih: ∀y∈xs,ndP y)(a:T)(cc:List T)(ha:aN a xs.length cc)(hx:aL xs cc)(hlen:aR xs≤200)(j7:Hz xs)(op num:Int)(s:List Nat)(o:Out)(ho:o=if fG xs then .ext 1 else .ret)(g:Nat)(fr:Fr)(lh:aQ aA)(sh:List aA)
  (h1:an fr 1= .ptr .L 1 g 0) (h6:an fr 6= .i .i64 0) (o1:aE lh 1=⟨g,.cells [.i .i64 op,.i .i64 num,.s s,a] 0 true⟩):
  DC pE 84 (.loop gD) ⟨fr,lh,sh⟩=some (o,⟨ev pE 84 gD fr lh sh,eP pE 84 gD fr lh sh,eJ pE 84 gD fr lh sh⟩)∧
  ((fG xs=false→an (ev pE 84 gD fr lh sh) 2= .b false)∧eJ pE 84 gD fr lh sh=sh):=by
 refine a6 (P:=fun fr dj cq=>(fG xs=false→an fr 2= .b false)∧cq=sh) (bt (fun k st=> ∃(fr:Fr),st=⟨fr,lh,sh⟩∧an fr 1= .ptr .L 1 g 0∧an fr 6= .i .i64 (k:Int)∧fG xs=fG (xs.drop k)) _ xs.length ?_ ?_ 0 _ (Nat.zero_le _) ⟨fr,rfl,h1,h6,rfl⟩)
 ·rintro k _ hk ⟨fr,rfl,h1,h6,aU⟩
  have dN:(k:Int)<xs.length:=by omega
  have nR:=bE xs
  have NP:=cB (List.getElem_mem hk)
  have hw:=cE (k:=k) (c5 (by omega))
  obtain⟨b,cb,r,cQ,fu,oq,hb⟩:=dV ha hx k hk
  have aB:=ih xs[k] (List.getElem_mem hk) _ hb (by omega) (mg.1 j7 _ (List.getElem_mem hk))
  rw[yL hk]at aU
  cases hf:xs[k].wf with
  |true=>
   left
   rw[hf]at aB aU
   simp(maxDischargeDepth:=6) only[qF,ah,ai,ab,aj,ae,Nat.reduceLT,Nat.reduceLeDiff,Nat.reduceEqDiff,gD,h1,h6,o1,ha.lenI,dN,cQ,hw,aB,E0,fu.froz1]
   refine⟨_,rfl,_,rfl, ?_, ?_,aU⟩ <;> simp(maxDischargeDepth:=6) only[ab,ae,Nat.reduceEqDiff,h1]
  |false=>
   right
   rw[hf]at aB aU
   simp(maxDischargeDepth:=6) only[qF,ah,ai,ab,aj,ae,Nat.reduceLT,Nat.reduceLeDiff,Nat.reduceEqDiff,gD,h1,h6,o1,ha.lenI,dN,cQ,aB,E0,fu.froz1]
   refine⟨_,_,(by simp:Out.ret≠ .nrm),rfl,by rw[ho,aU];rfl,fun _=>by simp(maxDischargeDepth:=6) only[ab],rfl⟩
 ·rintro _ ⟨fr,rfl,h1,h6,aU⟩
  rw[List.drop_length,fG]at aU
  simp(maxDischargeDepth:=6) only[ah,ai,ab,aj,ae,ak,Nat.reduceLT,Nat.reduceEqDiff,gD,h1,h6,o1,ha.lenI,Int.lt_irrefl]
  exact⟨_,_,(by simp:Out.ext 1≠ .nrm),rfl,by rw[ho,aU];rfl,fun hc=>(by rw[aU]at hc;cases hc),rfl⟩
theorem Vw(x:Ex):ndP x:=by
 induction x using Ex.ind with
 |h x ih=>
  intro cs hx hn hs
  obtain⟨a,cc,rfl,ha,g5⟩:=hx.cells
  rw[aD Md (by simp[gN]),Ex.wf_eq]
  have hnd:=x.nodes_eq
  have Tc:=bE x.args
  obtain⟨rj,sW⟩:=(Ex.sm_eq x).1 hs
  have hL:=fun fr lh sh=>nd1 x.args ih a cc ha g5 (by omega) sW x.op x.num x.name _ rfl 1 fr lh sh
  have gm:=AD x.name rj
  have hn2:x.args.length≤200:=by omega
  generalize x.op=op,x.num=num,x.name=name,x.args.length=n at*
  by_cases h1:op<1
  ·rw[B4 h1];simp(maxDischargeDepth:=6) only[qF,ah,ai,ab,aj,ae,ak,Nat.reduceLT,Nat.reduceEqDiff,gN,h1]
  by_cases h2:(22:Int)<op
  ·rw[B5 h2];simp(maxDischargeDepth:=6) only[qF,ah,ai,ab,aj,ae,ak,Nat.reduceLT,Nat.reduceEqDiff,gN,h1,h2]
  rw[B6 h1 h2]
  have aX:=HT op (by omega) (by omega)
  have lR:=QB op n (by omega) (by omega) hn2
  have base: ∀b:Bool,(true&&b)=b:=fun b=>by simp
  cases ho:aW op n with
  |false=>
   rw[ho]at lR
   by_cases a1:(n:Int)<DX op
   ·simp(maxDischargeDepth:=6) only[qF,ah,ai,ab,aj,ae,ak,Nat.reduceLT,Nat.reduceEqDiff,gN,h1,h2,ha.lenI,aX,fA,a1]
   ·have a2:AB op<(n:Int):=by
     by_cases a2:AB op<(n:Int)
     ·exact a2
     ·exact absurd (lR.2 ⟨a1,a2⟩) (by simp)
    simp(maxDischargeDepth:=6) only[qF,ah,ai,ab,aj,ae,ak,Nat.reduceLT,Nat.reduceEqDiff,gN,h1,h2,ha.lenI,aX,fA,a1,a2]
  |true=>
   obtain⟨a1,a2⟩:=lR.1 ho
   rw[base]
   generalize DX op=lo,AB op=hi at aX a1 a2
   clear lR ho
   by_cases e1:op=1
   ·subst e1
    have hm:ga 1=1099511627776:=rfl
    rw[hm,if_neg (by decide)]
    by_cases n1:num<0
    ·rw[decide_eq_false (by omega)];simp(maxDischargeDepth:=6) only[qF,ah,ai,ab,aj,ae,ak,Nat.reduceLT,Nat.reduceEqDiff,Int.reduceLT,Int.reduceEq,gN,ha.lenI,aX,fA,a1,a2,n1]
    by_cases n2:(1099511627776:Int)<num
    ·rw[decide_eq_false (fun h=>absurd h.2 (Int.not_le.2 n2))];simp(maxDischargeDepth:=6) only[qF,ah,ai,ab,aj,ae,ak,Nat.reduceLT,Nat.reduceEqDiff,Int.reduceLT,Int.reduceEq,gN,ha.lenI,aX,fA,a1,a2,n1,n2]
    rw[decide_eq_true (p:=0≤num∧num≤1099511627776) ⟨Int.not_lt.1 n1,Int.not_lt.1 n2⟩,base]
    by_cases e:name= []
    ·rw[decide_eq_true e,base]
     cases hw:fG x.args <;> simp only[hw]at hL <;> simp(maxDischargeDepth:=6) only[qF,ah,ai,ab,aj,ae,ak,Nat.reduceLT,Nat.reduceEqDiff,Int.reduceLT,Int.reduceEq,gN,ha.lenI,aX,fA,a1,a2,n1,n2,e,hL]
    ·rw[decide_eq_false e];simp(maxDischargeDepth:=6) only[qF,ah,ai,ab,aj,ae,ak,Nat.reduceLT,Nat.reduceEqDiff,Int.reduceLT,Int.reduceEq,gN,ha.lenI,aX,fA,a1,a2,n1,n2,e]
   by_cases e2:op=2
   ·subst e2
    have hm:ga 2=1099511627776:=rfl
    rw[hm,if_neg (by decide)]
    by_cases n1:num<0
    ·rw[decide_eq_false (by omega)];simp(maxDischargeDepth:=6) only[qF,ah,ai,ab,aj,ae,ak,Nat.reduceLT,Nat.reduceEqDiff,Int.reduceLT,Int.reduceEq,gN,ha.lenI,aX,fA,a1,a2,n1]
    by_cases n2:(1099511627776:Int)<num
    ·rw[decide_eq_false (fun h=>absurd h.2 (Int.not_le.2 n2))];simp(maxDischargeDepth:=6) only[qF,ah,ai,ab,aj,ae,ak,Nat.reduceLT,Nat.reduceEqDiff,Int.reduceLT,Int.reduceEq,gN,ha.lenI,aX,fA,a1,a2,n1,n2]
    rw[decide_eq_true (p:=0≤num∧num≤1099511627776) ⟨Int.not_lt.1 n1,Int.not_lt.1 n2⟩,base]
    by_cases e:name= []
    ·rw[decide_eq_true e,base]
     cases hw:fG x.args <;> simp only[hw]at hL <;> simp(maxDischargeDepth:=6) only[qF,ah,ai,ab,aj,ae,ak,Nat.reduceLT,Nat.reduceEqDiff,Int.reduceLT,Int.reduceEq,gN,ha.lenI,aX,fA,a1,a2,n1,n2,e,hL]
    ·rw[decide_eq_false e];simp(maxDischargeDepth:=6) only[qF,ah,ai,ab,aj,ae,ak,Nat.reduceLT,Nat.reduceEqDiff,Int.reduceLT,Int.reduceEq,gN,ha.lenI,aX,fA,a1,a2,n1,n2,e]
   by_cases e3:op=3
   ·subst e3
    have hm:ga 3=1439:=rfl
    rw[hm,if_neg (by decide)]
    by_cases n1:num<0
    ·rw[decide_eq_false (by omega)];simp(maxDischargeDepth:=6) only[qF,ah,ai,ab,aj,ae,ak,Nat.reduceLT,Nat.reduceEqDiff,Int.reduceLT,Int.reduceEq,gN,ha.lenI,aX,fA,a1,a2,n1]
    by_cases n2:(1439:Int)<num
    ·rw[decide_eq_false (fun h=>absurd h.2 (Int.not_le.2 n2))];simp(maxDischargeDepth:=6) only[qF,ah,ai,ab,aj,ae,ak,Nat.reduceLT,Nat.reduceEqDiff,Int.reduceLT,Int.reduceEq,gN,ha.lenI,aX,fA,a1,a2,n1,n2]
    rw[decide_eq_true (p:=0≤num∧num≤1439) ⟨Int.not_lt.1 n1,Int.not_lt.1 n2⟩,base]
    by_cases e:name= []
    ·rw[decide_eq_true e,base]
     cases hw:fG x.args <;> simp only[hw]at hL <;> simp(maxDischargeDepth:=6) only[qF,ah,ai,ab,aj,ae,ak,Nat.reduceLT,Nat.reduceEqDiff,Int.reduceLT,Int.reduceEq,gN,ha.lenI,aX,fA,a1,a2,n1,n2,e,hL]
    ·rw[decide_eq_false e];simp(maxDischargeDepth:=6) only[qF,ah,ai,ab,aj,ae,ak,Nat.reduceLT,Nat.reduceEqDiff,Int.reduceLT,Int.reduceEq,gN,ha.lenI,aX,fA,a1,a2,n1,n2,e]
   have hm:ga op=0:=by unfold ga;rw[if_neg (by omega),if_neg e3]
   rw[hm]
   by_cases n1:num<0
   ·rw[decide_eq_false (by omega)];simp(maxDischargeDepth:=6) only[qF,ah,ai,ab,aj,ae,ak,Nat.reduceLT,Nat.reduceEqDiff,gN,ha.lenI,aX,fA,a1,a2,h1,h2,e1,e2,e3,n1]
   by_cases n2:(0:Int)<num
   ·rw[decide_eq_false (by omega)];simp(maxDischargeDepth:=6) only[qF,ah,ai,ab,aj,ae,ak,Nat.reduceLT,Nat.reduceEqDiff,gN,ha.lenI,aX,fA,a1,a2,h1,h2,e1,e2,e3,n1,n2]
   rw[decide_eq_true (p:=0≤num∧num≤0) (by omega),base]
   by_cases e6:op=6
   ·subst e6
    rw[if_pos rfl]
    cases hb:gB name with
    |true=>
     rw[hb]at gm
     cases hw:fG x.args <;> simp only[hw]at hL <;> simp(maxDischargeDepth:=6) only[qF,ah,ai,ab,aj,ae,ak,Nat.reduceLT,Nat.reduceEqDiff,Int.reduceLT,Int.reduceEq,gN,ha.lenI,aX,fA,a1,a2,n1,n2,gm,ML,hL]
    |false=>
     rw[hb]at gm
     simp(maxDischargeDepth:=6) only[qF,ah,ai,ab,aj,ae,ak,Nat.reduceLT,Nat.reduceEqDiff,Int.reduceLT,Int.reduceEq,gN,ha.lenI,aX,fA,a1,a2,n1,n2,gm,ML]
   ·rw[if_neg e6]
    by_cases e:name= []
    ·rw[decide_eq_true e,base]
     cases hw:fG x.args <;> simp only[hw]at hL <;> simp(maxDischargeDepth:=6) only[qF,ah,ai,ab,aj,ae,ak,Nat.reduceLT,Nat.reduceEqDiff,gN,ha.lenI,aX,fA,a1,a2,h1,h2,e1,e2,e3,e6,n1,n2,e,hL]
    ·rw[decide_eq_false e];simp(maxDischargeDepth:=6) only[qF,ah,ai,ab,aj,ae,ak,Nat.reduceLT,Nat.reduceEqDiff,gN,ha.lenI,aX,fA,a1,a2,h1,h2,e1,e2,e3,e6,n1,n2,e]
theorem oA{x:Ex}(hv:bF x=0):x.nodes≤200:=by
 unfold bF at hv
 by_cases h:sr x
 ·rw[if_pos h]at hv;cases hv
 ·unfold sr at h;omega
theorem D5(x:Ex)(cs:List T)(hx:bj x cs)(hn:0≤x.nodes)(hs:x.sm): ∃s,aa pE 55 [.agg cs] []=some (.i .i64 (bF x),s):=by
 obtain⟨n',hf,_⟩:=LD x 1 0 cs hx (by omega) (by omega)
 have hw0:=fun h=>Vv x cs hx h hs
 have lR:cF 0 1 x↔ ¬sr x:=by unfold cF sr;omega
 obtain⟨a,cc,rfl,ha,g5⟩:=hx.cells
 rw[aD RR (by simp[Q3])]
 unfold sv at hf
 have Yw:((0:Nat):Int)=0:=rfl
 have HQ:((1:Nat):Int)=1:=rfl
 rw[Yw,HQ]at hf
 unfold bF
 by_cases hb:sr x
 ·have iE: ¬cF 0 1 x:=fun h=>lR.1 h hb
  rw[decide_eq_false iE]at hf
  simp(maxDischargeDepth:=6) only[qF,ah,ai,ab,aj,ae,ak,splice,Nat.reduceAdd,Nat.reduceLT,Nat.reduceEqDiff,pf,im,Q3,hf,AS,ha.kept1,hb]
  exact⟨_,rfl⟩
 ·have hw:=hw0 (by unfold sr at hb;omega)
  rw[decide_eq_true (lR.2 hb)]at hf
  cases fy:x.wf <;> rw[fy]at hw <;> simp(maxDischargeDepth:=6) only[qF,ah,ai,ab,aj,ae,ak,splice,Nat.reduceAdd,Nat.reduceLT,Nat.reduceEqDiff,pf,im,Q3,hf,AS,hw,ES,ha.kept1,ha.froz1,hb] <;> exact⟨_,rfl⟩
theorem uk{z:Nat}{fr:Fr}{lh:aQ aA}{sh:List aA}(x:Ex)(cs:List T)(hx:bj x cs)(hn:0≤x.nodes)(hs:x.sm):ar pE (aa pE) z ⟨fr,lh,sh⟩ 55 [.agg cs]=some (.i .i64 (bF x),⟨fr,lh,sh⟩):=by
 obtain⟨s,h⟩:=D5 x cs hx hn hs
 obtain⟨a,cc,rfl,ha,g5⟩:=hx.cells
 rw[Yc (by simp[j2,kG,l8,ha.froz1]),h];rfl
theorem pw(x:Ex)(cs:List T)(hx:bj x cs)(hs:x.sm):aa pE 59 [.agg cs] []=some (.i .i64 (bF x),[]):=by
 have hz:=LH x cs hx
 have nH:=QA x
 have ij:=HR x (level:=1) (by omega)
 have hw:=Vw x cs hx
 obtain⟨a,cc,rfl,ha,g5⟩:=hx.cells
 rw[aD RV (by simp[Om])]
 unfold bF
 generalize x.sz 1=p at*
 by_cases c1:(200:Int)<(p.1:Int)
 ·have hb:sr x:=nH.1 (by omega)
  simp(maxDischargeDepth:=6) only[qF,ah,ai,ab,aj,ae,ak,Nat.reduceAdd,Nat.reduceLT,Nat.reduceEqDiff,Om,hz,EZ,ha.froz1,hb,c1]
 ·by_cases c2:(16:Int)<(p.2:Int)
  ·have hb:sr x:=nH.1 (by omega)
   simp(maxDischargeDepth:=6) only[qF,ah,ai,ab,aj,ae,ak,Nat.reduceAdd,Nat.reduceLT,Nat.reduceEqDiff,Om,hz,EZ,ha.froz1,hb,c1,c2]
  ·have hb: ¬sr x:=fun h=>by have:=nH.2 h;omega
   have FQ:=hw (by unfold sr at hb;omega) hs
   cases fy:x.wf <;> rw[fy]at FQ <;> simp(maxDischargeDepth:=6) only[qF,ah,ai,ab,aj,ae,ak,Nat.reduceAdd,Nat.reduceLT,Nat.reduceEqDiff,Om,hz,EZ,ha.froz1,hb,c1,c2,FQ,E0]
end Go.Proofs.YtfenhjpkomldcaaGreat
namespace Go.Proofs.YtfenhjpkomldcaaGreat
open Go Go.Ev
theorem iY(l:List Int):(ints l).length=l.length:=by simp[ints]
theorem tP(l:List Int)(k:Nat)(hk:k<l.length):(ints l).drop k=T.i .i64 l[k]::(ints l).drop (k+1):=by
 rw[List.drop_eq_getElem_cons (by rw[iY];exact hk)];simp[ints]
theorem gz{a:T}{ts:List Int}(ha:aN a ts.length (ints ts)){k:Nat}(hk:k<ts.length)(kk:IntKind):tJ a (.i kk (k:Int)) 1=some (.vp (T.i .i64 ts[k]::(ints ts).drop (k+1))):=by
 rw[ha.ia (sz:=1) (by rw[iY];omega) hk,Nat.mul_one,tP ts k hk]
theorem uB{ts:List Int}{k:Nat}{t:Int}(hk:k<ts.length):cI (ts.drop k) t=(decide (ts[k]=t)&&cI (ts.drop (k+1)) t):=by
 unfold cI;rw[List.drop_eq_getElem_cons hk,List.all_cons]
theorem Vx(ts:List Int)(t:Int)(a:T)(ha:aN a ts.length (ints ts))(hlen:ts.length≤gi)(o:Out)(ho:o=if cI ts t then .ext 0 else .ret)(fr:Fr)(lh:aQ aA)(sh:List aA)
  (h1:an fr 1= .i .i64 t) (h7:an fr 7=a) (h8:an fr 8= .i .i64 (ts.length:Int)) (h9:an fr 9= .i .i64 0):
  DC pE 17 (.loop fN) ⟨fr,lh,sh⟩=some (o,⟨ev pE 17 fN fr lh sh,eP pE 17 fN fr lh sh,eJ pE 17 fN fr lh sh⟩)∧
  ((cI ts t=false→an (ev pE 17 fN fr lh sh) 4= .b false)∧eP pE 17 fN fr lh sh=lh∧eJ pE 17 fN fr lh sh=sh):=by
 refine a6 (P:=fun fr dj cq=>(cI ts t=false→an fr 4= .b false)∧dj=lh∧cq=sh) (bt (fun k st=> ∃(fr:Fr),st=⟨fr,lh,sh⟩∧an fr 1= .i .i64 t∧an fr 7=a∧an fr 8= .i .i64 (ts.length:Int)∧an fr 9= .i .i64 (k:Int)∧cI ts t=cI (ts.drop k) t) _ ts.length ?_ ?_ 0 _ (Nat.zero_le _) ⟨fr,rfl,h1,h7,h8,h9,rfl⟩)
 ·rintro k _ hk ⟨fr,rfl,h1,h7,h8,h9,aU⟩
  have dN:(k:Int)<ts.length:=by omega
  have hw:=cE (k:=k) (by omega)
  rw[uB hk]at aU
  by_cases hf:ts[k]=t
  ·left
   rw[decide_eq_true hf,Bool.true_and]at aU
   simp(maxDischargeDepth:=6) only[ah,ai,ab,aj,ae,Nat.reduceLT,Nat.reduceEqDiff,fN,h1,h7,h8,h9,dN,gz ha hk,hw,hf]
   refine⟨_,rfl,_,rfl, ?_, ?_, ?_, ?_,aU⟩ <;> simp(maxDischargeDepth:=6) only[ab,ae,Nat.reduceEqDiff,h1,h7,h8]
  ·right
   rw[decide_eq_false hf,Bool.false_and]at aU
   simp(maxDischargeDepth:=6) only[ah,ai,ab,aj,ae,ak,Nat.reduceLT,Nat.reduceEqDiff,fN,h1,h7,h8,h9,dN,gz ha hk,hf]
   refine⟨_,_,(by simp:Out.ret≠ .nrm),rfl,by rw[ho,aU];rfl,fun _=>by simp(maxDischargeDepth:=6) only[ab],rfl,rfl⟩
 ·rintro _ ⟨fr,rfl,h1,h7,h8,h9,aU⟩
  rw[List.drop_length]at aU
  have aU:cI ts t=true:=aU
  simp(maxDischargeDepth:=6) only[ah,ai,ab,ae,ak,Nat.reduceLT,fN,h8,h9,Int.lt_irrefl]
  exact⟨_,_,(by simp:Out.ext 0≠ .nrm),rfl,by rw[ho,aU];rfl,fun hc=>(by rw[aU]at hc;cases hc),rfl,rfl⟩
theorem B7(ts:List Int)(t:Int)(a:T)(ha:aN a ts.length (ints ts))(hlen:ts.length≤gi):aa pE 247 [a,.i .i64 t] []=some (.b (cI ts t),[]):=by
 have hL:=fun fr lh sh=>Vx ts t a ha hlen _ rfl fr lh sh
 rw[aD Nh (by simp[EO])]
 cases h:cI ts t <;> simp only[h]at hL <;> simp(maxDischargeDepth:=6) only[qF,ah,ai,ab,aj,ae,reduceCtorEq,Nat.reduceLT,Nat.reduceEqDiff,EO,ha.lenI,hL]
theorem Vy(ts:List Int)(t:Int)(a:T)(ha:aN a ts.length (ints ts))(hlen:ts.length≤gi)(o:Out)(ho:o=if cI ts t then .ext 0 else .ret)(fr:Fr)(lh:aQ aA)(sh:List aA)
  (h0:an fr 0=a) (h1:an fr 1= .i .i64 t) (h5:an fr 5= .i .i64 0):
  DC pE 18 (.loop fL) ⟨fr,lh,sh⟩=some (o,⟨ev pE 18 fL fr lh sh,eP pE 18 fL fr lh sh,eJ pE 18 fL fr lh sh⟩)∧
  ((cI ts t=false→an (ev pE 18 fL fr lh sh) 4= .b false)∧eP pE 18 fL fr lh sh=lh∧eJ pE 18 fL fr lh sh=sh):=by
 refine a6 (P:=fun fr dj cq=>(cI ts t=false→an fr 4= .b false)∧dj=lh∧cq=sh) (bt (fun k st=> ∃(fr:Fr),st=⟨fr,lh,sh⟩∧an fr 0=a∧an fr 1= .i .i64 t∧an fr 5= .i .i64 (k:Int)∧cI ts t=cI (ts.drop k) t) _ ts.length ?_ ?_ 0 _ (Nat.zero_le _) ⟨fr,rfl,h0,h1,h5,rfl⟩)
 ·rintro k _ hk ⟨fr,rfl,h0,h1,h5,aU⟩
  have dN:(k:Int)<ts.length:=by omega
  have hw:=cE (k:=k) (by omega)
  rw[uB hk]at aU
  by_cases hf:ts[k]=t
  ·left
   rw[decide_eq_true hf,Bool.true_and]at aU
   simp(maxDischargeDepth:=6) only[ah,ai,ab,aj,ae,reduceCtorEq,Nat.reduceLT,Nat.reduceEqDiff,fL,h0,h1,h5,ha.lenI,dN,gz ha hk,hw,hf]
   refine⟨_,rfl,_,rfl, ?_, ?_, ?_,aU⟩ <;> simp(maxDischargeDepth:=6) only[ab,ae,reduceCtorEq,Nat.reduceEqDiff,h0,h1]
  ·right
   rw[decide_eq_false hf,Bool.false_and]at aU
   simp(maxDischargeDepth:=6) only[ah,ai,ab,aj,ae,ak,reduceCtorEq,Nat.reduceLT,Nat.reduceEqDiff,fL,h0,h1,h5,ha.lenI,dN,gz ha hk,hf]
   refine⟨_,_,(by simp:Out.ret≠ .nrm),rfl,by rw[ho,aU];rfl,fun _=>by simp(maxDischargeDepth:=6) only[ab],rfl,rfl⟩
 ·rintro _ ⟨fr,rfl,h0,h1,h5,aU⟩
  rw[List.drop_length]at aU
  have aU:cI ts t=true:=aU
  simp(maxDischargeDepth:=6) only[ah,ai,ab,ae,ak,reduceCtorEq,Nat.reduceLT,Nat.reduceEqDiff,fL,h0,h5,ha.lenI,Int.lt_irrefl]
  exact⟨_,_,(by simp:Out.ext 0≠ .nrm),rfl,by rw[ho,aU];rfl,fun hc=>(by rw[aU]at hc;cases hc),rfl,rfl⟩
theorem qO(ts:List Int)(t:Int)(a:T)(ha:aN a ts.length (ints ts))(hlen:ts.length≤gi):aa pE 219 [a,.i .i64 t] []=some (.b (cI ts t),[]):=by
 have hL:=fun fr lh sh=>Vy ts t a ha hlen _ rfl fr lh sh
 rw[aD M4 (by simp[EL])]
 cases h:cI ts t <;> simp only[h]at hL <;> simp(maxDischargeDepth:=6) only[qF,ah,ai,ab,aj,ae,reduceCtorEq,Nat.reduceLT,Nat.reduceEqDiff,EL,hL]
theorem uC(k:Int):aa pE 246 [.i .i64 k] []=some (.b (decide (k=1∨k=2)),[]):=by
 rw[aD Fi (by simp[Cy])]
 by_cases h1:k=1
 ·simp(maxDischargeDepth:=6) only[qF,ah,ai,ab,aj,ae,reduceCtorEq,Nat.reduceLT,Nat.reduceEqDiff,Int.reduceEq,Cy,h1,true_or]
 ·by_cases h2:k=2 <;> simp(maxDischargeDepth:=6) only[qF,ah,ai,ab,aj,ae,ak,reduceCtorEq,Nat.reduceLT,Nat.reduceEqDiff,Int.reduceEq,Cy,h1,h2,or_true,or_self]
theorem sE(op a b:Int):aa pE 248 [.i .i64 op,.i .i64 a,.i .i64 b] []=some (.i .i64 (eu op a b),[]):=by
 rw[aD Fj (by simp[oN])]
 unfold eu
 by_cases a1:a=1
 ·subst a1
  by_cases b1:b=1
  ·simp(maxDischargeDepth:=6) only[qF,ah,ai,ab,aj,ae,ak,Nat.reduceAdd,reduceCtorEq,Nat.reduceLT,Nat.reduceEqDiff,Int.reduceEq,oN,b1]
  ·by_cases o1:op=10
   ·by_cases b2:b=2 <;> simp(maxDischargeDepth:=6) only[qF,ah,ai,ab,aj,ae,ak,Nat.reduceAdd,reduceCtorEq,Nat.reduceLT,Nat.reduceEqDiff,Int.reduceEq,oN,b1,b2,o1]
   ·by_cases o2:op=11 <;> simp(maxDischargeDepth:=6) only[qF,ah,ai,ab,aj,ae,ak,Nat.reduceAdd,reduceCtorEq,Nat.reduceLT,Nat.reduceEqDiff,Int.reduceEq,oN,b1,o1,o2]
 ·by_cases a2:a=2
  ·subst a2
   by_cases b1:b=1
   ·simp(maxDischargeDepth:=6) only[qF,ah,ai,ab,aj,ae,ak,Nat.reduceAdd,reduceCtorEq,Nat.reduceLT,Nat.reduceEqDiff,Int.reduceEq,oN,b1]
   ·by_cases o1:op=10
    ·simp(maxDischargeDepth:=6) only[qF,ah,ai,ab,aj,ae,ak,Nat.reduceAdd,reduceCtorEq,Nat.reduceLT,Nat.reduceEqDiff,Int.reduceEq,oN,b1,o1]
    ·by_cases o2:op=11
     ·by_cases b2:b=2 <;> simp(maxDischargeDepth:=6) only[qF,ah,ai,ab,aj,ae,ak,Nat.reduceAdd,reduceCtorEq,Nat.reduceLT,Nat.reduceEqDiff,Int.reduceEq,oN,b1,b2,o2]
     ·simp(maxDischargeDepth:=6) only[qF,ah,ai,ab,aj,ae,ak,Nat.reduceAdd,reduceCtorEq,Nat.reduceLT,Nat.reduceEqDiff,Int.reduceEq,oN,b1,o1,o2]
  ·by_cases o1:op=10
   ·simp(maxDischargeDepth:=6) only[qF,ah,ai,ab,aj,ae,ak,Nat.reduceAdd,reduceCtorEq,Nat.reduceLT,Nat.reduceEqDiff,Int.reduceEq,oN,a1,a2,o1]
   ·by_cases o2:op=11 <;> simp(maxDischargeDepth:=6) only[qF,ah,ai,ab,aj,ae,ak,Nat.reduceAdd,reduceCtorEq,Nat.reduceLT,Nat.reduceEqDiff,Int.reduceEq,oN,a1,a2,o1,o2]
end Go.Proofs.YtfenhjpkomldcaaGreat
