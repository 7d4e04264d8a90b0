/- The form of an expression: both checks. The form of an expression: the reference's check, and both results. The type of a node by the types of its arguments: the program's and the reference's. Conditions: the theorems' own. -/
import Derived.Test.YtfenhjpkomldcaaGreatM2
import Derived.KernelRfl
set_option maxRecDepth 100000
set_option linter.unusedSimpArgs false
set_option linter.unusedVariables false
set_option maxHeartbeats 16000000
namespace Go.Proofs.YtfenhjpkomldcaaGreat
open Go Go.Ev
theorem BO: ∀s:List Nat,Dd s 46=wF s
 | []=>rfl
 |c::cs=>by
  rw[Dd,BO cs]
  unfold wF
  rw[iX]
  by_cases h:c=46
  ·simp[h]
  ·rw[if_neg h,if_neg h]
   cases iX cs with
   |none=>rfl
   |some i=>simp only[Option.map_some];rw[if_neg (by omega)];omega
theorem RR{z:Nat}{fr:Fr}{lh:aQ aB}{sh:List aB}{s:List Nat}:ar pE (ai pE) z ⟨fr,lh,sh⟩ 267 [.s s,.s [46]]=some (.i .i64 (wF s),⟨fr,lh,sh⟩):=by
 rw[Jy (g:=L6) rfl rfl,qM (by rfl),←BO]
 rfl
theorem Hk{s:List Nat}{i:Nat}(h:iX s=some i):wF s=(i:Int):=by unfold wF;rw[h]
theorem Hl{s:List Nat}(h:iX s=none):wF s= -1:=by unfold wF;rw[h]
theorem Zk{s:List Nat}(hd:iX s=none):ai pE 217 [.s s,.s [46]] []=some (.tup [.s s,.s [],.b false],[]):=by
 have h1:ai pE 250 [.s s,.s [46]] []=some (.tup [.s s,.s [],.b false],[]):=by
  rw[aG IT (by simp[Ci])]
  simp(maxDischargeDepth:=6) only[qF,ae,ah,aa,aj,ab,an,Int.reduceNeg,mZ,bH,bn,aP,Nat.reduceAdd,reduceCtorEq,Nat.reduceLT,Nat.reduceEqDiff,Int.reduceToNat,Int.reduceLE,Ci,RR,Hl hd]
 rw[aG IN (by simp[Ch])]
 simp(maxDischargeDepth:=6) only[qF,ae,ah,aa,aj,ab,reduceCtorEq,Nat.reduceLT,Nat.reduceEqDiff,Ch,h1,Q4]
theorem Zl{s:List Nat}{i:Nat}(hs:s.length≤j3)(hd:iX s=some i):ai pE 217 [.s s,.s [46]] []=some (.tup [.s (s.take i),.s (s.drop (i+1)),.b true],[]):=by
 have hi:=zg hd
 have h0:(0:Int)≤i:=by omega
 have hw:=jw (k:=i) (by omega)
 have hle:i≤s.length:=by omega
 have wj:i+1≤s.length:=by omega
 generalize i+1=j at hw wj ⊢
 have wV:=fun fr x (h:rd fr x= .i .i64 (j:Int))=>xM h wj
 have B1:=fun fr x (h:rd fr x= .i .i64 (i:Int))=>E5 h hle
 have h1:ai pE 250 [.s s,.s [46]] []=some (.tup [.s (s.take i),.s (s.drop j),.b true],[]):=by
  rw[aG IT (by simp[Ci])]
  simp(maxDischargeDepth:=6) only[qF,ae,ah,aa,aj,ab,bn,aP,Nat.reduceAdd,reduceCtorEq,Nat.reduceLT,Nat.reduceEqDiff,Ci,RR,Hk hd,h0,hw,wV,B1]
 rw[aG IN (by simp[Ch])]
 simp(maxDischargeDepth:=6) only[qF,ae,ah,aa,aj,ab,reduceCtorEq,Nat.reduceLT,Nat.reduceEqDiff,Ch,h1,Q4]
theorem DG(s:List Nat)(hs:s.length≤j3):ai pE 156 [.s s] []=some (.b (iY s),[]):=by
 rw[aG Qj (by simp[Ft])]
 cases hd:iX s with
 |none=>
  rw[td hd]
  simp(maxDischargeDepth:=6) only[qF,ae,ah,aa,aj,ab,reduceCtorEq,Nat.reduceLT,Nat.reduceEqDiff,Ft,Zk hd,QL,mn,gN]
 |some i=>
  have hc:=Zl hs hd
  rw[tc hd]
  generalize i+1=j at hc ⊢
  cases hn:gm (s.take i) <;> simp(maxDischargeDepth:=6) only[qF,ae,ah,aa,aj,ab,reduceCtorEq,Nat.reduceLT,Nat.reduceEqDiff,Ft,hc,QL,Bd,Qz,hn]
mutual
def Ex.sm:Ex→Prop
 | .mk _ _ name args=>name.length≤j3∧KS args
def KS:List Ex→Prop
 | []=>True
 |x::xs=>x.sm∧KS xs
end
theorem Ex.sm_eq(x:Ex):x.sm↔(x.name.length≤j3∧KS x.args):=by obtain⟨_,_,_,_⟩:=x;rw[Ex.sm];rfl
theorem oS: ∀{xs:List Ex},KS xs↔ ∀x∈xs,x.sm
 | []=>by simp[KS]
 |x::xs=>by rw[KS,oS (xs:=xs)];simp
def wfP(y:Ex):Prop:= ∀cs:List T,bE y cs→y.nodes≤100000→y.sm→ai pE 102 [.agg cs] []=some (.b y.wf,[])
theorem BP{xs:List Ex}{k:Nat}(hk:k<xs.length):gT (xs.drop k)=(xs[k].wf&&gT (xs.drop (k+1))):=by rw[mD hk,gT]
theorem wf1(xs:List Ex)(ih: ∀y∈xs,wfP y)(a:T)(cc:List T)(ha:aR a xs.length cc)(hx:aK xs cc)(hlen:a6 xs≤100000)(gb:KS xs)(o:Out)(ho:o=if gT xs then .ext 1 else .ret)(fr:Fr)(lh:aQ aB)(sh:List aB)
  (tF:ak fr 59=a) (so:ak fr 60= .i .i64 (xs.length:Int)) (tG:ak fr 61= .i .i64 0):
  DC pE 69 (.loop iZ) ⟨fr,lh,sh⟩=some (o,⟨cz pE 69 iZ fr lh sh,bK pE 69 iZ fr lh sh,cw pE 69 iZ fr lh sh⟩)∧
  ((gT xs=false→ak (cz pE 69 iZ fr lh sh) 2= .b false)∧cw pE 69 iZ fr lh sh=sh):=by
 refine aD (P:=fun fr bp br=>(gT xs=false→ak fr 2= .b false)∧br=sh) (aI (fun k st=> ∃(fr:Fr) (lh:aQ aB),st=⟨fr,lh,sh⟩∧ak fr 59=a∧ak fr 60= .i .i64 (xs.length:Int)∧ak fr 61= .i .i64 (k:Int)∧gT xs=gT (xs.drop k)) _ xs.length ?_ ?_ 0 _ (Nat.zero_le _) ⟨fr,lh,rfl,tF,so,tG,rfl⟩)
 ·rintro k _ hk ⟨fr,lh,rfl,tF,so,tG,bl⟩
  have bt:(k:Int)<xs.length:=by omega
  have qK:=bX xs
  have Rw:=cT (List.getElem_mem hk)
  have hw:=aJ (k:=k) (cm (by omega))
  obtain⟨b,cb,r,bh,cH,nA,hb⟩:=dm ha hx k hk
  have az:=ih xs[k] (List.getElem_mem hk) _ hb (by omega) (oS.1 gb _ (List.getElem_mem hk))
  rw[BP hk]at bl
  cases hf:xs[k].wf with
  |true=>
   left
   rw[hf]at az bl
   simp(maxDischargeDepth:=6) only[qF,ae,ah,aa,aj,ab,an,splice,Nat.reduceAdd,Nat.reduceLT,Nat.reduceLeDiff,Nat.reduceEqDiff,iZ,tF,so,tG,bt,bh,hw,az,Ip,cH.froz1]
   refine⟨_,rfl,_,_,rfl, ?_, ?_, ?_,bl⟩ <;> simp(maxDischargeDepth:=6) only[aa,ab,Nat.reduceEqDiff,tF,so]
  |false=>
   right
   rw[hf]at az bl
   simp(maxDischargeDepth:=6) only[qF,ae,ah,aa,aj,ab,an,splice,Nat.reduceAdd,Nat.reduceLT,Nat.reduceLeDiff,Nat.reduceEqDiff,iZ,tF,so,tG,bt,bh,az,Ip,cH.froz1]
   refine⟨_,_,(by simp:Out.ret≠ .nrm),rfl,by rw[ho,bl];rfl,fun _=>by simp(maxDischargeDepth:=6) only[aa],rfl⟩
 ·rintro _ ⟨fr,lh,rfl,tF,so,tG,bl⟩
  rw[List.drop_length,gT]at bl
  simp(maxDischargeDepth:=6) only[ae,ah,aa,ab,an,Nat.reduceLT,iZ,so,tG,Int.lt_irrefl]
  exact⟨_,_,(by simp:Out.ext 1≠ .nrm),rfl,by rw[ho,bl];rfl,fun hc=>(by rw[bl]at hc;cases hc),rfl⟩
theorem E9{op num:Int}{name:List Nat}{n:Nat}(h:op<1):fX op num name n=false:=by unfold fX;rw[decide_eq_false (by omega)];rfl
theorem Fa{op num:Int}{name:List Nat}{n:Nat}(h:22<op):fX op num name n=false:=by unfold fX;rw[decide_eq_false (p:=op≤22) (by omega)];simp
theorem Fb{op num:Int}{name:List Nat}{n:Nat}(h1: ¬op<1)(h2: ¬22<op):fX op num name n=(bm op n&&(decide (0≤num∧num≤iA op)&&(if op=6 then iY name else decide (name= [])))):=by
 unfold fX;rw[decide_eq_true (p:=1≤op) (by omega),decide_eq_true (p:=op≤22) (by omega)];rfl
theorem Zm(x:Ex):wfP x:=by
 induction x using Ex.ind with
 |h x ih=>
  intro cs hx hn hs
  obtain⟨a,cc,rfl,ha,mH⟩:=hx.cells
  rw[aG PJ (by simp[jW]),Ex.wf_eq]
  have nO:=x.nodes_eq
  obtain⟨wV,B1⟩:=(Ex.sm_eq x).1 hs
  have hL:=fun fr lh sh=>wf1 x.args ih a cc ha mH (by omega) B1 _ rfl fr lh sh
  have ga:=DG x.name wV
  generalize x.op=op,x.num=num,x.name=name,x.args.length=n at*
  by_cases h1:op<1
  ·rw[E9 h1];simp(maxDischargeDepth:=6) only[qF,ae,ah,aa,aj,ab,an,Nat.reduceLT,Nat.reduceEqDiff,jW,h1]
  by_cases h2:(22:Int)<op
  ·rw[Fa h2];simp(maxDischargeDepth:=6) only[qF,ae,ah,aa,aj,ab,an,Nat.reduceLT,Nat.reduceEqDiff,jW,h1,h2]
  rw[Fb h1 h2]
  have bo:=DA op n (by omega) (by omega)
  cases ho:bm op n with
  |false=>
   rw[ho]at bo
   simp(maxDischargeDepth:=6) only[qF,ae,ah,aa,aj,ab,an,Nat.reduceLT,Nat.reduceEqDiff,jW,h1,h2,ha.lenI,bo,iG]
  |true=>
   rw[ho]at bo
   have base: ∀b:Bool,(true&&b)=b:=fun b=>by simp
   rw[base]
   by_cases e1:op=1
   ·subst e1
    have hm:iA 1=1099511627776:=rfl
    rw[hm,if_neg (by decide)]
    by_cases n1:num<0
    ·rw[decide_eq_false (by omega)];simp(maxDischargeDepth:=6) only[qF,ae,ah,aa,aj,ab,an,Nat.reduceLT,Nat.reduceEqDiff,Int.reduceLT,Int.reduceEq,jW,ha.lenI,bo,iG,n1]
    by_cases n2:(1099511627776:Int)<num
    ·rw[decide_eq_false (fun h=>absurd h.2 (Int.not_le.2 n2))];simp(maxDischargeDepth:=6) only[qF,ae,ah,aa,aj,ab,an,Nat.reduceLT,Nat.reduceEqDiff,Int.reduceLT,Int.reduceEq,jW,ha.lenI,bo,iG,n1,n2]
    rw[decide_eq_true (p:=0≤num∧num≤1099511627776) ⟨Int.not_lt.1 n1,Int.not_lt.1 n2⟩,base]
    by_cases e:name= []
    ·rw[decide_eq_true e,base]
     cases hw:gT x.args <;> simp only[hw]at hL <;> simp(maxDischargeDepth:=6) only[qF,ae,ah,aa,aj,ab,an,Nat.reduceLT,Nat.reduceEqDiff,Int.reduceLT,Int.reduceEq,jW,ha.lenI,bo,iG,n1,n2,e,hL]
    ·rw[decide_eq_false e];simp(maxDischargeDepth:=6) only[qF,ae,ah,aa,aj,ab,an,Nat.reduceLT,Nat.reduceEqDiff,Int.reduceLT,Int.reduceEq,jW,ha.lenI,bo,iG,n1,n2,e]
   by_cases e2:op=2
   ·subst e2
    have hm:iA 2=1099511627776:=rfl
    rw[hm,if_neg (by decide)]
    by_cases n1:num<0
    ·rw[decide_eq_false (by omega)];simp(maxDischargeDepth:=6) only[qF,ae,ah,aa,aj,ab,an,Nat.reduceLT,Nat.reduceEqDiff,Int.reduceLT,Int.reduceEq,jW,ha.lenI,bo,iG,n1]
    by_cases n2:(1099511627776:Int)<num
    ·rw[decide_eq_false (fun h=>absurd h.2 (Int.not_le.2 n2))];simp(maxDischargeDepth:=6) only[qF,ae,ah,aa,aj,ab,an,Nat.reduceLT,Nat.reduceEqDiff,Int.reduceLT,Int.reduceEq,jW,ha.lenI,bo,iG,n1,n2]
    rw[decide_eq_true (p:=0≤num∧num≤1099511627776) ⟨Int.not_lt.1 n1,Int.not_lt.1 n2⟩,base]
    by_cases e:name= []
    ·rw[decide_eq_true e,base]
     cases hw:gT x.args <;> simp only[hw]at hL <;> simp(maxDischargeDepth:=6) only[qF,ae,ah,aa,aj,ab,an,Nat.reduceLT,Nat.reduceEqDiff,Int.reduceLT,Int.reduceEq,jW,ha.lenI,bo,iG,n1,n2,e,hL]
    ·rw[decide_eq_false e];simp(maxDischargeDepth:=6) only[qF,ae,ah,aa,aj,ab,an,Nat.reduceLT,Nat.reduceEqDiff,Int.reduceLT,Int.reduceEq,jW,ha.lenI,bo,iG,n1,n2,e]
   by_cases e3:op=3
   ·subst e3
    have hm:iA 3=1439:=rfl
    rw[hm,if_neg (by decide)]
    by_cases n1:num<0
    ·rw[decide_eq_false (by omega)];simp(maxDischargeDepth:=6) only[qF,ae,ah,aa,aj,ab,an,Nat.reduceLT,Nat.reduceEqDiff,Int.reduceLT,Int.reduceEq,jW,ha.lenI,bo,iG,n1]
    by_cases n2:(1439:Int)<num
    ·rw[decide_eq_false (fun h=>absurd h.2 (Int.not_le.2 n2))];simp(maxDischargeDepth:=6) only[qF,ae,ah,aa,aj,ab,an,Nat.reduceLT,Nat.reduceEqDiff,Int.reduceLT,Int.reduceEq,jW,ha.lenI,bo,iG,n1,n2]
    rw[decide_eq_true (p:=0≤num∧num≤1439) ⟨Int.not_lt.1 n1,Int.not_lt.1 n2⟩,base]
    by_cases e:name= []
    ·rw[decide_eq_true e,base]
     cases hw:gT x.args <;> simp only[hw]at hL <;> simp(maxDischargeDepth:=6) only[qF,ae,ah,aa,aj,ab,an,Nat.reduceLT,Nat.reduceEqDiff,Int.reduceLT,Int.reduceEq,jW,ha.lenI,bo,iG,n1,n2,e,hL]
    ·rw[decide_eq_false e];simp(maxDischargeDepth:=6) only[qF,ae,ah,aa,aj,ab,an,Nat.reduceLT,Nat.reduceEqDiff,Int.reduceLT,Int.reduceEq,jW,ha.lenI,bo,iG,n1,n2,e]
   have hm:iA op=0:=by unfold iA;rw[if_neg (by omega),if_neg e3]
   rw[hm]
   by_cases n1:num=0
   ·rw[decide_eq_true (p:=0≤num∧num≤0) (by omega),base]
    by_cases e6:op=6
    ·subst e6
     rw[if_pos rfl]
     cases hb:iY name with
     |true=>
      rw[hb]at ga
      cases hw:gT x.args <;> simp only[hw]at hL <;> simp(maxDischargeDepth:=6) only[qF,ae,ah,aa,aj,ab,an,Nat.reduceLT,Nat.reduceEqDiff,Int.reduceLT,Int.reduceEq,jW,ha.lenI,bo,iG,n1,ga,Qk,hL]
     |false=>
      rw[hb]at ga
      simp(maxDischargeDepth:=6) only[qF,ae,ah,aa,aj,ab,an,Nat.reduceLT,Nat.reduceEqDiff,Int.reduceLT,Int.reduceEq,jW,ha.lenI,bo,iG,n1,ga,Qk]
    ·rw[if_neg e6]
     by_cases e:name= []
     ·rw[decide_eq_true e,base]
      cases hw:gT x.args <;> simp only[hw]at hL <;> simp(maxDischargeDepth:=6) only[qF,ae,ah,aa,aj,ab,an,Nat.reduceLT,Nat.reduceEqDiff,Int.reduceLT,jW,ha.lenI,bo,iG,h1,h2,e1,e2,e3,e6,n1,e,hL]
     ·rw[decide_eq_false e];simp(maxDischargeDepth:=6) only[qF,ae,ah,aa,aj,ab,an,Nat.reduceLT,Nat.reduceEqDiff,Int.reduceLT,jW,ha.lenI,bo,iG,h1,h2,e1,e2,e3,e6,n1,e]
   ·rw[decide_eq_false (p:=0≤num∧num≤0) (by omega)]
    simp(maxDischargeDepth:=6) only[qF,ae,ah,aa,aj,ab,an,Nat.reduceLT,Nat.reduceEqDiff,jW,ha.lenI,bo,iG,h1,h2,e1,e2,e3,n1]
end Go.Proofs.YtfenhjpkomldcaaGreat
namespace Go.Proofs.YtfenhjpkomldcaaGreat
open Go Go.Ev
def ndP(y:Ex):Prop:= ∀cs:List T,bE y cs→y.nodes≤200→y.sm→ai pE 112 [.agg cs] []=some (.b y.wf,[])
theorem nd1(xs:List Ex)(ih: ∀y∈xs,ndP y)(a:T)(cc:List T)(ha:aR a xs.length cc)(hx:aK xs cc)(hlen:a6 xs≤200)(gb:KS xs)(op num:Int)(s:List Nat)(o:Out)(ho:o=if gT xs then .ext 1 else .ret)(g:Nat)(fr:Fr)(lh:aQ aB)(sh:List aB)
  (h1:ak fr 1= .ptr .L 1 g 0) (h6:ak fr 6= .i .i64 0) (o1:aq lh 1=⟨g,.cells [.i .i64 op,.i .i64 num,.s s,a] 0 true⟩):
  DC pE 84 (.loop ja) ⟨fr,lh,sh⟩=some (o,⟨cz pE 84 ja fr lh sh,bK pE 84 ja fr lh sh,cw pE 84 ja fr lh sh⟩)∧
  ((gT xs=false→ak (cz pE 84 ja fr lh sh) 2= .b false)∧cw pE 84 ja fr lh sh=sh):=by
 refine aD (P:=fun fr bp br=>(gT xs=false→ak fr 2= .b false)∧br=sh) (aI (fun k st=> ∃(fr:Fr),st=⟨fr,lh,sh⟩∧ak fr 1= .ptr .L 1 g 0∧ak fr 6= .i .i64 (k:Int)∧gT xs=gT (xs.drop k)) _ xs.length ?_ ?_ 0 _ (Nat.zero_le _) ⟨fr,rfl,h1,h6,rfl⟩)
 ·rintro k _ hk ⟨fr,rfl,h1,h6,bl⟩
  have bt:(k:Int)<xs.length:=by omega
  have qK:=bX xs
  have Rw:=cT (List.getElem_mem hk)
  have hw:=aJ (k:=k) (cm (by omega))
  obtain⟨b,cb,r,bh,cH,nA,hb⟩:=dm ha hx k hk
  have az:=ih xs[k] (List.getElem_mem hk) _ hb (by omega) (oS.1 gb _ (List.getElem_mem hk))
  rw[BP hk]at bl
  cases hf:xs[k].wf with
  |true=>
   left
   rw[hf]at az bl
   simp(maxDischargeDepth:=6) only[qF,ae,ah,aa,aj,ab,Nat.reduceLT,Nat.reduceLeDiff,Nat.reduceEqDiff,ja,h1,h6,o1,ha.lenI,bt,bh,hw,az,Iw,cH.froz1]
   refine⟨_,rfl,_,rfl, ?_, ?_,bl⟩ <;> simp(maxDischargeDepth:=6) only[aa,ab,Nat.reduceEqDiff,h1]
  |false=>
   right
   rw[hf]at az bl
   simp(maxDischargeDepth:=6) only[qF,ae,ah,aa,aj,ab,Nat.reduceLT,Nat.reduceLeDiff,Nat.reduceEqDiff,ja,h1,h6,o1,ha.lenI,bt,bh,az,Iw,cH.froz1]
   refine⟨_,_,(by simp:Out.ret≠ .nrm),rfl,by rw[ho,bl];rfl,fun _=>by simp(maxDischargeDepth:=6) only[aa],rfl⟩
 ·rintro _ ⟨fr,rfl,h1,h6,bl⟩
  rw[List.drop_length,gT]at bl
  simp(maxDischargeDepth:=6) only[ae,ah,aa,aj,ab,an,Nat.reduceLT,Nat.reduceEqDiff,ja,h1,h6,o1,ha.lenI,Int.lt_irrefl]
  exact⟨_,_,(by simp:Out.ext 1≠ .nrm),rfl,by rw[ho,bl];rfl,fun hc=>(by rw[bl]at hc;cases hc),rfl⟩
theorem Zn(x:Ex):ndP x:=by
 induction x using Ex.ind with
 |h x ih=>
  intro cs hx hn hs
  obtain⟨a,cc,rfl,ha,mH⟩:=hx.cells
  rw[aG PR (by simp[ji]),Ex.wf_eq]
  have nO:=x.nodes_eq
  have ZM:=bX x.args
  obtain⟨wV,B1⟩:=(Ex.sm_eq x).1 hs
  have hL:=fun fr lh sh=>nd1 x.args ih a cc ha mH (by omega) B1 x.op x.num x.name _ rfl 1 fr lh sh
  have ga:=DD x.name wV
  have Hy:x.args.length≤200:=by omega
  generalize x.op=op,x.num=num,x.name=name,x.args.length=n at*
  by_cases h1:op<1
  ·rw[E9 h1];simp(maxDischargeDepth:=6) only[qF,ae,ah,aa,aj,ab,an,Nat.reduceLT,Nat.reduceEqDiff,ji,h1]
  by_cases h2:(22:Int)<op
  ·rw[Fa h2];simp(maxDischargeDepth:=6) only[qF,ae,ah,aa,aj,ab,an,Nat.reduceLT,Nat.reduceEqDiff,ji,h1,h2]
  rw[Fb h1 h2]
  have bo:=Lr op (by omega) (by omega)
  have ow:=Uv op n (by omega) (by omega) Hy
  have base: ∀b:Bool,(true&&b)=b:=fun b=>by simp
  cases ho:bm op n with
  |false=>
   rw[ho]at ow
   by_cases a1:(n:Int)<Hj op
   ·simp(maxDischargeDepth:=6) only[qF,ae,ah,aa,aj,ab,an,Nat.reduceLT,Nat.reduceEqDiff,ji,h1,h2,ha.lenI,bo,gM,a1]
   ·have a2:DB op<(n:Int):=by
     by_cases a2:DB op<(n:Int)
     ·exact a2
     ·exact absurd (ow.2 ⟨a1,a2⟩) (by simp)
    simp(maxDischargeDepth:=6) only[qF,ae,ah,aa,aj,ab,an,Nat.reduceLT,Nat.reduceEqDiff,ji,h1,h2,ha.lenI,bo,gM,a1,a2]
  |true=>
   obtain⟨a1,a2⟩:=ow.1 ho
   rw[base]
   generalize Hj op=lo,DB op=hi at bo a1 a2
   clear ow ho
   by_cases e1:op=1
   ·subst e1
    have hm:iA 1=1099511627776:=rfl
    rw[hm,if_neg (by decide)]
    by_cases n1:num<0
    ·rw[decide_eq_false (by omega)];simp(maxDischargeDepth:=6) only[qF,ae,ah,aa,aj,ab,an,Nat.reduceLT,Nat.reduceEqDiff,Int.reduceLT,Int.reduceEq,ji,ha.lenI,bo,gM,a1,a2,n1]
    by_cases n2:(1099511627776:Int)<num
    ·rw[decide_eq_false (fun h=>absurd h.2 (Int.not_le.2 n2))];simp(maxDischargeDepth:=6) only[qF,ae,ah,aa,aj,ab,an,Nat.reduceLT,Nat.reduceEqDiff,Int.reduceLT,Int.reduceEq,ji,ha.lenI,bo,gM,a1,a2,n1,n2]
    rw[decide_eq_true (p:=0≤num∧num≤1099511627776) ⟨Int.not_lt.1 n1,Int.not_lt.1 n2⟩,base]
    by_cases e:name= []
    ·rw[decide_eq_true e,base]
     cases hw:gT x.args <;> simp only[hw]at hL <;> simp(maxDischargeDepth:=6) only[qF,ae,ah,aa,aj,ab,an,Nat.reduceLT,Nat.reduceEqDiff,Int.reduceLT,Int.reduceEq,ji,ha.lenI,bo,gM,a1,a2,n1,n2,e,hL]
    ·rw[decide_eq_false e];simp(maxDischargeDepth:=6) only[qF,ae,ah,aa,aj,ab,an,Nat.reduceLT,Nat.reduceEqDiff,Int.reduceLT,Int.reduceEq,ji,ha.lenI,bo,gM,a1,a2,n1,n2,e]
   by_cases e2:op=2
   ·subst e2
    have hm:iA 2=1099511627776:=rfl
    rw[hm,if_neg (by decide)]
    by_cases n1:num<0
    ·rw[decide_eq_false (by omega)];simp(maxDischargeDepth:=6) only[qF,ae,ah,aa,aj,ab,an,Nat.reduceLT,Nat.reduceEqDiff,Int.reduceLT,Int.reduceEq,ji,ha.lenI,bo,gM,a1,a2,n1]
    by_cases n2:(1099511627776:Int)<num
    ·rw[decide_eq_false (fun h=>absurd h.2 (Int.not_le.2 n2))];simp(maxDischargeDepth:=6) only[qF,ae,ah,aa,aj,ab,an,Nat.reduceLT,Nat.reduceEqDiff,Int.reduceLT,Int.reduceEq,ji,ha.lenI,bo,gM,a1,a2,n1,n2]
    rw[decide_eq_true (p:=0≤num∧num≤1099511627776) ⟨Int.not_lt.1 n1,Int.not_lt.1 n2⟩,base]
    by_cases e:name= []
    ·rw[decide_eq_true e,base]
     cases hw:gT x.args <;> simp only[hw]at hL <;> simp(maxDischargeDepth:=6) only[qF,ae,ah,aa,aj,ab,an,Nat.reduceLT,Nat.reduceEqDiff,Int.reduceLT,Int.reduceEq,ji,ha.lenI,bo,gM,a1,a2,n1,n2,e,hL]
    ·rw[decide_eq_false e];simp(maxDischargeDepth:=6) only[qF,ae,ah,aa,aj,ab,an,Nat.reduceLT,Nat.reduceEqDiff,Int.reduceLT,Int.reduceEq,ji,ha.lenI,bo,gM,a1,a2,n1,n2,e]
   by_cases e3:op=3
   ·subst e3
    have hm:iA 3=1439:=rfl
    rw[hm,if_neg (by decide)]
    by_cases n1:num<0
    ·rw[decide_eq_false (by omega)];simp(maxDischargeDepth:=6) only[qF,ae,ah,aa,aj,ab,an,Nat.reduceLT,Nat.reduceEqDiff,Int.reduceLT,Int.reduceEq,ji,ha.lenI,bo,gM,a1,a2,n1]
    by_cases n2:(1439:Int)<num
    ·rw[decide_eq_false (fun h=>absurd h.2 (Int.not_le.2 n2))];simp(maxDischargeDepth:=6) only[qF,ae,ah,aa,aj,ab,an,Nat.reduceLT,Nat.reduceEqDiff,Int.reduceLT,Int.reduceEq,ji,ha.lenI,bo,gM,a1,a2,n1,n2]
    rw[decide_eq_true (p:=0≤num∧num≤1439) ⟨Int.not_lt.1 n1,Int.not_lt.1 n2⟩,base]
    by_cases e:name= []
    ·rw[decide_eq_true e,base]
     cases hw:gT x.args <;> simp only[hw]at hL <;> simp(maxDischargeDepth:=6) only[qF,ae,ah,aa,aj,ab,an,Nat.reduceLT,Nat.reduceEqDiff,Int.reduceLT,Int.reduceEq,ji,ha.lenI,bo,gM,a1,a2,n1,n2,e,hL]
    ·rw[decide_eq_false e];simp(maxDischargeDepth:=6) only[qF,ae,ah,aa,aj,ab,an,Nat.reduceLT,Nat.reduceEqDiff,Int.reduceLT,Int.reduceEq,ji,ha.lenI,bo,gM,a1,a2,n1,n2,e]
   have hm:iA op=0:=by unfold iA;rw[if_neg (by omega),if_neg e3]
   rw[hm]
   by_cases n1:num<0
   ·rw[decide_eq_false (by omega)];simp(maxDischargeDepth:=6) only[qF,ae,ah,aa,aj,ab,an,Nat.reduceLT,Nat.reduceEqDiff,ji,ha.lenI,bo,gM,a1,a2,h1,h2,e1,e2,e3,n1]
   by_cases n2:(0:Int)<num
   ·rw[decide_eq_false (by omega)];simp(maxDischargeDepth:=6) only[qF,ae,ah,aa,aj,ab,an,Nat.reduceLT,Nat.reduceEqDiff,ji,ha.lenI,bo,gM,a1,a2,h1,h2,e1,e2,e3,n1,n2]
   rw[decide_eq_true (p:=0≤num∧num≤0) (by omega),base]
   by_cases e6:op=6
   ·subst e6
    rw[if_pos rfl]
    cases hb:iY name with
    |true=>
     rw[hb]at ga
     cases hw:gT x.args <;> simp only[hw]at hL <;> simp(maxDischargeDepth:=6) only[qF,ae,ah,aa,aj,ab,an,Nat.reduceLT,Nat.reduceEqDiff,Int.reduceLT,Int.reduceEq,ji,ha.lenI,bo,gM,a1,a2,n1,n2,ga,Qs,hL]
    |false=>
     rw[hb]at ga
     simp(maxDischargeDepth:=6) only[qF,ae,ah,aa,aj,ab,an,Nat.reduceLT,Nat.reduceEqDiff,Int.reduceLT,Int.reduceEq,ji,ha.lenI,bo,gM,a1,a2,n1,n2,ga,Qs]
   ·rw[if_neg e6]
    by_cases e:name= []
    ·rw[decide_eq_true e,base]
     cases hw:gT x.args <;> simp only[hw]at hL <;> simp(maxDischargeDepth:=6) only[qF,ae,ah,aa,aj,ab,an,Nat.reduceLT,Nat.reduceEqDiff,ji,ha.lenI,bo,gM,a1,a2,h1,h2,e1,e2,e3,e6,n1,n2,e,hL]
    ·rw[decide_eq_false e];simp(maxDischargeDepth:=6) only[qF,ae,ah,aa,aj,ab,an,Nat.reduceLT,Nat.reduceEqDiff,ji,ha.lenI,bo,gM,a1,a2,h1,h2,e1,e2,e3,e6,n1,n2,e]
theorem oo{x:Ex}(hv:aW x=0):x.nodes≤200:=by
 unfold aW at hv
 by_cases h:vD x
 ·rw[if_pos h]at hv;cases hv
 ·unfold vD at h;omega
theorem Hm(x:Ex)(cs:List T)(hx:bE x cs)(hn:0≤x.nodes)(hs:x.sm): ∃s,ai pE 55 [.agg cs] []=some (.i .i64 (aW x),s):=by
 obtain⟨n',hf,_⟩:=Pm x 1 0 cs hx (by omega) (by omega)
 have hw0:=fun h=>Zm x cs hx h hs
 have ow:cW 0 1 x↔ ¬vD x:=by unfold cW vD;omega
 obtain⟨a,cc,rfl,ha,mH⟩:=hx.cells
 rw[aG VL (by simp[US])]
 unfold vJ at hf
 have h00:((0:Nat):Int)=0:=rfl
 have mC:((1:Nat):Int)=1:=rfl
 rw[h00,mC]at hf
 unfold aW
 by_cases hb:vD x
 ·have fh: ¬cW 0 1 x:=fun h=>ow.1 h hb
  rw[decide_eq_false fh]at hf
  simp(maxDischargeDepth:=6) only[qF,ae,ah,aa,aj,ab,an,splice,Nat.reduceAdd,Nat.reduceLT,Nat.reduceEqDiff,yM,fW,US,hf,DR,ha.kept1,hb]
  exact⟨_,rfl⟩
 ·have hw:=hw0 (by unfold vD at hb;omega)
  rw[decide_eq_true (ow.2 hb)]at hf
  cases gK:x.wf <;> rw[gK]at hw <;> simp(maxDischargeDepth:=6) only[qF,ae,ah,aa,aj,ab,an,splice,Nat.reduceAdd,Nat.reduceLT,Nat.reduceEqDiff,yM,fW,US,hf,DR,hw,Ip,ha.kept1,ha.froz1,hb] <;> exact⟨_,rfl⟩
theorem kh{z:Nat}{fr:Fr}{lh:aQ aB}{sh:List aB}(x:Ex)(cs:List T)(hx:bE x cs)(hn:0≤x.nodes)(hs:x.sm):ar pE (ai pE) z ⟨fr,lh,sh⟩ 55 [.agg cs]=some (.i .i64 (aW x),⟨fr,lh,sh⟩):=by
 obtain⟨s,h⟩:=Hm x cs hx hn hs
 obtain⟨a,cc,rfl,ha,mH⟩:=hx.cells
 rw[abZ (by simp[ml,m4,oN,ha.froz1]),h];rfl
theorem iW(x:Ex)(cs:List T)(hx:bE x cs)(hs:x.sm):ai pE 59 [.agg cs] []=some (.i .i64 (aW x),[]):=by
 have hz:=Pp x cs hx
 have qA:=Uu x
 have jP:=Lp x (level:=1) (by omega)
 have hw:=Zn x cs hx
 obtain⟨a,cc,rfl,ha,mH⟩:=hx.cells
 rw[aG VP (by simp[R1])]
 unfold aW
 generalize x.sz 1=p at*
 by_cases c1:(200:Int)<(p.1:Int)
 ·have hb:vD x:=qA.1 (by omega)
  simp(maxDischargeDepth:=6) only[qF,ae,ah,aa,aj,ab,an,Nat.reduceAdd,Nat.reduceLT,Nat.reduceEqDiff,R1,hz,Iv,ha.froz1,hb,c1]
 ·by_cases c2:(16:Int)<(p.2:Int)
  ·have hb:vD x:=qA.1 (by omega)
   simp(maxDischargeDepth:=6) only[qF,ae,ah,aa,aj,ab,an,Nat.reduceAdd,Nat.reduceLT,Nat.reduceEqDiff,R1,hz,Iv,ha.froz1,hb,c1,c2]
  ·have hb: ¬vD x:=fun h=>by have:=qA.2 h;omega
   have Rh:=hw (by unfold vD at hb;omega) hs
   cases gK:x.wf <;> rw[gK]at Rh <;> simp(maxDischargeDepth:=6) only[qF,ae,ah,aa,aj,ab,an,Nat.reduceAdd,Nat.reduceLT,Nat.reduceEqDiff,R1,hz,Iv,ha.froz1,hb,c1,c2,Rh,Iw]
end Go.Proofs.YtfenhjpkomldcaaGreat
namespace Go.Proofs.YtfenhjpkomldcaaGreat
open Go Go.Ev
theorem kI(l:List Int):(ints l).length=l.length:=by simp[ints]
theorem xk(l:List Int)(k:Nat)(hk:k<l.length):(ints l).drop k=T.i .i64 l[k]::(ints l).drop (k+1):=by
 rw[List.drop_eq_getElem_cons (by rw[kI];exact hk)];simp[ints]
theorem iU{a:T}{ts:List Int}(ha:aR a ts.length (ints ts)){k:Nat}(hk:k<ts.length)(kk:IntKind):uW a (.i kk (k:Int)) 1=some (.vp (T.i .i64 ts[k]::(ints ts).drop (k+1))):=by
 rw[ha.ia (sz:=1) (by rw[kI];omega) hk,Nat.mul_one,xk ts k hk]
theorem xO{ts:List Int}{k:Nat}{t:Int}(hk:k<ts.length):cY (ts.drop k) t=(decide (ts[k]=t)&&cY (ts.drop (k+1)) t):=by
 unfold cY;rw[List.drop_eq_getElem_cons hk,List.all_cons]
theorem Zo(ts:List Int)(t:Int)(a:T)(ha:aR a ts.length (ints ts))(hlen:ts.length≤eG)(o:Out)(ho:o=if cY ts t then .ext 0 else .ret)(fr:Fr)(lh:aQ aB)(sh:List aB)
  (h1:ak fr 1= .i .i64 t) (h7:ak fr 7=a) (h8:ak fr 8= .i .i64 (ts.length:Int)) (h9:ak fr 9= .i .i64 0):
  DC pE 17 (.loop hU) ⟨fr,lh,sh⟩=some (o,⟨cz pE 17 hU fr lh sh,bK pE 17 hU fr lh sh,cw pE 17 hU fr lh sh⟩)∧
  ((cY ts t=false→ak (cz pE 17 hU fr lh sh) 4= .b false)∧bK pE 17 hU fr lh sh=lh∧cw pE 17 hU fr lh sh=sh):=by
 refine aD (P:=fun fr bp br=>(cY ts t=false→ak fr 4= .b false)∧bp=lh∧br=sh) (aI (fun k st=> ∃(fr:Fr),st=⟨fr,lh,sh⟩∧ak fr 1= .i .i64 t∧ak fr 7=a∧ak fr 8= .i .i64 (ts.length:Int)∧ak fr 9= .i .i64 (k:Int)∧cY ts t=cY (ts.drop k) t) _ ts.length ?_ ?_ 0 _ (Nat.zero_le _) ⟨fr,rfl,h1,h7,h8,h9,rfl⟩)
 ·rintro k _ hk ⟨fr,rfl,h1,h7,h8,h9,bl⟩
  have bt:(k:Int)<ts.length:=by omega
  have hw:=aJ (k:=k) (by omega)
  rw[xO hk]at bl
  by_cases hf:ts[k]=t
  ·left
   rw[decide_eq_true hf,Bool.true_and]at bl
   simp(maxDischargeDepth:=6) only[ae,ah,aa,aj,ab,Nat.reduceLT,Nat.reduceEqDiff,hU,h1,h7,h8,h9,bt,iU ha hk,hw,hf]
   refine⟨_,rfl,_,rfl, ?_, ?_, ?_, ?_,bl⟩ <;> simp(maxDischargeDepth:=6) only[aa,ab,Nat.reduceEqDiff,h1,h7,h8]
  ·right
   rw[decide_eq_false hf,Bool.false_and]at bl
   simp(maxDischargeDepth:=6) only[ae,ah,aa,aj,ab,an,Nat.reduceLT,Nat.reduceEqDiff,hU,h1,h7,h8,h9,bt,iU ha hk,hf]
   refine⟨_,_,(by simp:Out.ret≠ .nrm),rfl,by rw[ho,bl];rfl,fun _=>by simp(maxDischargeDepth:=6) only[aa],rfl,rfl⟩
 ·rintro _ ⟨fr,rfl,h1,h7,h8,h9,bl⟩
  rw[List.drop_length]at bl
  have bl:cY ts t=true:=bl
  simp(maxDischargeDepth:=6) only[ae,ah,aa,ab,an,Nat.reduceLT,hU,h8,h9,Int.lt_irrefl]
  exact⟨_,_,(by simp:Out.ext 0≠ .nrm),rfl,by rw[ho,bl];rfl,fun hc=>(by rw[bl]at hc;cases hc),rfl,rfl⟩
theorem Fc(ts:List Int)(t:Int)(a:T)(ha:aR a ts.length (ints ts))(hlen:ts.length≤eG):ai pE 247 [a,.i .i64 t] []=some (.b (cY ts t),[]):=by
 have hL:=fun fr lh sh=>Zo ts t a ha hlen _ rfl fr lh sh
 rw[aG Q0 (by simp[Ii])]
 cases h:cY ts t <;> simp only[h]at hL <;> simp(maxDischargeDepth:=6) only[qF,ae,ah,aa,aj,ab,reduceCtorEq,Nat.reduceLT,Nat.reduceEqDiff,Ii,ha.lenI,hL]
theorem Zp(ts:List Int)(t:Int)(a:T)(ha:aR a ts.length (ints ts))(hlen:ts.length≤eG)(o:Out)(ho:o=if cY ts t then .ext 0 else .ret)(fr:Fr)(lh:aQ aB)(sh:List aB)
  (h0:ak fr 0=a) (h1:ak fr 1= .i .i64 t) (h5:ak fr 5= .i .i64 0):
  DC pE 18 (.loop g5) ⟨fr,lh,sh⟩=some (o,⟨cz pE 18 g5 fr lh sh,bK pE 18 g5 fr lh sh,cw pE 18 g5 fr lh sh⟩)∧
  ((cY ts t=false→ak (cz pE 18 g5 fr lh sh) 4= .b false)∧bK pE 18 g5 fr lh sh=lh∧cw pE 18 g5 fr lh sh=sh):=by
 refine aD (P:=fun fr bp br=>(cY ts t=false→ak fr 4= .b false)∧bp=lh∧br=sh) (aI (fun k st=> ∃(fr:Fr),st=⟨fr,lh,sh⟩∧ak fr 0=a∧ak fr 1= .i .i64 t∧ak fr 5= .i .i64 (k:Int)∧cY ts t=cY (ts.drop k) t) _ ts.length ?_ ?_ 0 _ (Nat.zero_le _) ⟨fr,rfl,h0,h1,h5,rfl⟩)
 ·rintro k _ hk ⟨fr,rfl,h0,h1,h5,bl⟩
  have bt:(k:Int)<ts.length:=by omega
  have hw:=aJ (k:=k) (by omega)
  rw[xO hk]at bl
  by_cases hf:ts[k]=t
  ·left
   rw[decide_eq_true hf,Bool.true_and]at bl
   simp(maxDischargeDepth:=6) only[ae,ah,aa,aj,ab,reduceCtorEq,Nat.reduceLT,Nat.reduceEqDiff,g5,h0,h1,h5,ha.lenI,bt,iU ha hk,hw,hf]
   refine⟨_,rfl,_,rfl, ?_, ?_, ?_,bl⟩ <;> simp(maxDischargeDepth:=6) only[aa,ab,reduceCtorEq,Nat.reduceEqDiff,h0,h1]
  ·right
   rw[decide_eq_false hf,Bool.false_and]at bl
   simp(maxDischargeDepth:=6) only[ae,ah,aa,aj,ab,an,reduceCtorEq,Nat.reduceLT,Nat.reduceEqDiff,g5,h0,h1,h5,ha.lenI,bt,iU ha hk,hf]
   refine⟨_,_,(by simp:Out.ret≠ .nrm),rfl,by rw[ho,bl];rfl,fun _=>by simp(maxDischargeDepth:=6) only[aa],rfl,rfl⟩
 ·rintro _ ⟨fr,rfl,h0,h1,h5,bl⟩
  rw[List.drop_length]at bl
  have bl:cY ts t=true:=bl
  simp(maxDischargeDepth:=6) only[ae,ah,aa,ab,an,reduceCtorEq,Nat.reduceLT,Nat.reduceEqDiff,g5,h0,h5,ha.lenI,Int.lt_irrefl]
  exact⟨_,_,(by simp:Out.ext 0≠ .nrm),rfl,by rw[ho,bl];rfl,fun hc=>(by rw[bl]at hc;cases hc),rfl,rfl⟩
theorem tT(ts:List Int)(t:Int)(a:T)(ha:aR a ts.length (ints ts))(hlen:ts.length≤eG):ai pE 219 [a,.i .i64 t] []=some (.b (cY ts t),[]):=by
 have hL:=fun fr lh sh=>Zp ts t a ha hlen _ rfl fr lh sh
 rw[aG QN (by simp[Ie])]
 cases h:cY ts t <;> simp only[h]at hL <;> simp(maxDischargeDepth:=6) only[qF,ae,ah,aa,aj,ab,reduceCtorEq,Nat.reduceLT,Nat.reduceEqDiff,Ie,hL]
theorem xP(k:Int):ai pE 246 [.i .i64 k] []=some (.b (decide (k=1∨k=2)),[]):=by
 rw[aG IQ (by simp[FH])]
 by_cases h1:k=1
 ·simp(maxDischargeDepth:=6) only[qF,ae,ah,aa,aj,ab,reduceCtorEq,Nat.reduceLT,Nat.reduceEqDiff,Int.reduceEq,FH,h1,true_or]
 ·by_cases h2:k=2 <;> simp(maxDischargeDepth:=6) only[qF,ae,ah,aa,aj,ab,an,reduceCtorEq,Nat.reduceLT,Nat.reduceEqDiff,Int.reduceEq,FH,h1,h2,or_true,or_self]
theorem vN(op a b:Int):ai pE 248 [.i .i64 op,.i .i64 a,.i .i64 b] []=some (.i .i64 (fm op a b),[]):=by
 rw[aG IS (by simp[rE])]
 unfold fm
 by_cases a1:a=1
 ·subst a1
  by_cases b1:b=1
  ·simp(maxDischargeDepth:=6) only[qF,ae,ah,aa,aj,ab,an,Nat.reduceAdd,reduceCtorEq,Nat.reduceLT,Nat.reduceEqDiff,Int.reduceEq,rE,b1]
  ·by_cases o1:op=10
   ·by_cases b2:b=2 <;> simp(maxDischargeDepth:=6) only[qF,ae,ah,aa,aj,ab,an,Nat.reduceAdd,reduceCtorEq,Nat.reduceLT,Nat.reduceEqDiff,Int.reduceEq,rE,b1,b2,o1]
   ·by_cases o2:op=11 <;> simp(maxDischargeDepth:=6) only[qF,ae,ah,aa,aj,ab,an,Nat.reduceAdd,reduceCtorEq,Nat.reduceLT,Nat.reduceEqDiff,Int.reduceEq,rE,b1,o1,o2]
 ·by_cases a2:a=2
  ·subst a2
   by_cases b1:b=1
   ·simp(maxDischargeDepth:=6) only[qF,ae,ah,aa,aj,ab,an,Nat.reduceAdd,reduceCtorEq,Nat.reduceLT,Nat.reduceEqDiff,Int.reduceEq,rE,b1]
   ·by_cases o1:op=10
    ·simp(maxDischargeDepth:=6) only[qF,ae,ah,aa,aj,ab,an,Nat.reduceAdd,reduceCtorEq,Nat.reduceLT,Nat.reduceEqDiff,Int.reduceEq,rE,b1,o1]
    ·by_cases o2:op=11
     ·by_cases b2:b=2 <;> simp(maxDischargeDepth:=6) only[qF,ae,ah,aa,aj,ab,an,Nat.reduceAdd,reduceCtorEq,Nat.reduceLT,Nat.reduceEqDiff,Int.reduceEq,rE,b1,b2,o2]
     ·simp(maxDischargeDepth:=6) only[qF,ae,ah,aa,aj,ab,an,Nat.reduceAdd,reduceCtorEq,Nat.reduceLT,Nat.reduceEqDiff,Int.reduceEq,rE,b1,o1,o2]
  ·by_cases o1:op=10
   ·simp(maxDischargeDepth:=6) only[qF,ae,ah,aa,aj,ab,an,Nat.reduceAdd,reduceCtorEq,Nat.reduceLT,Nat.reduceEqDiff,Int.reduceEq,rE,a1,a2,o1]
   ·by_cases o2:op=11 <;> simp(maxDischargeDepth:=6) only[qF,ae,ah,aa,aj,ab,an,Nat.reduceAdd,reduceCtorEq,Nat.reduceLT,Nat.reduceEqDiff,Int.reduceEq,rE,a1,a2,o1,o2]
end Go.Proofs.YtfenhjpkomldcaaGreat
