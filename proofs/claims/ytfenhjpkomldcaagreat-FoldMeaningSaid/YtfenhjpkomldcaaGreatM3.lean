/- The form of an expression: both checks. The form of an expression: the reference's check, and both results. The type of a node by the types of its arguments: the program's and the reference's. Conditions: the theorems' own. -/
import Derived.Test.YtfenhjpkomldcaaGreatM2
import Derived.KernelRfl
set_option maxRecDepth 100000
set_option linter.unusedSimpArgs false
set_option linter.unusedVariables false
set_option maxHeartbeats 16000000
namespace Go.Proofs.YtfenhjpkomldcaaGreat
open Go Go.Ev
theorem idxN_dot: ∀s:List Nat,idxN s 46=dotV s
 | []=>rfl
 |c::cs=>by
  rw[idxN,idxN_dot cs]
  unfold dotV
  rw[dotI]
  by_cases h:c=46
  ·simp[h]
  ·rw[if_neg h,if_neg h]
   cases dotI cs with
   |none=>rfl
   |some i=>simp only[Option.map_some];rw[if_neg (by omega)];omega
theorem dxIdx{z:Nat}{fr:Fr}{lh:Tri Ent}{sh:List Ent}{s:List Nat}:doCall pE (DCall pE) z ⟨fr,lh,sh⟩ 267 [.s s,.s [46]]=some (.i .i64 (dotV s),⟨fr,lh,sh⟩):=by
 rw[doCall_X (g:=idxE) rfl rfl,fzL_froz (by rfl),←idxN_dot]
 rfl
theorem dotV_some{s:List Nat}{i:Nat}(h:dotI s=some i):dotV s=(i:Int):=by unfold dotV;rw[h]
theorem dotV_none{s:List Nat}(h:dotI s=none):dotV s= -1:=by unfold dotV;rw[h]
theorem scut0{s:List Nat}(hd:dotI s=none):DCall pE 217 [.s s,.s [46]] []=some (.tup [.s s,.s [],.b false],[]):=by
 have h1:DCall pE 250 [.s s,.s [46]] []=some (.tup [.s s,.s [],.b false],[]):=by
  rw[p_fun fn250 (by simp[c250])]
  simp(maxDischargeDepth:=6) only[qF,qGO0,qGO1,qGO2,qGO3,qGO4,qGO5,Int.reduceNeg,slSV,optVal,backD,calmOp,Nat.reduceAdd,reduceCtorEq,Nat.reduceLT,Nat.reduceEqDiff,Int.reduceToNat,Int.reduceLE,c250,dxIdx,dotV_none hd]
 rw[p_fun fn217 (by simp[c217])]
 simp(maxDischargeDepth:=6) only[qF,qGO0,qGO1,qGO2,qGO3,qGO4,reduceCtorEq,Nat.reduceLT,Nat.reduceEqDiff,c217,h1,dc250]
theorem scut1{s:List Nat}{i:Nat}(hs:s.length≤LimS)(hd:dotI s=some i):DCall pE 217 [.s s,.s [46]] []=some (.tup [.s (s.take i),.s (s.drop (i+1)),.b true],[]):=by
 have hi:=dotI_lt hd
 have h0:(0:Int)≤i:=by omega
 have hw:=wr_succT (k:=i) (by omega)
 have hle:i≤s.length:=by omega
 have hle':i+1≤s.length:=by omega
 generalize i+1=j at hw hle' ⊢
 have hs1:=fun fr x (h:rd fr x= .i .i64 (j:Int))=>slSV_from h hle'
 have hs2:=fun fr x (h:rd fr x= .i .i64 (i:Int))=>slSV_to h hle
 have h1:DCall pE 250 [.s s,.s [46]] []=some (.tup [.s (s.take i),.s (s.drop j),.b true],[]):=by
  rw[p_fun fn250 (by simp[c250])]
  simp(maxDischargeDepth:=6) only[qF,qGO0,qGO1,qGO2,qGO3,qGO4,backD,calmOp,Nat.reduceAdd,reduceCtorEq,Nat.reduceLT,Nat.reduceEqDiff,c250,dxIdx,dotV_some hd,h0,hw,hs1,hs2]
 rw[p_fun fn217 (by simp[c217])]
 simp(maxDischargeDepth:=6) only[qF,qGO0,qGO1,qGO2,qGO3,qGO4,reduceCtorEq,Nat.reduceLT,Nat.reduceEqDiff,c217,h1,dc250]
theorem pattrNm_ev(s:List Nat)(hs:s.length≤LimS):DCall pE 156 [.s s] []=some (.b (attrNm s),[]):=by
 rw[p_fun fn156 (by simp[c156])]
 cases hd:dotI s with
 |none=>
  rw[attrNm_none hd]
  simp(maxDischargeDepth:=6) only[qF,qGO0,qGO1,qGO2,qGO3,qGO4,reduceCtorEq,Nat.reduceLT,Nat.reduceEqDiff,c156,scut0 hd,dc217,pdname_ev,dc218]
 |some i=>
  have hc:=scut1 hs hd
  rw[attrNm_some hd]
  generalize i+1=j at hc ⊢
  cases hn:nameS (s.take i) <;> simp(maxDischargeDepth:=6) only[qF,qGO0,qGO1,qGO2,qGO3,qGO4,reduceCtorEq,Nat.reduceLT,Nat.reduceEqDiff,c156,hc,dc217,pname_ev,dc174,hn]
mutual
def Ex.sm:Ex→Prop
 | .mk _ _ name args=>name.length≤LimS∧smL args
def smL:List Ex→Prop
 | []=>True
 |x::xs=>x.sm∧smL xs
end
theorem Ex.sm_eq(x:Ex):x.sm↔(x.name.length≤LimS∧smL x.args):=by obtain⟨_,_,_,_⟩:=x;rw[Ex.sm];rfl
theorem smL_mem: ∀{xs:List Ex},smL xs↔ ∀x∈xs,x.sm
 | []=>by simp[smL]
 |x::xs=>by rw[smL,smL_mem (xs:=xs)];simp
def wfP(y:Ex):Prop:= ∀cs:List T,IsEx y cs→y.nodes≤100000→y.sm→DCall pE 102 [.agg cs] []=some (.b y.wf,[])
theorem wfL_drop{xs:List Ex}{k:Nat}(hk:k<xs.length):wfL (xs.drop k)=(xs[k].wf&&wfL (xs.drop (k+1))):=by rw[drop_args hk,wfL]
theorem wf1(xs:List Ex)(ih: ∀y∈xs,wfP y)(a:T)(cc:List T)(ha:IsSl a xs.length cc)(hx:IsExs xs cc)(hlen:nodesL xs≤100000)(hsm:smL xs)(o:Out)(ho:o=if wfL xs then .ext 1 else .ret)(fr:Fr)(lh:Tri Ent)(sh:List Ent)
  (h59:getF fr 59=a) (h60:getF fr 60= .i .i64 (xs.length:Int)) (h61:getF fr 61= .i .i64 0):
  DC pE 69 (.loop c102_L1) ⟨fr,lh,sh⟩=some (o,⟨frL pE 69 c102_L1 fr lh sh,lhL pE 69 c102_L1 fr lh sh,shL pE 69 c102_L1 fr lh sh⟩)∧
  ((wfL xs=false→getF (frL pE 69 c102_L1 fr lh sh) 2= .b false)∧shL pE 69 c102_L1 fr lh sh=sh):=by
 refine loop_rule (P:=fun fr lh' sh'=>(wfL xs=false→getF fr 2= .b false)∧sh'=sh) (loop_inv (fun k st=> ∃(fr:Fr) (lh:Tri Ent),st=⟨fr,lh,sh⟩∧getF fr 59=a∧getF fr 60= .i .i64 (xs.length:Int)∧getF fr 61= .i .i64 (k:Int)∧wfL xs=wfL (xs.drop k)) _ xs.length ?_ ?_ 0 _ (Nat.zero_le _) ⟨fr,lh,rfl,h59,h60,h61,rfl⟩)
 ·rintro k _ hk ⟨fr,lh,rfl,h59,h60,h61,hall⟩
  have hk':(k:Int)<xs.length:=by omega
  have hlen':=nodesL_len xs
  have hyk:=nodesL_mem (List.getElem_mem hk)
  have hw:=wr_succL (k:=k) (lim_of (by omega))
  obtain⟨b,cb,r,hia,hb1,hb2,hb⟩:=arg_at ha hx k hk
  have hcall:=ih xs[k] (List.getElem_mem hk) _ hb (by omega) (smL_mem.1 hsm _ (List.getElem_mem hk))
  rw[wfL_drop hk]at hall
  cases hf:xs[k].wf with
  |true=>
   left
   rw[hf]at hcall hall
   simp(maxDischargeDepth:=6) only[qF,qGO0,qGO1,qGO2,qGO3,qGO4,qGO5,splice,Nat.reduceAdd,Nat.reduceLT,Nat.reduceLeDiff,Nat.reduceEqDiff,c102_L1,h59,h60,h61,hk',hia,hw,hcall,dc102,hb1.froz1]
   refine⟨_,rfl,_,_,rfl, ?_, ?_, ?_,hall⟩ <;> simp(maxDischargeDepth:=6) only[qGO2,qGO4,Nat.reduceEqDiff,h59,h60]
  |false=>
   right
   rw[hf]at hcall hall
   simp(maxDischargeDepth:=6) only[qF,qGO0,qGO1,qGO2,qGO3,qGO4,qGO5,splice,Nat.reduceAdd,Nat.reduceLT,Nat.reduceLeDiff,Nat.reduceEqDiff,c102_L1,h59,h60,h61,hk',hia,hcall,dc102,hb1.froz1]
   refine⟨_,_,(by simp:Out.ret≠ .nrm),rfl,by rw[ho,hall];rfl,fun _=>by simp(maxDischargeDepth:=6) only[qGO2],rfl⟩
 ·rintro _ ⟨fr,lh,rfl,h59,h60,h61,hall⟩
  rw[List.drop_length,wfL]at hall
  simp(maxDischargeDepth:=6) only[qGO0,qGO1,qGO2,qGO4,qGO5,Nat.reduceLT,c102_L1,h60,h61,Int.lt_irrefl]
  exact⟨_,_,(by simp:Out.ext 1≠ .nrm),rfl,by rw[ho,hall];rfl,fun hc=>(by rw[hall]at hc;cases hc),rfl⟩
theorem node_lo{op num:Int}{name:List Nat}{n:Nat}(h:op<1):nodeOk op num name n=false:=by unfold nodeOk;rw[decide_eq_false (by omega)];rfl
theorem node_hi{op num:Int}{name:List Nat}{n:Nat}(h:22<op):nodeOk op num name n=false:=by unfold nodeOk;rw[decide_eq_false (p:=op≤22) (by omega)];simp
theorem node_in{op num:Int}{name:List Nat}{n:Nat}(h1: ¬op<1)(h2: ¬22<op):nodeOk op num name n=(arOk op n&&(decide (0≤num∧num≤mostN op)&&(if op=6 then attrNm name else decide (name= [])))):=by
 unfold nodeOk;rw[decide_eq_true (p:=1≤op) (by omega),decide_eq_true (p:=op≤22) (by omega)];rfl
theorem wf_ev(x:Ex):wfP x:=by
 induction x using Ex.ind with
 |h x ih=>
  intro cs hx hn hs
  obtain⟨a,cc,rfl,ha,hxs⟩:=hx.cells
  rw[p_fun fn102 (by simp[c102]),Ex.wf_eq]
  have hnd:=x.nodes_eq
  obtain⟨hs1,hs2⟩:=(Ex.sm_eq x).1 hs
  have hL:=fun fr lh sh=>wf1 x.args ih a cc ha hxs (by omega) hs2 _ rfl fr lh sh
  have hat:=pattrNm_ev x.name hs1
  generalize x.op=op,x.num=num,x.name=name,x.args.length=n at*
  by_cases h1:op<1
  ·rw[node_lo h1];simp(maxDischargeDepth:=6) only[qF,qGO0,qGO1,qGO2,qGO3,qGO4,qGO5,Nat.reduceLT,Nat.reduceEqDiff,c102,h1]
  by_cases h2:(22:Int)<op
  ·rw[node_hi h2];simp(maxDischargeDepth:=6) only[qF,qGO0,qGO1,qGO2,qGO3,qGO4,qGO5,Nat.reduceLT,Nat.reduceEqDiff,c102,h1,h2]
  rw[node_in h1 h2]
  have har:=argsFit_ev op n (by omega) (by omega)
  cases ho:arOk op n with
  |false=>
   rw[ho]at har
   simp(maxDischargeDepth:=6) only[qF,qGO0,qGO1,qGO2,qGO3,qGO4,qGO5,Nat.reduceLT,Nat.reduceEqDiff,c102,h1,h2,ha.lenI,har,dc155]
  |true=>
   rw[ho]at har
   have base: ∀b:Bool,(true&&b)=b:=fun b=>by simp
   rw[base]
   by_cases e1:op=1
   ·subst e1
    have hm:mostN 1=1099511627776:=rfl
    rw[hm,if_neg (by decide)]
    by_cases n1:num<0
    ·rw[decide_eq_false (by omega)];simp(maxDischargeDepth:=6) only[qF,qGO0,qGO1,qGO2,qGO3,qGO4,qGO5,Nat.reduceLT,Nat.reduceEqDiff,Int.reduceLT,Int.reduceEq,c102,ha.lenI,har,dc155,n1]
    by_cases n2:(1099511627776:Int)<num
    ·rw[decide_eq_false (fun h=>absurd h.2 (Int.not_le.2 n2))];simp(maxDischargeDepth:=6) only[qF,qGO0,qGO1,qGO2,qGO3,qGO4,qGO5,Nat.reduceLT,Nat.reduceEqDiff,Int.reduceLT,Int.reduceEq,c102,ha.lenI,har,dc155,n1,n2]
    rw[decide_eq_true (p:=0≤num∧num≤1099511627776) ⟨Int.not_lt.1 n1,Int.not_lt.1 n2⟩,base]
    by_cases e:name= []
    ·rw[decide_eq_true e,base]
     cases hw:wfL x.args <;> simp only[hw]at hL <;> simp(maxDischargeDepth:=6) only[qF,qGO0,qGO1,qGO2,qGO3,qGO4,qGO5,Nat.reduceLT,Nat.reduceEqDiff,Int.reduceLT,Int.reduceEq,c102,ha.lenI,har,dc155,n1,n2,e,hL]
    ·rw[decide_eq_false e];simp(maxDischargeDepth:=6) only[qF,qGO0,qGO1,qGO2,qGO3,qGO4,qGO5,Nat.reduceLT,Nat.reduceEqDiff,Int.reduceLT,Int.reduceEq,c102,ha.lenI,har,dc155,n1,n2,e]
   by_cases e2:op=2
   ·subst e2
    have hm:mostN 2=1099511627776:=rfl
    rw[hm,if_neg (by decide)]
    by_cases n1:num<0
    ·rw[decide_eq_false (by omega)];simp(maxDischargeDepth:=6) only[qF,qGO0,qGO1,qGO2,qGO3,qGO4,qGO5,Nat.reduceLT,Nat.reduceEqDiff,Int.reduceLT,Int.reduceEq,c102,ha.lenI,har,dc155,n1]
    by_cases n2:(1099511627776:Int)<num
    ·rw[decide_eq_false (fun h=>absurd h.2 (Int.not_le.2 n2))];simp(maxDischargeDepth:=6) only[qF,qGO0,qGO1,qGO2,qGO3,qGO4,qGO5,Nat.reduceLT,Nat.reduceEqDiff,Int.reduceLT,Int.reduceEq,c102,ha.lenI,har,dc155,n1,n2]
    rw[decide_eq_true (p:=0≤num∧num≤1099511627776) ⟨Int.not_lt.1 n1,Int.not_lt.1 n2⟩,base]
    by_cases e:name= []
    ·rw[decide_eq_true e,base]
     cases hw:wfL x.args <;> simp only[hw]at hL <;> simp(maxDischargeDepth:=6) only[qF,qGO0,qGO1,qGO2,qGO3,qGO4,qGO5,Nat.reduceLT,Nat.reduceEqDiff,Int.reduceLT,Int.reduceEq,c102,ha.lenI,har,dc155,n1,n2,e,hL]
    ·rw[decide_eq_false e];simp(maxDischargeDepth:=6) only[qF,qGO0,qGO1,qGO2,qGO3,qGO4,qGO5,Nat.reduceLT,Nat.reduceEqDiff,Int.reduceLT,Int.reduceEq,c102,ha.lenI,har,dc155,n1,n2,e]
   by_cases e3:op=3
   ·subst e3
    have hm:mostN 3=1439:=rfl
    rw[hm,if_neg (by decide)]
    by_cases n1:num<0
    ·rw[decide_eq_false (by omega)];simp(maxDischargeDepth:=6) only[qF,qGO0,qGO1,qGO2,qGO3,qGO4,qGO5,Nat.reduceLT,Nat.reduceEqDiff,Int.reduceLT,Int.reduceEq,c102,ha.lenI,har,dc155,n1]
    by_cases n2:(1439:Int)<num
    ·rw[decide_eq_false (fun h=>absurd h.2 (Int.not_le.2 n2))];simp(maxDischargeDepth:=6) only[qF,qGO0,qGO1,qGO2,qGO3,qGO4,qGO5,Nat.reduceLT,Nat.reduceEqDiff,Int.reduceLT,Int.reduceEq,c102,ha.lenI,har,dc155,n1,n2]
    rw[decide_eq_true (p:=0≤num∧num≤1439) ⟨Int.not_lt.1 n1,Int.not_lt.1 n2⟩,base]
    by_cases e:name= []
    ·rw[decide_eq_true e,base]
     cases hw:wfL x.args <;> simp only[hw]at hL <;> simp(maxDischargeDepth:=6) only[qF,qGO0,qGO1,qGO2,qGO3,qGO4,qGO5,Nat.reduceLT,Nat.reduceEqDiff,Int.reduceLT,Int.reduceEq,c102,ha.lenI,har,dc155,n1,n2,e,hL]
    ·rw[decide_eq_false e];simp(maxDischargeDepth:=6) only[qF,qGO0,qGO1,qGO2,qGO3,qGO4,qGO5,Nat.reduceLT,Nat.reduceEqDiff,Int.reduceLT,Int.reduceEq,c102,ha.lenI,har,dc155,n1,n2,e]
   have hm:mostN op=0:=by unfold mostN;rw[if_neg (by omega),if_neg e3]
   rw[hm]
   by_cases n1:num=0
   ·rw[decide_eq_true (p:=0≤num∧num≤0) (by omega),base]
    by_cases e6:op=6
    ·subst e6
     rw[if_pos rfl]
     cases hb:attrNm name with
     |true=>
      rw[hb]at hat
      cases hw:wfL x.args <;> simp only[hw]at hL <;> simp(maxDischargeDepth:=6) only[qF,qGO0,qGO1,qGO2,qGO3,qGO4,qGO5,Nat.reduceLT,Nat.reduceEqDiff,Int.reduceLT,Int.reduceEq,c102,ha.lenI,har,dc155,n1,hat,dc156,hL]
     |false=>
      rw[hb]at hat
      simp(maxDischargeDepth:=6) only[qF,qGO0,qGO1,qGO2,qGO3,qGO4,qGO5,Nat.reduceLT,Nat.reduceEqDiff,Int.reduceLT,Int.reduceEq,c102,ha.lenI,har,dc155,n1,hat,dc156]
    ·rw[if_neg e6]
     by_cases e:name= []
     ·rw[decide_eq_true e,base]
      cases hw:wfL x.args <;> simp only[hw]at hL <;> simp(maxDischargeDepth:=6) only[qF,qGO0,qGO1,qGO2,qGO3,qGO4,qGO5,Nat.reduceLT,Nat.reduceEqDiff,Int.reduceLT,c102,ha.lenI,har,dc155,h1,h2,e1,e2,e3,e6,n1,e,hL]
     ·rw[decide_eq_false e];simp(maxDischargeDepth:=6) only[qF,qGO0,qGO1,qGO2,qGO3,qGO4,qGO5,Nat.reduceLT,Nat.reduceEqDiff,Int.reduceLT,c102,ha.lenI,har,dc155,h1,h2,e1,e2,e3,e6,n1,e]
   ·rw[decide_eq_false (p:=0≤num∧num≤0) (by omega)]
    simp(maxDischargeDepth:=6) only[qF,qGO0,qGO1,qGO2,qGO3,qGO4,qGO5,Nat.reduceLT,Nat.reduceEqDiff,c102,ha.lenI,har,dc155,h1,h2,e1,e2,e3,n1]
end Go.Proofs.YtfenhjpkomldcaaGreat
namespace Go.Proofs.YtfenhjpkomldcaaGreat
open Go Go.Ev
theorem valid_sz{x:Ex}(hv:validE x=0):x.nodes≤200:=by
 unfold validE at hv
 by_cases h:big x
 ·rw[if_pos h]at hv;cases hv
 ·unfold big at h;omega
theorem pvalid_ev(x:Ex)(cs:List T)(hx:IsEx x cs)(hn:0≤x.nodes)(hs:x.sm): ∃s,DCall pE 55 [.agg cs] []=some (.i .i64 (validE x),s):=by
 obtain⟨n',hf,_⟩:=fits_ev x 1 0 cs hx (by omega) (by omega)
 have hw0:=fun h=>wf_ev x cs hx h hs
 have hiff:fitsOk 0 1 x↔ ¬big x:=by unfold fitsOk big;omega
 obtain⟨a,cc,rfl,ha,hxs⟩:=hx.cells
 rw[p_fun fn55 (by simp[c55])]
 unfold cntS at hf
 have h00:((0:Nat):Int)=0:=rfl
 have h11:((1:Nat):Int)=1:=rfl
 rw[h00,h11]at hf
 unfold validE
 by_cases hb:big x
 ·have hno: ¬fitsOk 0 1 x:=fun h=>hiff.1 h hb
  rw[decide_eq_false hno]at hf
  simp(maxDischargeDepth:=6) only[qF,qGO0,qGO1,qGO2,qGO3,qGO4,qGO5,splice,Nat.reduceAdd,Nat.reduceLT,Nat.reduceEqDiff,qSH0,qKP0,c55,hf,dc101,ha.kept1,hb]
  exact⟨_,rfl⟩
 ·have hw:=hw0 (by unfold big at hb;omega)
  rw[decide_eq_true (hiff.2 hb)]at hf
  cases hwf:x.wf <;> rw[hwf]at hw <;> simp(maxDischargeDepth:=6) only[qF,qGO0,qGO1,qGO2,qGO3,qGO4,qGO5,splice,Nat.reduceAdd,Nat.reduceLT,Nat.reduceEqDiff,qSH0,qKP0,c55,hf,dc101,hw,dc102,ha.kept1,ha.froz1,hb] <;> exact⟨_,rfl⟩
theorem pvalid_do{z:Nat}{fr:Fr}{lh:Tri Ent}{sh:List Ent}(x:Ex)(cs:List T)(hx:IsEx x cs)(hn:0≤x.nodes)(hs:x.sm):doCall pE (DCall pE) z ⟨fr,lh,sh⟩ 55 [.agg cs]=some (.i .i64 (validE x),⟨fr,lh,sh⟩):=by
 obtain⟨s,h⟩:=pvalid_ev x cs hx hn hs
 obtain⟨a,cc,rfl,ha,hxs⟩:=hx.cells
 rw[dc55 (by simp[froz_agg,froz1_i,froz1_s,ha.froz1]),h];rfl
end Go.Proofs.YtfenhjpkomldcaaGreat
namespace Go.Proofs.YtfenhjpkomldcaaGreat
open Go Go.Ev
theorem ints_len(l:List Int):(ints l).length=l.length:=by simp[ints]
theorem ints_drop(l:List Int)(k:Nat)(hk:k<l.length):(ints l).drop k=T.i .i64 l[k]::(ints l).drop (k+1):=by
 rw[List.drop_eq_getElem_cons (by rw[ints_len];exact hk)];simp[ints]
theorem int_at{a:T}{ts:List Int}(ha:IsSl a ts.length (ints ts)){k:Nat}(hk:k<ts.length)(kk:IntKind):iaV a (.i kk (k:Int)) 1=some (.vp (T.i .i64 ts[k]::(ints ts).drop (k+1))):=by
 rw[ha.ia (sz:=1) (by rw[ints_len];omega) hk,Nat.mul_one,ints_drop ts k hk]
theorem allK_drop{ts:List Int}{k:Nat}{t:Int}(hk:k<ts.length):allK (ts.drop k) t=(decide (ts[k]=t)&&allK (ts.drop (k+1)) t):=by
 unfold allK;rw[List.drop_eq_getElem_cons hk,List.all_cons]
theorem pall1(ts:List Int)(t:Int)(a:T)(ha:IsSl a ts.length (ints ts))(hlen:ts.length≤Lim)(o:Out)(ho:o=if allK ts t then .ext 0 else .ret)(fr:Fr)(lh:Tri Ent)(sh:List Ent)
  (h1:getF fr 1= .i .i64 t) (h7:getF fr 7=a) (h8:getF fr 8= .i .i64 (ts.length:Int)) (h9:getF fr 9= .i .i64 0):
  DC pE 17 (.loop c247_L1) ⟨fr,lh,sh⟩=some (o,⟨frL pE 17 c247_L1 fr lh sh,lhL pE 17 c247_L1 fr lh sh,shL pE 17 c247_L1 fr lh sh⟩)∧
  ((allK ts t=false→getF (frL pE 17 c247_L1 fr lh sh) 4= .b false)∧lhL pE 17 c247_L1 fr lh sh=lh∧shL pE 17 c247_L1 fr lh sh=sh):=by
 refine loop_rule (P:=fun fr lh' sh'=>(allK ts t=false→getF fr 4= .b false)∧lh'=lh∧sh'=sh) (loop_inv (fun k st=> ∃(fr:Fr),st=⟨fr,lh,sh⟩∧getF fr 1= .i .i64 t∧getF fr 7=a∧getF fr 8= .i .i64 (ts.length:Int)∧getF fr 9= .i .i64 (k:Int)∧allK ts t=allK (ts.drop k) t) _ ts.length ?_ ?_ 0 _ (Nat.zero_le _) ⟨fr,rfl,h1,h7,h8,h9,rfl⟩)
 ·rintro k _ hk ⟨fr,rfl,h1,h7,h8,h9,hall⟩
  have hk':(k:Int)<ts.length:=by omega
  have hw:=wr_succL (k:=k) (by omega)
  rw[allK_drop hk]at hall
  by_cases hf:ts[k]=t
  ·left
   rw[decide_eq_true hf,Bool.true_and]at hall
   simp(maxDischargeDepth:=6) only[qGO0,qGO1,qGO2,qGO3,qGO4,Nat.reduceLT,Nat.reduceEqDiff,c247_L1,h1,h7,h8,h9,hk',int_at ha hk,hw,hf]
   refine⟨_,rfl,_,rfl, ?_, ?_, ?_, ?_,hall⟩ <;> simp(maxDischargeDepth:=6) only[qGO2,qGO4,Nat.reduceEqDiff,h1,h7,h8]
  ·right
   rw[decide_eq_false hf,Bool.false_and]at hall
   simp(maxDischargeDepth:=6) only[qGO0,qGO1,qGO2,qGO3,qGO4,qGO5,Nat.reduceLT,Nat.reduceEqDiff,c247_L1,h1,h7,h8,h9,hk',int_at ha hk,hf]
   refine⟨_,_,(by simp:Out.ret≠ .nrm),rfl,by rw[ho,hall];rfl,fun _=>by simp(maxDischargeDepth:=6) only[qGO2],rfl,rfl⟩
 ·rintro _ ⟨fr,rfl,h1,h7,h8,h9,hall⟩
  rw[List.drop_length]at hall
  have hall:allK ts t=true:=hall
  simp(maxDischargeDepth:=6) only[qGO0,qGO1,qGO2,qGO4,qGO5,Nat.reduceLT,c247_L1,h8,h9,Int.lt_irrefl]
  exact⟨_,_,(by simp:Out.ext 0≠ .nrm),rfl,by rw[ho,hall];rfl,fun hc=>(by rw[hall]at hc;cases hc),rfl,rfl⟩
theorem pall_ev(ts:List Int)(t:Int)(a:T)(ha:IsSl a ts.length (ints ts))(hlen:ts.length≤Lim):DCall pE 247 [a,.i .i64 t] []=some (.b (allK ts t),[]):=by
 have hL:=fun fr lh sh=>pall1 ts t a ha hlen _ rfl fr lh sh
 rw[p_fun fn247 (by simp[c247])]
 cases h:allK ts t <;> simp only[h]at hL <;> simp(maxDischargeDepth:=6) only[qF,qGO0,qGO1,qGO2,qGO3,qGO4,reduceCtorEq,Nat.reduceLT,Nat.reduceEqDiff,c247,ha.lenI,hL]
theorem amount_ev(k:Int):DCall pE 246 [.i .i64 k] []=some (.b (decide (k=1∨k=2)),[]):=by
 rw[p_fun fn246 (by simp[c246])]
 by_cases h1:k=1
 ·simp(maxDischargeDepth:=6) only[qF,qGO0,qGO1,qGO2,qGO3,qGO4,reduceCtorEq,Nat.reduceLT,Nat.reduceEqDiff,Int.reduceEq,c246,h1,true_or]
 ·by_cases h2:k=2 <;> simp(maxDischargeDepth:=6) only[qF,qGO0,qGO1,qGO2,qGO3,qGO4,qGO5,reduceCtorEq,Nat.reduceLT,Nat.reduceEqDiff,Int.reduceEq,c246,h1,h2,or_true,or_self]
theorem product_ev(op a b:Int):DCall pE 248 [.i .i64 op,.i .i64 a,.i .i64 b] []=some (.i .i64 (prodK op a b),[]):=by
 rw[p_fun fn248 (by simp[c248])]
 unfold prodK
 by_cases a1:a=1
 ·subst a1
  by_cases b1:b=1
  ·simp(maxDischargeDepth:=6) only[qF,qGO0,qGO1,qGO2,qGO3,qGO4,qGO5,Nat.reduceAdd,reduceCtorEq,Nat.reduceLT,Nat.reduceEqDiff,Int.reduceEq,c248,b1]
  ·by_cases o1:op=10
   ·by_cases b2:b=2 <;> simp(maxDischargeDepth:=6) only[qF,qGO0,qGO1,qGO2,qGO3,qGO4,qGO5,Nat.reduceAdd,reduceCtorEq,Nat.reduceLT,Nat.reduceEqDiff,Int.reduceEq,c248,b1,b2,o1]
   ·by_cases o2:op=11 <;> simp(maxDischargeDepth:=6) only[qF,qGO0,qGO1,qGO2,qGO3,qGO4,qGO5,Nat.reduceAdd,reduceCtorEq,Nat.reduceLT,Nat.reduceEqDiff,Int.reduceEq,c248,b1,o1,o2]
 ·by_cases a2:a=2
  ·subst a2
   by_cases b1:b=1
   ·simp(maxDischargeDepth:=6) only[qF,qGO0,qGO1,qGO2,qGO3,qGO4,qGO5,Nat.reduceAdd,reduceCtorEq,Nat.reduceLT,Nat.reduceEqDiff,Int.reduceEq,c248,b1]
   ·by_cases o1:op=10
    ·simp(maxDischargeDepth:=6) only[qF,qGO0,qGO1,qGO2,qGO3,qGO4,qGO5,Nat.reduceAdd,reduceCtorEq,Nat.reduceLT,Nat.reduceEqDiff,Int.reduceEq,c248,b1,o1]
    ·by_cases o2:op=11
     ·by_cases b2:b=2 <;> simp(maxDischargeDepth:=6) only[qF,qGO0,qGO1,qGO2,qGO3,qGO4,qGO5,Nat.reduceAdd,reduceCtorEq,Nat.reduceLT,Nat.reduceEqDiff,Int.reduceEq,c248,b1,b2,o2]
     ·simp(maxDischargeDepth:=6) only[qF,qGO0,qGO1,qGO2,qGO3,qGO4,qGO5,Nat.reduceAdd,reduceCtorEq,Nat.reduceLT,Nat.reduceEqDiff,Int.reduceEq,c248,b1,o1,o2]
  ·by_cases o1:op=10
   ·simp(maxDischargeDepth:=6) only[qF,qGO0,qGO1,qGO2,qGO3,qGO4,qGO5,Nat.reduceAdd,reduceCtorEq,Nat.reduceLT,Nat.reduceEqDiff,Int.reduceEq,c248,a1,a2,o1]
   ·by_cases o2:op=11 <;> simp(maxDischargeDepth:=6) only[qF,qGO0,qGO1,qGO2,qGO3,qGO4,qGO5,Nat.reduceAdd,reduceCtorEq,Nat.reduceLT,Nat.reduceEqDiff,Int.reduceEq,c248,a1,a2,o1,o2]
end Go.Proofs.YtfenhjpkomldcaaGreat
