/- The built attributes. Known attributes; limited values. The given attributes as a map. The values of attributes. The program's Eval. Values by the names that occur: plain. The names that an expression uses: plain. Conditions: the theorems' own. -/
import Derived.Test.YtfenhjpkomldcaaGreatM16
import Derived.KernelRfl
set_option maxRecDepth 100000
set_option linter.unusedSimpArgs false
set_option linter.unusedVariables false
set_option maxHeartbeats 16000000
namespace Go.Proofs.YtfenhjpkomldcaaGreat
open Go Go.Ev
def mdK(k v:Int):Int:=if k=1 then v.tmod 7 else if k=2 then v.tmod 900 else if k=3 then v.tmod 1440 else v.tmod 2
def avN(xs:List Int)(scope:Int)(ns:List (List Nat))(k:Nat):List (List Nat×Int):=(ns.take k).zipIdx.map fun p=>(p.1,mdK (attrK scope p.1) (atV xs p.2))
theorem avN_succ(xs:List Int)(scope:Int)(ns:List (List Nat)){k:Nat}(hk:k<ns.length):avN xs scope ns (k+1)=avN xs scope ns k++ [(ns[k],mdK (attrK scope ns[k]) (atV xs k))]:=by
 unfold avN
 rw[List.take_succ_eq_append_getElem hk,List.zipIdx_append,List.map_append]
 simp[List.length_take,Nat.min_eq_left (Nat.le_of_lt hk)]
theorem avN_len(xs:List Int)(scope:Int)(ns:List (List Nat)){k:Nat}(hk:k≤ns.length):(avN xs scope ns k).length=k:=by
 unfold avN;rw[List.length_map,List.length_zipIdx,List.length_take];omega
def avC:List (List Nat×Int)→List T
 | []=> []
 |p::r=>T.s p.1:: .i .i64 p.2::avC r
theorem avC_app: ∀(a b:List (List Nat×Int)),avC (a++b)=avC a++avC b
 | [],b=>rfl
 |p::a,b=>by rw[List.cons_append,avC,avC,avC_app a b];rfl
theorem avC_len: ∀(a:List (List Nat×Int)),(avC a).length=a.length*2
 | []=>rfl
 |p::a=>by rw[avC,List.length_cons,List.length_cons,List.length_cons,avC_len a];omega
theorem rnames_ev(scope:Int)(hsc:scope=1∨scope=2∨scope=3): ∃A,DCall pE 84 [.i .i64 scope] []=some (A,[])∧IsSl A (atW scope).length ((atW scope).map T.s)∧(atW scope).length≤100∧(atW scope).length≠0:=by
 rcases hsc with rfl|rfl|rfl
 ·exact⟨_,rnames1_ev,Or.inr ⟨true,rfl⟩,by decide,by decide⟩
 ·exact⟨_,rnames2_ev,Or.inr ⟨false,rfl⟩,by decide,by decide⟩
 ·exact⟨_,rnames3_ev,Or.inr ⟨true,rfl⟩,by decide,by decide⟩
theorem OutS_at{lh:Tri Ent}{sh:List Ent}{v:T}{k n:Nat}{cs:List T}(h:OutS lh v k 2 n cs)(hn:n≤Lim)(x y:T)(ex:Bool):
  appW lh sh k 2 24 v (.sl [x,y] 1 ex)=some (nxV lh sh k 2 24 v (.sl [x,y] 1 ex),nxH lh sh k 2 24 v (.sl [x,y] 1 ex))∧OutS (nxH lh sh k 2 24 v (.sl [x,y] 1 ex)) (nxV lh sh k 2 24 v (.sl [x,y] 1 ex)) k 2 (n+1) (cs++ [x,y])∧ ∀j,j≠k→getO (nxH lh sh k 2 24 v (.sl [x,y] 1 ex)) j=getO lh j:=
 OutS.appW h (m:=0) (by rw[slC_sl];rfl) rfl (by unfold roomy;unfold Lim at hn;omega)
section
variable(xs:List Int)(lT:T)(hl:IsSl lT xs.length (ints xs))(scope:Int)
include hl
theorem atr1(ns:List (List Nat))(A:T)(hA:IsSl A ns.length (ns.map T.s))(hn:ns.length≤100)(fr:Fr)(lh:Tri Ent)(sh:List Ent)
  (h0:getF fr 0=lT) (h1:getF fr 1= .i .i64 scope) (h5:getF fr 5= .nilsl) (h6:getF fr 6=A) (h7:getF fr 7= .i .i64 0):
  DC pE 56 (.loop c49_L1) ⟨fr,lh,sh⟩=some (.ext 0,⟨frL pE 56 c49_L1 fr lh sh,lhL pE 56 c49_L1 fr lh sh,shL pE 56 c49_L1 fr lh sh⟩)∧
  (OutS (lhL pE 56 c49_L1 fr lh sh) (getF (frL pE 56 c49_L1 fr lh sh) 5) 54 2 ns.length (avC (avN xs scope ns ns.length))∧shL pE 56 c49_L1 fr lh sh=sh):=by
 refine loop_rule (P:=fun fr' lh' sh'=>OutS lh' (getF fr' 5) 54 2 ns.length (avC (avN xs scope ns ns.length))∧sh'=sh)
  (loop_inv (fun k st=> ∃(fr:Fr) (lh1:Tri Ent),st=⟨fr,lh1,sh⟩∧getF fr 0=lT∧getF fr 1= .i .i64 scope∧getF fr 6=A∧getF fr 7= .i .i64 (k:Int)∧OutS lh1 (getF fr 5) 54 2 k (avC (avN xs scope ns k))) _ ns.length ?_ ?_ 0 _ (Nat.zero_le _) ⟨fr,lh,rfl,h0,h1,h6,h7,by rw[h5];exact OutS.nil⟩)
 ·rintro k _ hkx ⟨fr,lh1,rfl,h0,h1,h6,h7,hO⟩
  left
  have hk':(k:Int)<ns.length:=by omega
  have hw:=wr_succL (k:=k) (lim_of (by omega))
  have hia:=str_at hA hkx
  have hat:=rattr_ev scope ns[k]
  have hv:=at_ev lT xs hl k (by omega)
  rw[avN_succ xs scope ns hkx,avC_app]
  generalize h5:getF fr 5=v5 at hO
  have fin: ∀w,w=mdK (attrK scope ns[k]) (atV xs k)→ ∀lh2,lh2=nxH lh1 sh 54 2 24 v5 (.sl [T.s ns[k],T.i .i64 w] 1 true)→OutS lh2 (nxV lh1 sh 54 2 24 v5 (.sl [T.s ns[k],T.i .i64 w] 1 true)) 54 2 (k+1) (avC (avN xs scope ns k)++avC [(ns[k],mdK (attrK scope ns[k]) (atV xs k))]):=by
   rintro w rfl lh2 rfl
   exact(OutS_at hO (lim_of (by omega)) (sh:=sh) (T.s ns[k]) (T.i .i64 _) true).2.1
  have hap:=fun w=>(OutS_at hO (lim_of (by omega)) (sh:=sh) (T.s ns[k]) (T.i .i64 w) true).1
  generalize attrK scope ns[k]=q at hat fin ⊢
  by_cases k1:q=1
  ·have hm:(atV xs k).tmod 7=mdK q (atV xs k):=by rw[mdK,if_pos k1]
   simp(maxDischargeDepth:=6) only[qF,qGO0,qGO1,qGO2,qGO3,qGO4,qGO5,buildV,bslV,bslW,splice,fills,repl,Nat.reduceAdd,reduceCtorEq,Nat.reduceLT,Nat.reduceLeDiff,Nat.reduceEqDiff,Int.reduceEq,c49_L1,h0,h1,h5,h6,h7,hA.lenI,hk',hia,hw,hat,dc85,hv,dc86,hl.froz,hO.notS,k1,hap]
   refine⟨_,rfl,_,_,rfl, ?_, ?_, ?_, ?_, ?_⟩
   all_goals first|(simp(maxDischargeDepth:=6) only[qGO2,qGO4,reduceCtorEq,Nat.reduceEqDiff,h0,h1,h6];done)|skip
   simp(maxDischargeDepth:=6) only[qGO2,qGO4,Nat.reduceEqDiff]
   have h':=fin _ hm _ rfl
   rw[k1]at h'
   exact h'
  by_cases k2:q=2
  ·have hm:(atV xs k).tmod 900=mdK q (atV xs k):=by rw[mdK,if_neg k1,if_pos k2]
   simp(maxDischargeDepth:=6) only[qF,qGO0,qGO1,qGO2,qGO3,qGO4,qGO5,buildV,bslV,bslW,splice,fills,repl,Nat.reduceAdd,reduceCtorEq,Nat.reduceLT,Nat.reduceLeDiff,Nat.reduceEqDiff,Int.reduceEq,c49_L1,h0,h1,h5,h6,h7,hA.lenI,hk',hia,hw,hat,dc85,hv,dc86,hl.froz,hO.notS,k2,hap]
   refine⟨_,rfl,_,_,rfl, ?_, ?_, ?_, ?_, ?_⟩
   all_goals first|(simp(maxDischargeDepth:=6) only[qGO2,qGO4,reduceCtorEq,Nat.reduceEqDiff,h0,h1,h6];done)|skip
   simp(maxDischargeDepth:=6) only[qGO2,qGO4,Nat.reduceEqDiff]
   have h':=fin _ hm _ rfl
   rw[k2]at h'
   exact h'
  by_cases k3:q=3
  ·have hm:(atV xs k).tmod 1440=mdK q (atV xs k):=by rw[mdK,if_neg k1,if_neg k2,if_pos k3]
   simp(maxDischargeDepth:=6) only[qF,qGO0,qGO1,qGO2,qGO3,qGO4,qGO5,buildV,bslV,bslW,splice,fills,repl,Nat.reduceAdd,reduceCtorEq,Nat.reduceLT,Nat.reduceLeDiff,Nat.reduceEqDiff,Int.reduceEq,c49_L1,h0,h1,h5,h6,h7,hA.lenI,hk',hia,hw,hat,dc85,hv,dc86,hl.froz,hO.notS,k3,hap]
   refine⟨_,rfl,_,_,rfl, ?_, ?_, ?_, ?_, ?_⟩
   all_goals first|(simp(maxDischargeDepth:=6) only[qGO2,qGO4,reduceCtorEq,Nat.reduceEqDiff,h0,h1,h6];done)|skip
   simp(maxDischargeDepth:=6) only[qGO2,qGO4,Nat.reduceEqDiff]
   have h':=fin _ hm _ rfl
   rw[k3]at h'
   exact h'
  have hm:(atV xs k).tmod 2=mdK q (atV xs k):=by rw[mdK,if_neg k1,if_neg k2,if_neg k3]
  simp(maxDischargeDepth:=6) only[qF,qGO0,qGO1,qGO2,qGO3,qGO4,qGO5,buildV,bslV,bslW,splice,fills,repl,Nat.reduceAdd,reduceCtorEq,Nat.reduceLT,Nat.reduceLeDiff,Nat.reduceEqDiff,Int.reduceEq,c49_L1,h0,h1,h5,h6,h7,hA.lenI,hk',hia,hw,hat,dc85,hv,dc86,hl.froz,hO.notS,k1,k2,k3,hap]
  refine⟨_,rfl,_,_,rfl, ?_, ?_, ?_, ?_, ?_⟩
  all_goals first|(simp(maxDischargeDepth:=6) only[qGO2,qGO4,reduceCtorEq,Nat.reduceEqDiff,h0,h1,h6];done)|skip
  simp(maxDischargeDepth:=6) only[qGO2,qGO4,Nat.reduceEqDiff]
  exact fin _ hm _ rfl
 ·rintro _ ⟨fr,lh1,rfl,h0,h1,h6,h7,hO⟩
  simp(maxDischargeDepth:=6) only[qGO0,qGO1,qGO2,qGO4,qGO5,Nat.reduceLT,Nat.reduceEqDiff,c49_L1,h6,h7,hA.lenI,Int.lt_irrefl]
  refine⟨_,_,(by simp:Out.ext 0≠ .nrm),rfl,rfl, ?_,rfl⟩
  simp(maxDischargeDepth:=6) only[qGO2,qGO4,Nat.reduceEqDiff]
  exact hO
def avA:List (List Nat×Int):=avN xs scope (atW scope) (atW scope).length
theorem attrsB_ev(hsc:scope=1∨scope=2∨scope=3):DCall pE 49 [lT,.i .i64 scope] []=some (outT (atW scope).length (avC (avA xs scope)),[]):=by
 obtain⟨A,hc,hA,hn,_⟩:=rnames_ev scope hsc
 have hL:=fun fr lh sh h0 h1 h5 h6 h7=>atr1 xs lT hl scope (atW scope) A hA hn fr lh sh h0 h1 h5 h6 h7
 have hO:=fun m keep fr lh sh h0 h1 h5 h6 h7=>OutS.fzW (m:=m) (keep:=keep) (sh:=sh) (hL fr lh sh h0 h1 h5 h6 h7).2.1
 have hO':=fun keep fr lh sh h0 h1 h5 h6 h7=>OutS.fzV (keep:=keep) (sh:=sh) (hL fr lh sh h0 h1 h5 h6 h7).2.1
 rw[p_fun fn49 (by simp[c49])]
 simp(maxDischargeDepth:=6) only[qF,qGO0,qGO1,qGO2,qGO3,qGO4,reduceCtorEq,Nat.reduceLT,Nat.reduceEqDiff,c49,hc,dc84,hL,hO',qUP0]
 rfl
end
end Go.Proofs.YtfenhjpkomldcaaGreat
namespace Go.Proofs.YtfenhjpkomldcaaGreat
open Go Go.Ev
section
variable(m:List (List Nat×Int))(scope:Int)(hm: ∀s,attrK scope s≠0→ ∃v,lookA m s=some v)
def knT:T:= .vm (m.map fun p=>sK p.1) (m.map fun p=>iV p.2)
def knP(y:Ex):Prop:= ∀cs:List T,IsEx y cs→y.nodes≤100000→DCall pE 87 [.i .i64 scope,knT m,.agg cs] []=some (.b true,[])
include hm
theorem kn1(xs:List Ex)(ih: ∀y∈xs,knP m scope y)(a:T)(cc:List T)(ha:IsSl a xs.length cc)(hx:IsExs xs cc)(hn:nodesL xs≤100000)(fr:Fr)(lh:Tri Ent)(sh:List Ent)
  (h0:getF fr 0= .i .i64 scope) (h1:getF fr 1=knT m) (h36:getF fr 36=a) (h37:getF fr 37= .i .i64 (xs.length:Int)) (h38:getF fr 38= .i .i64 0):
  DC pE 48 (.loop c87_L1) ⟨fr,lh,sh⟩=some (.ext 0,⟨frL pE 48 c87_L1 fr lh sh,lhL pE 48 c87_L1 fr lh sh,shL pE 48 c87_L1 fr lh sh⟩)∧
  (shL pE 48 c87_L1 fr lh sh=sh):=by
 have _:=hm
 refine loop_rule (P:=fun fr' lh' sh'=>sh'=sh)
  (loop_inv (fun k st=> ∃(fr:Fr) (lh1:Tri Ent),st=⟨fr,lh1,sh⟩∧getF fr 0= .i .i64 scope∧getF fr 1=knT m∧getF fr 36=a∧getF fr 37= .i .i64 (xs.length:Int)∧getF fr 38= .i .i64 (k:Int)) _ xs.length ?_ ?_ 0 _ (Nat.zero_le _) ⟨fr,lh,rfl,h0,h1,h36,h37,h38⟩)
 ·rintro k _ hk ⟨fr,lh1,rfl,h0,h1,h36,h37,h38⟩
  left
  have hk':(k:Int)<xs.length:=by omega
  have hlen':=nodesL_len xs
  have hyk:=nodesL_mem (List.getElem_mem hk)
  have hw:=wr_succL (k:=k) (lim_of (by omega))
  obtain⟨b,cb,rr,hia,hb1,hb2,hb⟩:=arg_at ha hx k hk
  have hcall:=ih xs[k] (List.getElem_mem hk) _ hb (by omega)
  unfold knT at h1 hcall
  simp(maxDischargeDepth:=6) only[qF,qGO0,qGO1,qGO2,qGO3,qGO4,qGO5,splice,Nat.reduceAdd,reduceCtorEq,Nat.reduceLT,Nat.reduceLeDiff,Nat.reduceEqDiff,c87_L1,h0,h1,h36,h37,h38,hk',hia,hw,hcall,dc87,hb1.froz1]
  refine⟨_,rfl,_,_,rfl, ?_, ?_, ?_, ?_, ?_⟩ <;> first|(simp(maxDischargeDepth:=6) only[qGO2,qGO4,reduceCtorEq,Nat.reduceEqDiff,h0,h1,h36,h37];done)|(simp(maxDischargeDepth:=6) only[qGO2,qGO4,Nat.reduceEqDiff,h1];rfl)
 ·rintro _ ⟨fr,lh1,rfl,h0,h1,h36,h37,h38⟩
  simp(maxDischargeDepth:=6) only[qGO0,qGO1,qGO2,qGO4,qGO5,Nat.reduceLT,c87_L1,h37,h38,Int.lt_irrefl]
  exact⟨_,_,(by simp:Out.ext 0≠ .nrm),rfl,rfl,rfl⟩
theorem kn_ev(x:Ex):knP m scope x:=by
 induction x using Ex.ind with
 |h x ih=>
  intro cs hx hn
  obtain⟨a,cc,rfl,ha,hxs⟩:=hx.cells
  have hnd:=x.nodes_eq
  rw[p_fun fn87 (by simp[c87])]
  unfold knT
  by_cases h6:x.op=6
  ·have hat:=pattr_ev scope x.name
   unfold attrE at hat
   have hlk:lkIn (.one .str) (m.map fun p=>sK p.1) (m.map fun p=>iV p.2) (.s x.name) (.i .i64 0) true=_:=lk_A (kT:=sK) (vT:=iV) heqS (fun _=>rfl) m x.name (.i .i64 0)
   by_cases hz:attrK scope x.name=0
   ·rw[if_pos hz,hz]at hat
    cases hq:lookA m x.name with
    |none=>
     rw[hq]at hlk
     simp only at hlk
     simp(maxDischargeDepth:=6) only[qF,qGO0,qGO1,qGO2,qGO3,qGO4,qGO5,lkV,Nat.reduceAdd,reduceCtorEq,Nat.reduceLT,Nat.reduceEqDiff,Int.reduceEq,lkV,c87,h6,hat,dc89,hlk]
    |some v=>
     rw[hq]at hlk
     simp only[show iV v= .i .i64 v from rfl]at hlk
     simp(maxDischargeDepth:=6) only[qF,qGO0,qGO1,qGO2,qGO3,qGO4,qGO5,lkV,Nat.reduceAdd,reduceCtorEq,Nat.reduceLT,Nat.reduceEqDiff,lkV,c87,h6,hat,dc89,hlk]
   ·rw[if_neg hz]at hat
    obtain⟨v,hq⟩:=hm _ hz
    rw[hq]at hlk
    simp only[show iV v= .i .i64 v from rfl]at hlk
    simp(maxDischargeDepth:=6) only[qF,qGO0,qGO1,qGO2,qGO3,qGO4,qGO5,lkV,Nat.reduceAdd,reduceCtorEq,Nat.reduceLT,Nat.reduceEqDiff,lkV,c87,h6,hat,dc89,hlk]
  ·have hL:=fun fr lh sh h0 h1 h36 h37 h38=>kn1 m scope hm x.args (fun y hy=>ih y hy) a cc ha hxs (by omega) fr lh sh h0 h1 h36 h37 h38
   unfold knT at hL
   simp(maxDischargeDepth:=6) only[qF,qGO0,qGO1,qGO2,qGO3,qGO4,qGO5,Nat.reduceAdd,reduceCtorEq,Nat.reduceLT,Nat.reduceEqDiff,c87,h6,ha.lenI,hL]
end
def limA(k n:Int):Int:=if k=3 then(n.tmod 1440+1440).tmod 1440 else if k=4 then flagS (decide (n≠0))else clampS n
theorem limit_ev(k n:Int):DCall pE 90 [.i .i64 k,.i .i64 n] []=some (.i .i64 (limA k n),[]):=by
 rw[p_fun fn90 (by simp[c90])]
 unfold limA
 have hb1: -1440<n.tmod 1440:=Int.lt_tmod_of_pos n (by decide)
 have hb2:n.tmod 1440<1440:=Int.tmod_lt_of_pos n (by decide)
 by_cases k3:k=3
 ·subst k3
  have hw:wr .i64 (n.tmod 1440+1440)=n.tmod 1440+1440:=wr64 (by omega)
  simp(maxDischargeDepth:=6) only[qF,qGO0,qGO1,qGO2,qGO3,qGO4,qGO5,reduceCtorEq,Nat.reduceLT,Nat.reduceEqDiff,Int.reduceEq,c90,hw]
 by_cases k4:k=4
 ·subst k4
  have ht0:=truth_ev false
  have ht1:=truth_ev true
  by_cases h:n=0
  ·simp(maxDischargeDepth:=6) only[qF,qGO0,qGO1,qGO2,qGO3,qGO4,qGO5,reduceCtorEq,Nat.reduceLT,Nat.reduceEqDiff,Int.reduceEq,c90,ht0,dc136,h]
  ·simp(maxDischargeDepth:=6) only[qF,qGO0,qGO1,qGO2,qGO3,qGO4,qGO5,reduceCtorEq,Nat.reduceLT,Nat.reduceEqDiff,Int.reduceEq,c90,ht1,dc136,h]
 ·have hc:=pclamp_ev n
  simp(maxDischargeDepth:=6) only[qF,qGO0,qGO1,qGO2,qGO3,qGO4,qGO5,reduceCtorEq,Nat.reduceLT,Nat.reduceEqDiff,Int.reduceEq,c90,k3,k4,hc,dc137]
theorem limA_in{k:Int}(hk:k=1∨k=2∨k=3∨k=4)(n:Int):inK k (limA k n):=by
 unfold limA
 have hc:bd (clampS n):=by unfold clampS bd;omega
 rcases hk with rfl|rfl|rfl|rfl
 ·exact .inl ⟨.inl rfl,hc⟩
 ·exact .inl ⟨.inr rfl,hc⟩
 ·have hb1: -1440<n.tmod 1440:=Int.lt_tmod_of_pos n (by decide)
  have h0:0≤n.tmod 1440+1440:=by omega
  have hb3:(n.tmod 1440+1440).tmod 1440<1440:=Int.tmod_lt_of_pos _ (by decide)
  have hb4:0≤(n.tmod 1440+1440).tmod 1440:=Int.tmod_nonneg _ h0
  refine .inr (.inl ⟨rfl, ?_, ?_⟩)
  ·show 0≤(n.tmod 1440+1440).tmod 1440;exact hb4
  ·show(n.tmod 1440+1440).tmod 1440≤1439;omega
 ·exact .inr (.inr ⟨rfl,flagS_bit _⟩)
end Go.Proofs.YtfenhjpkomldcaaGreat
namespace Go.Proofs.YtfenhjpkomldcaaGreat
open Go Go.Ev
theorem avC_drop: ∀(al:List (List Nat×Int)) (k:Nat) (hk:k<al.length),(avC al).drop (k*2)=T.s al[k].1:: .i .i64 al[k].2::(avC al).drop ((k+1)*2)
 |p::al,0,_=>by simp[avC]
 |p::al,k+1,hk=>by
  have h:=avC_drop al k (by simpa using hk)
  rw[show(k+1)*2=k*2+1+1 by omega,show(k+1+1)*2=(k+1)*2+1+1 by omega,avC,List.drop_succ_cons,List.drop_succ_cons,List.drop_succ_cons,List.drop_succ_cons]
  simpa using h
theorem av_at{a:T}{al:List (List Nat×Int)}(ha:IsSl a al.length (avC al)){k:Nat}(hk:k<al.length)(kk:IntKind):iaV a (.i kk (k:Int)) 2=some (.vp (T.s al[k].1:: .i .i64 al[k].2::(avC al).drop ((k+1)*2))):=by
 rw[ha.ia (sz:=2) (by rw[avC_len]) hk,avC_drop al k hk]
theorem take_none{al:List (List Nat×Int)}(hnd:(al.map Prod.fst).Nodup){k:Nat}(hk:k<al.length):lookA (al.take k) al[k].1=none:=by
 have key: ∀(m:List (List Nat×Int)) (s:List Nat),(∀p∈m,p.1≠s)→lookA m s=none:=by
  intro m s h
  induction m with
  |nil=>rfl
  |cons p m ih=>
   rw[lookA,if_neg (fun e=>h p (List.mem_cons_self ..) e.symm)]
   exact ih fun q hq=>h q (List.mem_cons_of_mem _ hq)
 refine key _ _ fun p hp e=> ?_
 obtain⟨j,hj,hjj⟩:=List.getElem_of_mem hp
 rw[List.length_take]at hj
 rw[List.getElem_take]at hjj
 have:=List.pairwise_iff_getElem.1 hnd j k (by rw[List.length_map];omega) (by rw[List.length_map];exact hk) (by omega)
 rw[List.getElem_map,List.getElem_map,hjj]at this
 exact this e
theorem evm(al:List (List Nat×Int))(hnd:(al.map Prod.fst).Nodup)(hn:al.length≤100)(a:T)(ha:IsSl a al.length (avC al))(g:Nat)(c8 c7 c67 c23:Ent)(fr:Fr)(lh:Tri Ent)(sh:List Ent)
  (h12:getF fr 12= .mp .L 35 g) (h36:getF fr 36=a) (h37:getF fr 37= .i .i64 (al.length:Int)) (h38:getF fr 38= .i .i64 0) (o35:getO lh 35=⟨g,.map [] [] false⟩) (o8:getO lh 8=c8) (o7:getO lh 7=c7) (n67:getO lh 67=c67) (n23:getO lh 23=c23):
  DC pE 99 (.loop c50_L2) ⟨fr,lh,sh⟩=some (.ext 0,⟨frL pE 99 c50_L2 fr lh sh,lhL pE 99 c50_L2 fr lh sh,shL pE 99 c50_L2 fr lh sh⟩)∧
  (getO (lhL pE 99 c50_L2 fr lh sh) 35=⟨g,.map (al.map fun p=>sK p.1) (al.map fun p=>iV p.2) false⟩∧getO (lhL pE 99 c50_L2 fr lh sh) 8=c8∧getO (lhL pE 99 c50_L2 fr lh sh) 7=c7∧getO (lhL pE 99 c50_L2 fr lh sh) 67=c67∧getO (lhL pE 99 c50_L2 fr lh sh) 23=c23∧shL pE 99 c50_L2 fr lh sh=sh):=by
 refine loop_rule (P:=fun fr' lh' sh'=>getO lh' 35=⟨g,.map (al.map fun p=>sK p.1) (al.map fun p=>iV p.2) false⟩∧getO lh' 8=c8∧getO lh' 7=c7∧getO lh' 67=c67∧getO lh' 23=c23∧sh'=sh)
  (loop_inv (fun k st=> ∃(fr:Fr) (lh1:Tri Ent),st=⟨fr,lh1,sh⟩∧getF fr 12= .mp .L 35 g∧getF fr 36=a∧getF fr 37= .i .i64 (al.length:Int)∧getF fr 38= .i .i64 (k:Int)∧getO lh1 35=⟨g,.map ((al.take k).map fun p=>sK p.1) ((al.take k).map fun p=>iV p.2) false⟩∧getO lh1 8=c8∧getO lh1 7=c7∧getO lh1 67=c67∧getO lh1 23=c23) _ al.length ?_ ?_ 0 _ (Nat.zero_le _) ⟨fr,lh,rfl,h12,h36,h37,h38,by rw[o35];rfl,o8,o7,n67,n23⟩)
 ·rintro k _ hk ⟨fr,lh1,rfl,h12,h36,h37,h38,o35,o8,o7,n67,n23⟩
  left
  have hk':(k:Int)<al.length:=by omega
  have hw:=wr_succL (k:=k) (lim_of (by omega))
  have hia:=av_at ha hk
  have hno:=take_none hnd hk
  have hlk:lkIn (.one .str) ((al.take k).map fun p=>sK p.1) ((al.take k).map fun p=>iV p.2) (.s al[k].1) (.i .i64 0) true=_:=lk_A (kT:=sK) (vT:=iV) heqS (fun _=>rfl) (al.take k) al[k].1 (.i .i64 0)
  have hput:putK (.one .str) (.s al[k].1) (.i .i64 al[k].2) ((al.take k).map fun p=>sK p.1) ((al.take k).map fun p=>iV p.2)=_:=put_A (kT:=sK) (vT:=iV) heqS (al.take k) al[k].1 al[k].2 hno
  rw[hno]at hlk
  simp only at hlk
  simp(maxDischargeDepth:=6) only[qGO0,qGO1,qGO2,qGO3,qGO4,qGO5,lkV,muV,splice,Nat.reduceAdd,Nat.reduceLT,Nat.reduceLeDiff,Nat.reduceEqDiff,lkV,c50_L2,h12,h36,h37,h38,o35,hk',hia,hw,lkE_map,hlk,muE_map,key_s,hput]
  refine⟨_,rfl,_,_,rfl, ?_, ?_, ?_, ?_, ?_, ?_, ?_, ?_, ?_⟩
  all_goals first|(simp(maxDischargeDepth:=6) only[qGO2,qGO4,Nat.reduceEqDiff,h12,h36,h37,o8,o7,n67,n23];done)|skip
  simp(maxDischargeDepth:=6) only[qGO2]
  rw[List.take_succ_eq_append_getElem hk]
 ·rintro _ ⟨fr,lh1,rfl,h12,h36,h37,h38,o35,o8,o7,n67,n23⟩
  rw[List.take_length]at o35
  simp(maxDischargeDepth:=6) only[qGO0,qGO1,qGO2,qGO4,qGO5,Nat.reduceLT,c50_L2,h37,h38,Int.lt_irrefl]
  exact⟨_,_,(by simp:Out.ext 0≠ .nrm),rfl,rfl,o35,o8,o7,n67,n23,rfl⟩
end Go.Proofs.YtfenhjpkomldcaaGreat
namespace Go.Proofs.YtfenhjpkomldcaaGreat
open Go Go.Ev
def gvA(al:List (List Nat×Int))(s:List Nat):Int:=match lookA al s with|some v=>v|none=>0
def vlsA(al:List (List Nat×Int))(scope:Int)(ns:List (List Nat)):List Int:=ns.map fun s=>limA (attrK scope s) (gvA al s)
theorem vlsA_succ(al:List (List Nat×Int))(scope:Int){ns:List (List Nat)}{k:Nat}(hk:k<ns.length):vlsA al scope (ns.take (k+1))=vlsA al scope (ns.take k)++ [limA (attrK scope ns[k]) (gvA al ns[k])]:=by
 unfold vlsA;rw[List.take_succ_eq_append_getElem hk,List.map_append];rfl
theorem evv(al:List (List Nat×Int))(scope:Int)(ns:List (List Nat))(hn:ns.length≤100)(a:T)(ha:IsSl a ns.length (ns.map T.s))(gm g:Nat)(c8 c7 c23:Ent)(fr:Fr)(lh:Tri Ent)(sh:List Ent)
  (h1:getF fr 1= .i .i64 scope) (h12:getF fr 12= .mp .L 35 gm) (h18:getF fr 18= .isl .L 67 g 0 ns.length 1) (h68:getF fr 68=a) (h69:getF fr 69= .i .i64 (ns.length:Int)) (h70:getF fr 70= .i .i64 0) (o35:getO lh 35=⟨gm,.map (al.map fun p=>sK p.1) (al.map fun p=>iV p.2) false⟩) (o67:getO lh 67=⟨g,.cells (repl [.i .i64 0] ns.length) 0 false⟩) (o8:getO lh 8=c8) (o7:getO lh 7=c7) (n23:getO lh 23=c23):
  DC pE 99 (.loop c50_L1) ⟨fr,lh,sh⟩=some (.ext 2,⟨frL pE 99 c50_L1 fr lh sh,lhL pE 99 c50_L1 fr lh sh,shL pE 99 c50_L1 fr lh sh⟩)∧
  (getO (lhL pE 99 c50_L1 fr lh sh) 67=⟨g,.cells (ints (vlsA al scope ns)) 0 false⟩∧getO (lhL pE 99 c50_L1 fr lh sh) 8=c8∧getO (lhL pE 99 c50_L1 fr lh sh) 7=c7∧getO (lhL pE 99 c50_L1 fr lh sh) 23=c23∧shL pE 99 c50_L1 fr lh sh=sh):=by
 refine loop_rule (P:=fun fr' lh' sh'=>getO lh' 67=⟨g,.cells (ints (vlsA al scope ns)) 0 false⟩∧getO lh' 8=c8∧getO lh' 7=c7∧getO lh' 23=c23∧sh'=sh)
  (loop_inv (fun k st=> ∃(fr:Fr) (lh1:Tri Ent),st=⟨fr,lh1,sh⟩∧getF fr 1= .i .i64 scope∧getF fr 12= .mp .L 35 gm∧getF fr 18= .isl .L 67 g 0 ns.length 1∧getF fr 68=a∧getF fr 69= .i .i64 (ns.length:Int)∧getF fr 70= .i .i64 (k:Int)∧getO lh1 35=⟨gm,.map (al.map fun p=>sK p.1) (al.map fun p=>iV p.2) false⟩∧
    getO lh1 67=⟨g,.cells (ints (vlsA al scope (ns.take k))++repl [.i .i64 0] (ns.length-k)) 0 false⟩∧getO lh1 8=c8∧getO lh1 7=c7∧getO lh1 23=c23) _ ns.length ?_ ?_ 0 _ (Nat.zero_le _) ⟨fr,lh,rfl,h1,h12,h18,h68,h69,h70,o35,by rw[o67];rfl,o8,o7,n23⟩)
 ·rintro k _ hk ⟨fr,lh1,rfl,h1,h12,h18,h68,h69,h70,o35,o67,o8,o7,n23⟩
  left
  have hk':(k:Int)<ns.length:=by omega
  have hw:=wr_succL (k:=k) (lim_of (by omega))
  have hia:=str_at ha hk
  have hat:=pattr_ev scope ns[k]
  have hlk:lkIn (.one .str) (al.map fun p=>sK p.1) (al.map fun p=>iV p.2) (.s ns[k]) (.i .i64 0) false=some (.i .i64 (gvA al ns[k])):=by
   have:=lk_A1 (kT:=sK) (vT:=iV) heqS (fun _=>rfl) al ns[k] (.i .i64 0)
   rw[show(T.s ns[k])=sK ns[k]from rfl,this];unfold gvA;cases lookA al ns[k] <;> rfl
  have hlim:=limit_ev (attrK scope ns[k]) (gvA al ns[k])
  have hln:(vlsA al scope (ns.take k)).length=k:=by unfold vlsA;rw[List.length_map,List.length_take];omega
  have hsc:=vlsA_succ al scope hk
  generalize limA (attrK scope ns[k]) (gvA al ns[k])=w at hlim hsc
  generalize gvA al ns[k]=gv at hlk hlim
  generalize attrK scope ns[k]=q at hat hlim
  have hrl:(ints (vlsA al scope (ns.take k))++repl [T.i .i64 0] (ns.length-k)).length=ns.length:=by rw[List.length_append,ints_len,repl_len,hln];simp;omega
  have hsp:splice (ints (vlsA al scope (ns.take k))++repl [T.i .i64 0] (ns.length-k)) k [.i .i64 w]=ints (vlsA al scope (ns.take k)++ [w])++repl [T.i .i64 0] (ns.length-(k+1)):=by
   rw[show ns.length-k=(ns.length-(k+1))+1 by omega,repl_succ,splice_row (ints (vlsA al scope (ns.take k))) [T.i .i64 0] _ [T.i .i64 w] k (by rw[ints_len];exact hln) rfl,ints_app]
  have hkl1:k+1≤ns.length:=by omega
  simp(maxDischargeDepth:=6) only[qF,qGO0,qGO1,qGO2,qGO3,qGO4,qGO5,lkV,Nat.reduceLT,Nat.reduceEqDiff,lkV,c50_L1,h1,h12,h18,h68,h69,h70,o35,o67,hk',hia,hw,hat,dc89,lkE_map,hlk,hlim,dc90,hk,hrl,hsp,hkl1]
  refine⟨_,rfl,_,_,rfl, ?_, ?_, ?_, ?_, ?_, ?_, ?_, ?_, ?_, ?_, ?_⟩
  all_goals first|(simp(maxDischargeDepth:=6) only[qGO2,qGO4,Nat.reduceEqDiff,h1,h12,h18,h68,h69,o35,o8,o7,n23,hsc];done)|skip
 ·rintro _ ⟨fr,lh1,rfl,h1,h12,h18,h68,h69,h70,o35,o67,o8,o7,n23⟩
  rw[List.take_length,Nat.sub_self,show repl [T.i .i64 0] 0= []from rfl,List.append_nil]at o67
  simp(maxDischargeDepth:=6) only[qGO0,qGO1,qGO2,qGO4,qGO5,Nat.reduceLT,c50_L1,h69,h70,Int.lt_irrefl]
  exact⟨_,_,(by simp:Out.ext 2≠ .nrm),rfl,rfl,o67,o8,o7,n23,rfl⟩
end Go.Proofs.YtfenhjpkomldcaaGreat
namespace Go.Proofs.YtfenhjpkomldcaaGreat
open Go Go.Ev
theorem atW_K{scope:Int}(hsc:scope=1∨scope=2∨scope=3): ∀s∈atW scope,attrK scope s=1∨attrK scope s=2∨attrK scope s=3∨attrK scope s=4:=by
 rcases hsc with rfl|rfl|rfl <;> decide+kernel
theorem vlA_ok(l:Cs){scope:Int}(hsc:scope=1∨scope=2∨scope=3)(al:List (List Nat×Int)):vxOk (clA (CLa l) scope) (vlA (VXa l) scope (vlsA al scope (atW scope))):=by
 intro s t h
 unfold clA at h
 by_cases hz:attrK scope s≠0
 ·rw[if_pos hz]at h
  injection h with h _
  subst h
  unfold vlA
  cases hp:plA scope s with
  |none=>exact absurd ((plA_none scope s).1 hp) hz
  |some i=>
   have hi:=plA_at hp
   have hm:s∈atW scope:=List.mem_of_getElem? hi
   have:(vlsA al scope (atW scope)).getD i 0=limA (attrK scope s) (gvA al s):=by
    unfold vlsA
    rw[List.getD_eq_getElem?_getD,List.getElem?_map,hi];rfl
   simp only
   rw[this]
   exact limA_in (atW_K hsc s hm) _
 ·rw[if_neg hz]at h
  have hp:=(plA_none scope s).2 (by simpa using hz)
  unfold vlA
  rw[hp]
  exact vxa_ok l s t h
theorem patA(scope:Int)(hsc:scope=1∨scope=2∨scope=3): ∃A,DCall pE 88 [.i .i64 scope] []=some (A,[])∧IsSl A (atW scope).length ((atW scope).map T.s)∧(atW scope).length≤100:=by
 rcases hsc with rfl|rfl|rfl
 ·exact⟨_,pat1,Or.inr ⟨true,rfl⟩,by decide⟩
 ·exact⟨_,pat2,Or.inr ⟨false,rfl⟩,by decide⟩
 ·exact⟨_,pat3,Or.inr ⟨true,rfl⟩,by decide⟩
section
variable(l:Cs)(lT:T)(cl:List T)(hl:IsSl lT l.length cl)(hcl:IsCl l cl)(hlen:l.length≤Lim)(hsm:smC l)
include hl hcl hlen hsm
theorem eval_ev(scope:Int)(hsc:scope=1∨scope=2∨scope=3)(al:List (List Nat×Int))(aT:T)(haT:IsSl aT al.length (avC al))(hnd:(al.map Prod.fst).Nodup)(hn:al.length≤100)(hal: ∀s,attrK scope s≠0→ ∃v,lookA al s=some v)(x:Ex)(cs:List T)(hx:IsEx x cs)(hs:x.sm)(k:Int)(hv:validE x=0)(ht:x.ty (CLa l) scope=(k,0)):
  ∃s,DCall pE 50 [lT,.i .i64 scope,aT,.agg cs] []=some (.tup [.agg [.i .i64 k,.i .i64 (x.val0 (vlA (VXa l) scope (vlsA al scope (atW scope))))],.i .i64 0],s):=by
 obtain⟨xa,xc,rfl,hx1,hx2⟩:=hx.cells
 have hwf:=valid_wf hv
 have hsz:=(valid_size hv).1
 have hnd':=x.nodes_eq
 have hs0:=hs
 obtain⟨sT,hty⟩:=ptype_ev l lT cl hl hcl hlen hsm scope x _ hx (Nat.zero_le _) hs
 have htS:typeS l scope x=(k,0):=by unfold typeS;rw[if_neg (by simp[hv])];exact ht
 rw[htS]at hty
 simp only at hty
 have hkn:=kn_ev al scope hal x _ hx (by omega)
 unfold knT at hkn
 obtain⟨A,hat,hA,hA100⟩:=patA scope hsc
 have hnco:=nco_ev l lT cl hl hcl hlen
 obtain⟨cf,kn',hcall,hcf,_,_⟩:=cmq_ev l lT l.length (Nat.le_refl _) (cstQ_ev l lT cl hl hcl) scope (.inr hsc) x k [] _ (fun i v h=>by simp[lookA]at h) hx hsz hwf (by rw[CL_all];exact ht)
 unfold cpF at hcall
 have hvl:(vlsA al scope (atW scope)).length=(atW scope).length:=by unfold vlsA;rw[List.length_map]
 obtain⟨c1,c2,_⟩:=comp_ok (vlA_ok l hsc al) hvl x k hwf (by omega) ht
 obtain⟨fa,fc,rfl,hf1,hf2⟩:=hcf.cells
 have hvc:=val_ev (vlsA al scope (atW scope)) (.sl (ints (vlsA al scope (atW scope))) (atW scope).length false) (Or.inr ⟨false,by rw[hvl]⟩) (comp (VXa l) scope x) fa fc [] hf1 hf2 c1
 rw[c2]at hvc
 generalize x.val0 (vlA (VXa l) scope (vlsA al scope (atW scope)))=R at*
 generalize comp (VXa l) scope x=y at*
 have hc1:([T.i .i64 y.op,T.i .i64 y.num,fa]:List T).all froz1=true:=by simp[hf1.froz1,froz1_i]
 have hpf:=fun lh sh keep (h:getO lh 23=⟨1,.cells [.i .i64 y.op,.i .i64 y.num,fa] 0 true⟩)=>fzV_ptrG (sh:=sh) (keep:=keep) h hc1
 have hmk:(atW scope).length*8≤roomy∧(atW scope).length≤roomy:=by unfold roomy;omega
 have hA1:=fun fr lh sh h12 h36 h37 h38 o35 o8 o7 n67 n23=>evm al hnd hn aT haT 1 ⟨1,.cells [.i .i64 0,.i .i64 0] 0 true⟩ ⟨1,.cells [.i .i64 x.op,.i .i64 x.num,.s x.name,xa] 0 true⟩ ⟨0,.none⟩ ⟨0,.none⟩ fr lh sh h12 h36 h37 h38 o35 o8 o7 n67 n23
 have hB1:=fun fr lh sh h1 h12 h18 h68 h69 h70 o35 o67 o8 o7 n23=>evv al scope (atW scope) hA100 A hA 1 1 ⟨1,.cells [.i .i64 0,.i .i64 0] 0 true⟩ ⟨1,.cells [.i .i64 x.op,.i .i64 x.num,.s x.name,xa] 0 true⟩ ⟨0,.none⟩ fr lh sh h1 h12 h18 h68 h69 h70 o35 o67 o8 o7 n23
 have hil:(ints (vlsA al scope (atW scope))).length=(atW scope).length:=by rw[ints_len,hvl]
 have hit:List.take (atW scope).length (ints (vlsA al scope (atW scope)))=ints (vlsA al scope (atW scope)):=List.take_of_length_le (by omega)
 rw[p_fun fn50 (by simp[c50])]
 simp(maxDischargeDepth:=6) only[qF,qGO0,qGO1,qGO2,qGO3,qGO4,qGO5,Nat.reduceShiftRight,Nat.reduceMod,buildV,mkslV,mkOk,splice,fills,Nat.reduceAdd,reduceCtorEq,Nat.reduceLT,Nat.reduceLeDiff,Nat.reduceEqDiff,qDR0,qDR1,getL,qKP0,c50,c50_L1_w,c50_L2_w,hty,dc52,hl.froz,hl.kept,haT.lenI,hx1.froz1,hx1.kept1,hA1,hkn,dp87,hat,dc88,hA.lenI,hmk,hB1,hnco,dc53,dd53,hcall,dc91,dd91,hf1.froz1,hpf,hil,hit,dp92,hvc]
 exact⟨_,rfl⟩
end
end Go.Proofs.YtfenhjpkomldcaaGreat
namespace Go.Proofs.YtfenhjpkomldcaaGreat
open Go Go.Ev
theorem val0_congr{e e':List Nat→Int}(x:Ex):(∀s,x.occ s→e s=e' s)→x.val0 e=x.val0 e':=by
 induction x using Ex.ind with
 |h x ih=>
  intro h
  rw[Ex.val0_eq,Ex.val0_eq (vx:=e')]
  by_cases h6:x.op=6
  ·rw[if_pos h6,if_pos h6]
   exact h _ ((Ex.occ_eq _ x).2 (.inl ⟨h6,rfl⟩))
  ·rw[if_neg h6,if_neg h6]
   have hl:val0L e x.args=val0L e' x.args:=by
    rw[val0L_map,val0L_map]
    exact List.map_congr_left fun y hy=>ih y hy fun s hs=>h s ((Ex.occ_eq s x).2 (.inr ((occL_mem s).2 ⟨y,hy,hs⟩)))
   rw[hl]
theorem occ_attr{scope:Int}{s:List Nat}(x:Ex): ∀k,x.wf=true→x.ty nc scope=(k,0)→x.occ s→attrK scope s≠0:=by
 induction x using Ex.ind with
 |h x ih=>
  intro k hwf ht ho
  rw[Ex.occ_eq]at ho
  by_cases h6:x.op=6
  ·rw[Ex.ty_eq,if_pos h6]at ht
   by_cases hz:attrK scope x.name≠0
   ·rcases ho with⟨_,rfl⟩|ho
    ·exact hz
    ·have har:=(wf_node hwf).2.2.1
     rw[h6]at har
     have hl0:x.args= []:=List.length_eq_zero_iff.1 (by simpa[arOk]using har)
     rw[hl0,occL]at ho
     exact ho.elim
   ·rw[if_neg hz]at ht;unfold nc at ht;cases ht
  ·obtain⟨ts,hts,_⟩:=ty_node ht h6
   rcases ho with⟨c,_⟩|ho
   ·exact absurd c h6
   ·obtain⟨y,hy,hyo⟩:=(occL_mem s).1 ho
    obtain⟨i,hi,rfl⟩:=List.getElem_of_mem hy
    obtain⟨t,hty⟩:=tyL_at hts i hi
    exact ih _ hy t (wfL_mem.1 (wf_node hwf).2.2.2.2.2 _ hy) hty hyo
theorem CLa_nil:CLa []=nc:=by funext s;rfl
theorem mean_val(l:Cs){scope:Int}(hsc:scope=1∨scope=2∨scope=3)(al:List (List Nat×Int))(x:Ex){k:Int}(hwf:x.wf=true)(ht:x.ty (CLa l) scope=(k,0)):
  (foldS l scope x).val0 (vlA (VXa []) scope (vlsA al scope (atW scope)))=x.val0 (vlA (VXa l) scope (vlsA al scope (atW scope))):=by
 have hF:=foldS_ok l scope x hwf ht
 have hv:=fold_val (vxa_ok l) (vlA_ok l hsc al) (fun s h=>by unfold vlA;rw[(plA_none scope s).2 h]) x k hwf ht
 rw[←hv]
 refine val0_congr _ fun s hs=> ?_
 have hz:=occ_attr _ k hF.1 hF.2 hs
 unfold vlA
 cases hp:plA scope s with
 |none=>exact absurd ((plA_none scope s).1 hp) hz
 |some i=>rfl
theorem mean_idem(l:Cs){scope k:Int}(x:Ex)(hwf:x.wf=true)(ht:x.ty (CLa l) scope=(k,0)):foldS [] scope (foldS l scope x)=foldS l scope x:=by
 have:=fold_idem (vxa_ok l) (cxv (CLa []) (VXa [])) hwf ht
 unfold foldS
 rw[CLa_nil]at this ⊢
 exact this
end Go.Proofs.YtfenhjpkomldcaaGreat
namespace Go.Proofs.YtfenhjpkomldcaaGreat
open Go Go.Ev
theorem compT_sub(y:List Nat): ∀(l:List (List Nat)) (p:List Nat),y∈compT p l→y∈l
 | [],_,h=>by simp[compT]at h
 |z::l,p,h=>by
  rw[compT]at h
  split at h
  ·exact List.mem_cons_of_mem _ (compT_sub y l z h)
  ·rcases List.mem_cons.1 h with rfl|h
   ·exact List.mem_cons_self ..
   ·exact List.mem_cons_of_mem _ (compT_sub y l z h)
theorem compT_sup(y:List Nat): ∀(l:List (List Nat)) (p:List Nat),y∈l→y=p∨y∈compT p l
 |z::l,p,h=>by
  rw[compT]
  split
  ·rename_i e
   subst e
   rcases List.mem_cons.1 h with rfl|h
   ·exact .inl rfl
   ·exact compT_sup y l z h
  ·right
   rcases List.mem_cons.1 h with rfl|h
   ·exact List.mem_cons_self ..
   ·rcases compT_sup y l z h with rfl|h
    ·exact List.mem_cons_self ..
    ·exact List.mem_cons_of_mem _ h
theorem compN_mem(y:List Nat): ∀(l:List (List Nat)),y∈compN l↔y∈l
 | []=>by simp[compN]
 |z::l=>by
  rw[compN,List.mem_cons,List.mem_cons]
  constructor
  ·rintro(h|h)
   ·exact .inl h
   ·exact .inr (compT_sub y l z h)
  ·rintro(h|h)
   ·exact .inl h
   ·exact compT_sup y l z h
theorem usesL_mem(s:List Nat): ∀{xs:List Ex},s∈usesL xs↔ ∃x∈xs,s∈x.uses
 | []=>by simp[usesL]
 |x::xs=>by rw[usesL,List.mem_append,usesL_mem s (xs:=xs)];simp
theorem uses_occ(s:List Nat)(x:Ex):s∈x.uses↔x.occ s:=by
 induction x using Ex.ind with
 |h x ih=>
  rw[Ex.uses_eq,Ex.occ_eq,List.mem_append,usesL_mem,occL_mem]
  have e:(∃y∈x.args,s∈y.uses)↔ ∃y∈x.args,y.occ s:=⟨fun⟨y,hy,h⟩=>⟨y,hy,(ih y hy).1 h⟩,fun⟨y,hy,h⟩=>⟨y,hy,(ih y hy).2 h⟩⟩
  rw[e]
  by_cases h6:x.op=6
  ·rw[if_pos h6,List.mem_singleton]
   exact⟨fun h=>h.elim (fun h=> .inl ⟨h6,h.symm⟩) .inr,fun h=>h.elim (fun h=> .inl h.2.symm) .inr⟩
  ·rw[if_neg h6]
   simp[h6]
theorem usesN_mem(s:List Nat)(x:Ex):s∈x.usesN↔x.occ s:=by
 unfold Ex.usesN
 rw[compN_mem,←uses_occ]
 unfold sortN
 exact List.mem_mergeSort
mutual
theorem uses_le: ∀x:Ex,x.uses.length≤x.nodes
 | .mk op n s xs=>by
   rw[Ex.uses_eq,Ex.nodes_eq,List.length_append]
   have:=usesL_len xs
   show(if op=6 then [s]else []).length+(usesL xs).length≤1+nodesL xs
   split <;> simp <;> omega
theorem usesL_len: ∀xs:List Ex,(usesL xs).length≤nodesL xs
 | []=>by simp[usesL,nodesL]
 |x::xs=>by
  have h1:=uses_le x
  have h2:=usesL_len xs
  rw[usesL,nodesL,List.length_append];omega
end
theorem al_of(x:Ex):x.nodes≤100000→x.al:=by
 induction x using Ex.ind with
 |h x ih=>
  intro hn
  have h1:=x.nodes_eq
  have h2:=nodesL_len x.args
  refine(Ex.al_eq x).2 ⟨by unfold LimS;omega,alL_mem.2 fun y hy=>ih y hy ?_⟩
  have:=nodesL_mem hy
  omega
theorem mean_uses(l:Cs){scope:Int}{x:Ex}(hwf:x.wf=true): ∀s∈(foldS l scope x).usesN,s∈x.usesN:=fun s hs=>(usesN_mem s x).2 (fold_occ (s:=s) (cl:=CLa l) (vx:=VXa l) (scope:=scope) x hwf ((usesN_mem s _).1 hs))
theorem usesN_le(x:Ex):x.usesN.length≤x.nodes:=by
 unfold Ex.usesN
 exact Nat.le_trans (compN_le _) (by rw[sortN_len];exact uses_le x)
theorem avA_fst(xs:List Int)(scope:Int):(avA xs scope).map Prod.fst=atW scope:=by
 unfold avA avN
 rw[List.take_length,List.map_map]
 have:(Prod.fst ∘ fun p:List Nat×Nat=>(p.1,mdK (attrK scope p.1) (atV xs p.2)))=Prod.fst:=by funext p;rfl
 rw[this]
 generalize atW scope=ns
 apply List.ext_getElem
 ·simp
 ·intro i h1 h2
  simp
theorem lookA_some{s:List Nat}: ∀{m:List (List Nat×Int)},s∈m.map Prod.fst→ ∃v,lookA m s=some v
 | [],h=>by simp at h
 |p::m,h=>by
  rw[lookA]
  by_cases e:s=p.1
  ·rw[if_pos e];exact⟨_,rfl⟩
  ·rw[if_neg e]
   rw[List.map_cons,List.mem_cons]at h
   exact lookA_some (h.resolve_left e)
theorem atW_nd{scope:Int}(hsc:scope=1∨scope=2∨scope=3):(atW scope).Nodup∧(atW scope).length≤100:=by
 rcases hsc with rfl|rfl|rfl
 ·exact⟨dutyW_nd,by decide⟩
 ·exact⟨restW_nd,by decide⟩
 ·exact⟨pairW_nd,by decide⟩
end Go.Proofs.YtfenhjpkomldcaaGreat
