/- The program's reduce. A literal, cloned. The simplifier's search for a constant. The program's simplifier: the loop over arguments. The program's simplifier. The program's constants; Simplify. Conditions: the theorems' own. -/
import Derived.Test.YtfenhjpkomldcaaGreatM11
import Derived.KernelRfl
set_option maxRecDepth 100000
set_option linter.unusedSimpArgs false
set_option linter.unusedVariables false
set_option maxHeartbeats 16000000
namespace Go.Proofs.YtfenhjpkomldcaaGreat
open Go Go.Ev
theorem exs2{ys:List Ex}(h:ys.length=2): ∃x y,ys= [x,y]:=by
 match ys,h with
 | [x,y],_=>exact⟨x,y,rfl⟩
theorem exs3{ys:List Ex}(h:ys.length=3): ∃x y z,ys= [x,y,z]:=by
 match ys,h with
 | [x,y,z],_=>exact⟨x,y,z,rfl⟩
theorem exs1{ys:List Ex}(h:ys.length=1): ∃x,ys= [x]:=by
 match ys,h with
 | [x],_=>exact⟨x,rfl⟩
section
variable(lT:T)(m:List (List Nat×List T))
theorem redN_ev{op:Int}{ys:List Ex}(hall:ys.all isLit=false)(hwf:wfL ys=true)(h7:7≤op)(h22:op≤22)(har:arOk op ys.length=true)(hn:nodesL ys<100000)(a:T)(cc:List T)(ha:IsSl a ys.length cc)(hx:IsExs ys cc):
  ∃cs,DCall pE 100 [.ptr .S 8 1 0,.agg [.i .i64 op,.i .i64 0,.s [],a]] (smS lT m)=some (.agg cs,smS lT m)∧IsEx (redX op ys) cs:=by
 have hll:=nodesL_len ys
 have hcont:=cont_ev ys (wf_neg hwf) a cc ha hx (lim_of (by omega))
 rw[hall,Bool.not_false]at hcont
 have hnd:=node_is op ys a cc ha hx
 have hfz:froz (.fn 147 [] [])=true:=rfl
 have hfz0:froz (.fn 153 [] [])=true:=rfl
 have hfz1:froz (.fn 154 [] [])=true:=rfl
 have same: ∀op',op=op'→(op'=7∨op'=12∨op'=13∨op'=15∨op'=16∨op'=17∨op'=18)→redX op ys= .mk op 0 [] ys:=by
  rintro op' rfl ho
  match ys with
  | []=>rfl
  | [x]=>show(if op=19∧x.op=19 then _ else _)=_;rw[if_neg (by omega)]
  | [x,y]=>
    rw[redX_two];unfold red2
    rw[if_neg (by omega),if_neg (by omega),if_neg (by omega),if_neg (by omega),if_neg (by omega),if_neg (by omega),if_neg (by omega)]
  | [x,y,z]=>show(if op=14 then _ else _)=_;rw[if_neg (by omega)]
  |_::_::_::_::_=>rfl
 have hsame:(op=7∨op=12∨op=13∨op=15∨op=16∨op=17∨op=18)→ ∃cs,DCall pE 100 [.ptr .S 8 1 0,.agg [.i .i64 op,.i .i64 0,.s [],a]] (smS lT m)=some (.agg cs,smS lT m)∧IsEx (redX op ys) cs:=by
  intro ho
  rw[same op rfl ho,p_fun fn100 (by simp[c100])]
  rcases ho with rfl|rfl|rfl|rfl|rfl|rfl|rfl <;>
   (simp(maxDischargeDepth:=6) only[qF,qGO0,qGO1,qGO2,qGO3,qGO4,qGO5,splice,Nat.reduceAdd,reduceCtorEq,Nat.reduceLT,Nat.reduceEqDiff,Int.reduceEq,c100,hcont,dc146,ha.froz,hfz,ha.froz1];exact⟨_,rfl,hnd⟩)
 rcases op_cases (show 1≤op by omega) h22 with rfl|rfl|rfl|rfl|rfl|rfl|rfl|rfl|rfl|rfl|rfl|rfl|rfl|rfl|rfl|rfl|rfl|rfl|rfl|rfl|rfl|rfl
 iterate 6 ·omega
 ·exact hsame (by simp)
 ·obtain⟨x,y,rfl⟩:=exs2 (ys:=ys) (by simpa[arOk]using har)
  obtain⟨cs,hc,hcs⟩:=neutral_ev 8 153 zeroX true (fun z b hb d fr lh sh=>zero_do z b hb) x y a cc ha hx
  obtain⟨la,lc,rfl,hl1,hl2⟩:=hcs.cells
  rw[p_fun fn100 (by simp[c100])]
  simp(maxDischargeDepth:=6) only[qF,qGO0,qGO1,qGO2,qGO3,qGO4,qGO5,splice,Nat.reduceAdd,reduceCtorEq,Nat.reduceLT,Nat.reduceEqDiff,Int.reduceEq,c100,hcont,dc146,ha.froz,hfz,ha.froz1,hc,dc152,hfz0,hl1.froz1]
  exact⟨_,rfl,by simpa[redX_two,red2]using hcs⟩
 ·obtain⟨x,y,rfl⟩:=exs2 (ys:=ys) (by simpa[arOk]using har)
  obtain⟨cs,hc,hcs⟩:=neutral_ev 9 153 zeroX false (fun z b hb d fr lh sh=>zero_do z b hb) x y a cc ha hx
  obtain⟨la,lc,rfl,hl1,hl2⟩:=hcs.cells
  rw[p_fun fn100 (by simp[c100])]
  simp(maxDischargeDepth:=6) only[qF,qGO0,qGO1,qGO2,qGO3,qGO4,qGO5,splice,Nat.reduceAdd,reduceCtorEq,Nat.reduceLT,Nat.reduceEqDiff,Int.reduceEq,c100,hcont,dc146,ha.froz,hfz,ha.froz1,hc,dc152,hfz0,hl1.froz1]
  exact⟨_,rfl,by simpa[redX_two,red2]using hcs⟩
 ·obtain⟨x,y,rfl⟩:=exs2 (ys:=ys) (by simpa[arOk]using har)
  obtain⟨cs,hc,hcs⟩:=neutral_ev 10 154 oneX true (fun z b hb d fr lh sh=>one_do z b hb) x y a cc ha hx
  obtain⟨la,lc,rfl,hl1,hl2⟩:=hcs.cells
  rw[p_fun fn100 (by simp[c100])]
  simp(maxDischargeDepth:=6) only[qF,qGO0,qGO1,qGO2,qGO3,qGO4,qGO5,splice,Nat.reduceAdd,reduceCtorEq,Nat.reduceLT,Nat.reduceEqDiff,Int.reduceEq,c100,hcont,dc146,ha.froz,hfz,ha.froz1,hc,dc152,hfz1,hl1.froz1]
  exact⟨_,rfl,by simpa[redX_two,red2]using hcs⟩
 ·obtain⟨x,y,rfl⟩:=exs2 (ys:=ys) (by simpa[arOk]using har)
  obtain⟨cs,hc,hcs⟩:=neutral_ev 11 154 oneX false (fun z b hb d fr lh sh=>one_do z b hb) x y a cc ha hx
  obtain⟨la,lc,rfl,hl1,hl2⟩:=hcs.cells
  rw[p_fun fn100 (by simp[c100])]
  simp(maxDischargeDepth:=6) only[qF,qGO0,qGO1,qGO2,qGO3,qGO4,qGO5,splice,Nat.reduceAdd,reduceCtorEq,Nat.reduceLT,Nat.reduceEqDiff,Int.reduceEq,c100,hcont,dc146,ha.froz,hfz,ha.froz1,hc,dc152,hfz1,hl1.froz1]
  exact⟨_,rfl,by simpa[redX_two,red2]using hcs⟩
 ·exact hsame (by simp)
 ·exact hsame (by simp)
 ·obtain⟨x,y,z,rfl⟩:=exs3 (ys:=ys) (by simpa[arOk]using har)
  obtain⟨b0,r0,hia0,_,hf0,he0⟩:=argJ ha hx 0 (by simp) 0 rfl
  obtain⟨b1,r1,hia1,_,hf1,he1⟩:=argJ ha hx 1 (by simp) 1 rfl
  obtain⟨b2,r2,hia2,_,hf2,he2⟩:=argJ ha hx 2 (by simp) 2 rfl
  simp only[List.getElem_cons_zero,List.getElem_cons_succ]at hia0 hia1 hia2 he0 he1 he2
  rw[p_fun fn100 (by simp[c100])]
  show∃cs,_∧IsEx (if x.op=4 then y else if x.op=5 then z else .mk 14 0 [] [x,y,z]) cs
  by_cases a4:x.op=4
  ·simp(maxDischargeDepth:=6) only[qF,qGO0,qGO1,qGO2,qGO3,qGO4,qGO5,splice,Nat.reduceAdd,reduceCtorEq,Nat.reduceLT,Nat.reduceLeDiff,Nat.reduceEqDiff,Int.reduceEq,c100,hcont,dc146,ha.froz,hfz,hia0,hia1,hf1,a4]
   exact⟨_,rfl,he1⟩
  by_cases a5:x.op=5
  ·simp(maxDischargeDepth:=6) only[qF,qGO0,qGO1,qGO2,qGO3,qGO4,qGO5,splice,Nat.reduceAdd,reduceCtorEq,Nat.reduceLT,Nat.reduceLeDiff,Nat.reduceEqDiff,Int.reduceEq,c100,hcont,dc146,ha.froz,hfz,hia0,hia1,hia2,hf2,a5]
   exact⟨_,rfl,he2⟩
  ·simp(maxDischargeDepth:=6) only[qF,qGO0,qGO1,qGO2,qGO3,qGO4,qGO5,splice,Nat.reduceAdd,reduceCtorEq,Nat.reduceLT,Nat.reduceLeDiff,Nat.reduceEqDiff,Int.reduceEq,c100,hcont,dc146,ha.froz,hfz,ha.froz1,hia0,hia1,hia2,a4,a5]
   exact⟨_,rfl,hnd⟩
 iterate 4 ·exact hsame (by simp)
 ·obtain⟨x,rfl⟩:=exs1 (ys:=ys) (by simpa[arOk]using har)
  obtain⟨cs,h1,h2⟩:=red1_ev lT m x (by simpa using hall) (by rw[wfL,Bool.and_eq_true]at hwf;exact hwf.1) a cc ha hx
  refine⟨cs,h1, ?_⟩
  show IsEx (if(19:Int)=19∧x.op=19 then _ else _) cs
  simpa using h2
 ·obtain⟨x,y,rfl⟩:=exs2 (ys:=ys) (by simpa[arOk]using har)
  obtain⟨cs,hc,hcs⟩:=junction_ev 20 (.inl rfl) x y a cc ha hx
  obtain⟨la,lc,rfl,hl1,hl2⟩:=hcs.cells
  rw[p_fun fn100 (by simp[c100])]
  simp(maxDischargeDepth:=6) only[qF,qGO0,qGO1,qGO2,qGO3,qGO4,qGO5,splice,Nat.reduceAdd,reduceCtorEq,Nat.reduceLT,Nat.reduceEqDiff,Int.reduceEq,c100,hcont,dc146,ha.froz,hfz,ha.froz1,hc,dc150,hl1.froz1]
  exact⟨_,rfl,hcs⟩
 ·obtain⟨x,y,rfl⟩:=exs2 (ys:=ys) (by simpa[arOk]using har)
  obtain⟨cs,hc,hcs⟩:=junction_ev 21 (.inr rfl) x y a cc ha hx
  obtain⟨la,lc,rfl,hl1,hl2⟩:=hcs.cells
  rw[p_fun fn100 (by simp[c100])]
  simp(maxDischargeDepth:=6) only[qF,qGO0,qGO1,qGO2,qGO3,qGO4,qGO5,splice,Nat.reduceAdd,reduceCtorEq,Nat.reduceLT,Nat.reduceEqDiff,Int.reduceEq,c100,hcont,dc146,ha.froz,hfz,ha.froz1,hc,dc150,hl1.froz1]
  exact⟨_,rfl,hcs⟩
 ·obtain⟨x,y,rfl⟩:=exs2 (ys:=ys) (by simpa[arOk]using har)
  obtain⟨cs,hc,hcs⟩:=impl_ev lT m x y hall (by rw[wfL,Bool.and_eq_true]at hwf;exact hwf.1) a cc ha hx
  obtain⟨la,lc,rfl,hl1,hl2⟩:=hcs.cells
  rw[p_fun fn100 (by simp[c100])]
  simp(maxDischargeDepth:=6) only[qF,qGO0,qGO1,qGO2,qGO3,qGO4,qGO5,splice,Nat.reduceAdd,reduceCtorEq,Nat.reduceLT,Nat.reduceEqDiff,Int.reduceEq,qKP0,c100,hcont,dc146,ha.froz,hfz,ha.kept1,hc,dc151,hl1.froz1]
  exact⟨_,rfl,hcs⟩
end
end Go.Proofs.YtfenhjpkomldcaaGreat
namespace Go.Proofs.YtfenhjpkomldcaaGreat
open Go Go.Ev
theorem cl0_ev:DCall pE 143 [.nilsl] []=some (.nilsl,[]):=dcall_of (m:=20) (by_callK (by kernel_rfl))
theorem eqsl_sl{cs:List T}{n:Nat}{e:Bool}:eqT .sl (.sl cs n e) .nilsl=some false:=rfl
theorem eqsl_nil:eqT .sl .nilsl .nilsl=some true:=rfl
theorem cl1_ev(c0 c1 c2 c3:T)(ex:Bool):DCall pE 143 [.sl [c0,c1,c2,c3] 1 ex] []=some (.sl [c0,c1,c2,c3] 1 false,[]):=by
 rw[p_funO fn143 (by simp[c143])]
 have hr:1*56≤roomy:=by decide
 simp(maxDischargeDepth:=6) only[qF,qGO0,qGO1,qGO2,qGO3,qGO4,qGO5,appW,bslV,bslW,fills,repl,Nat.reduceAdd,reduceCtorEq,Nat.reduceLT,Nat.reduceLeDiff,Nat.reduceEqDiff,c143,eqsl_sl,bne_self_eq_false,roomy]
 exact ansO_isl (wm:=0) (by simp(maxDischargeDepth:=6) only[qGO2]) rfl (by decide)
theorem leafT_ev(op num:Int):DCall pE 98 [.agg [.i .i64 op,.i .i64 num,.s [],.nilsl]] []=some (.agg [.i .i64 op,.i .i64 num,.s [],.nilsl],[]):=by
 rw[p_fun fn98 (by simp[c98])]
 have h:=cl0_ev
 simp(maxDischargeDepth:=6) only[qF,qGO0,qGO1,qGO2,qGO3,qGO4,qGO5,splice,Nat.reduceAdd,Nat.reduceLT,Nat.reduceEqDiff,Int.reduceLT,c98,h,dc143,ownRes_nil,DC_loop,c98_L1]
theorem negT_ev(op num:Int)(ex:Bool):DCall pE 98 [.agg [.i .i64 7,.i .i64 0,.s [],.sl [.i .i64 op,.i .i64 num,.s [],.nilsl] 1 ex]] []=some (.agg [.i .i64 7,.i .i64 0,.s [],.sl [.i .i64 op,.i .i64 num,.s [],.nilsl] 1 false],[]):=by
 rw[p_fun fn98 (by simp[c98])]
 have h:=cl1_ev (.i .i64 op) (.i .i64 num) (.s []) .nilsl ex
 have hl:=leafT_ev op num
 have hall:([T.i .i64 op,T.i .i64 num,T.s [],T.nilsl]:List T).all scal1=true:=rfl
 have how:=fun d fr lh sh us=>ownRes_sl (d:=d) (len:=1) (us:=us) (ex:=false) (fr:=fr) (lh:=lh) (sh:=sh) hall (by simp)
 have hd:([T.i .i64 op,T.i .i64 num,T.s [],T.nilsl]:List T).length/1=4:=by simp
 simp only[hd]at how
 simp(maxDischargeDepth:=6) only[qF,qGO0,qGO1,qGO2,qGO3,qGO4,qGO5,Int.reduceAdd,Int.reduceNeg,splice,Nat.reduceAdd,Nat.reduceLT,Nat.reduceEqDiff,Int.reduceToNat,Int.reduceLE,Int.reduceLT,qDR0,getL,c98,h,dc143,how,DC_loop,c98_L1,hl,dc98,dd98]
theorem clone_ev{y:Ex}{cs:List T}(hT:LitT cs)(hx:IsEx y cs): ∃cs',DCall pE 98 [.agg cs] []=some (.agg cs',[])∧IsEx y cs'∧LitT cs':=by
 rcases hT with⟨op,num,rfl⟩|⟨ex,op,num,rfl⟩
 ·exact⟨_,leafT_ev op num,hx,.inl ⟨_,_,rfl⟩⟩
 ·refine⟨_,negT_ev op num ex, ?_,.inr ⟨_,_,_,rfl⟩⟩
  obtain⟨a,cc,e,h1,h2⟩:=hx.cells
  simp only[List.cons.injEq,T.i.injEq,T.s.injEq,true_and,and_true]at e
  obtain⟨e1,e2,e3,e4⟩:=e
  have hlen:y.args.length=1∧cc= [.i .i64 op,.i .i64 num,.s [],.nilsl]:=by
   rcases h1 with⟨h,_⟩|⟨ex',h⟩
   ·rw[h]at e4;cases e4
   ·rw[h]at e4;injection e4 with q1 q2 q3;exact⟨q2.symm,q1.symm⟩
  have:=IsEx.of (x:=y) (a:= .sl [.i .i64 op,.i .i64 num,.s [],.nilsl] 1 false) (cc:=cc) (Or.inr ⟨false,by rw[hlen.1,hlen.2]⟩) h2
  rw[←e1,←e2,←e3]at this
  exact this
end Go.Proofs.YtfenhjpkomldcaaGreat
namespace Go.Proofs.YtfenhjpkomldcaaGreat
open Go Go.Ev
theorem isName_ev(c:List Nat)(b0 b1 b2 b3:T)(s:List Nat)(h0:froz1 b0=true):DCall pE 145 [.agg [.s c,b0,b1,b2,b3],.vp [.s s]] []=some (.b (decide (c=s)),[]):=by
 rw[p_fun fn145 (by simp[c145])]
 simp(maxDischargeDepth:=6) only[qF,qGO0,qGO1,qGO2,qGO3,qGO4,qGO5,reduceCtorEq,Nat.reduceLT,Nat.reduceEqDiff,c145]
theorem ixf1(l:Cs)(s:List Nat)(a:T)(cc:List T)(ha:IsSl a l.length cc)(hc:IsCl l cc)(hs:l.length≤Lim)(o:Out)(ho:o=if idxC l s=none then .ext 0 else .ret)(fr:Fr)(lh:Tri Ent)(sh:List Ent)(h0:getF fr 0=a)(h1:getF fr 1= .fn 145 [] [.vp [.s s]])(h7:getF fr 7= .i .i64 (l.length:Int))(h8:getF fr 8= .i .i64 0):
  DC pE 19 (.loop c144_L1) ⟨fr,lh,sh⟩=some (o,⟨frL pE 19 c144_L1 fr lh sh,lhL pE 19 c144_L1 fr lh sh,shL pE 19 c144_L1 fr lh sh⟩)∧
  ((∀i,idxC l s=some i→getF (frL pE 19 c144_L1 fr lh sh) 4= .i .i64 (i:Int))∧lhL pE 19 c144_L1 fr lh sh=lh∧shL pE 19 c144_L1 fr lh sh=sh):=by
 refine loop_rule (P:=fun fr lh' sh'=>(∀i,idxC l s=some i→getF fr 4= .i .i64 (i:Int))∧lh'=lh∧sh'=sh) (loop_inv (fun k st=> ∃fr:Fr,st=⟨fr,lh,sh⟩∧getF fr 0=a∧getF fr 1= .fn 145 [] [.vp [.s s]]∧getF fr 7= .i .i64 (l.length:Int)∧getF fr 8= .i .i64 (k:Int)∧k≤l.length∧ ∀j (h:j<k) (hl:j<l.length),l[j].1≠s) _ l.length ?_ ?_ 0 _ (Nat.zero_le _) ⟨fr,rfl,h0,h1,h7,h8,Nat.zero_le _,by simp⟩)
 ·rintro k _ hk ⟨fr,rfl,h0,h1,h7,h8,hkl,hno⟩
  have hk':(k:Int)<l.length:=by omega
  have hw:=wr_succL (k:=k) (by omega)
  have hd:=idxC_drop k hkl hno
  rw[List.drop_eq_getElem_cons hk,idxC]at hd
  obtain⟨b,cb,r,hia,hb1,_,_⟩:=const_at ha hc k hk
  have hcall:=isName_ev l[k].1 (.i .i64 l[k].2.op) (.i .i64 l[k].2.num) (.s l[k].2.name) b s rfl
  by_cases hcc:l[k].1=s
  ·right
   rw[if_pos hcc]at hd
   rw[decide_eq_true hcc]at hcall
   simp only[Option.map_some,Nat.zero_add]at hd
   simp(maxDischargeDepth:=6) only[qF,qGO0,qGO1,qGO2,qGO3,qGO4,doCallV,reduceCtorEq,Nat.reduceLT,Nat.reduceLeDiff,Nat.reduceEqDiff,c144_L1,h0,h1,h7,h8,hk',hia,hcall,dc145,hb1.froz1]
   refine⟨_,_,(by simp:Out.ret≠ .nrm),rfl,by rw[ho,hd];rfl,fun i hi=> ?_,rfl,rfl⟩
   rw[hd]at hi
   cases hi
   simp(maxDischargeDepth:=6) only[qGO2]
  ·left
   rw[decide_eq_false hcc]at hcall
   simp(maxDischargeDepth:=6) only[qF,qGO0,qGO1,qGO2,qGO3,qGO4,doCallV,reduceCtorEq,Nat.reduceLT,Nat.reduceLeDiff,Nat.reduceEqDiff,c144_L1,h0,h1,h7,h8,hk',hia,hw,hcall,dc145,hb1.froz1]
   refine⟨_,rfl,_,rfl, ?_, ?_, ?_, ?_,by omega, ?_⟩
   all_goals first|(simp(maxDischargeDepth:=6) only[qGO2,qGO4,reduceCtorEq,Nat.reduceEqDiff,h0,h1,h7];done)|skip
   intro j hj hl
   by_cases e:j=k
   ·subst e;exact hcc
   ·exact hno j (by omega) hl
 ·rintro _ ⟨fr,rfl,h0,h1,h7,h8,hkl,hno⟩
  have hd:=idxC_drop l.length hkl hno
  rw[List.drop_length,idxC]at hd
  simp(maxDischargeDepth:=6) only[qGO0,qGO1,qGO2,qGO4,qGO5,Nat.reduceLT,c144_L1,h7,h8,Int.lt_irrefl]
  refine⟨_,_,(by simp:Out.ext 0≠ .nrm),rfl,by rw[ho,hd];rfl,fun i hi=> ?_,rfl,rfl⟩
  rw[hd]at hi;cases hi
theorem ixf_ev(l:Cs)(s:List Nat)(a:T)(cc:List T)(ha:IsSl a l.length cc)(hc:IsCl l cc)(hs:l.length≤Lim):DCall pE 144 [a,.fn 145 [] [.vp [.s s]]] []=some (.i .i64 (idxV l s),[]):=by
 have hL:=fun fr lh sh=>ixf1 l s a cc ha hc hs _ rfl fr lh sh
 rw[p_fun fn144 (by simp[c144])]
 cases hd:idxC l s with
 |none=>
  rw[idxV_none hd]
  simp only[hd,if_true,reduceCtorEq,false_implies,implies_true,true_and]at hL
  simp(maxDischargeDepth:=6) only[qF,qGO0,qGO1,qGO2,qGO3,qGO4,Int.reduceNeg,reduceCtorEq,Nat.reduceLT,Nat.reduceEqDiff,c144,ha.lenI,hL]
 |some i=>
  rw[idxV_some hd]
  simp only[hd,reduceCtorEq,if_false,Option.some.injEq,forall_eq']at hL
  simp(maxDischargeDepth:=6) only[qF,qGO0,qGO1,qGO2,qGO3,qGO4,Int.reduceNeg,reduceCtorEq,Nat.reduceLT,Nat.reduceEqDiff,c144,ha.lenI,hL]
theorem fzV_fnF{lh:Tri Ent}{sh:List Ent}{keep:Bool}{f k g wm:Nat}{cs:List T}{bx:Bool}(h:getO lh k=⟨g,.cells cs wm bx⟩)(hc:cs.all froz1=true):fzV lh sh keep (.fn f [] [.ptr .L k g 0])=some (.fn f [] [.vp cs],[(.L,k,⟨g,.cells cs cs.length bx⟩)]):=by
 unfold fzV fzFuel
 have hk:(keep&&Sp.L==Sp.S)=false:=by cases keep <;> rfl
 have h':(St.mk .nil lh sh).get .L k=⟨g,.cells cs wm bx⟩:=h
 have hm:mapQ (fz false 6) cs= .ret (cs,[]):=by
  clear h h'
  induction cs with
  |nil=>rfl
  |cons c cs ih=>
   rw[List.all_cons,Bool.and_eq_true]at hc
   simp only[mapQ,fz_froz1 hc.1,ih hc.2,Q.bind,List.append_nil]
 have hs:fz keep 8 (T.fn f [] [T.ptr .L k g 0])=(mapQ (fz keep 7) []).bind fun p=>(mapQ (fz keep 7) [T.ptr .L k g 0]).bind fun q=>Q.ret (T.fn f p.1 q.1,p.2++q.2):=rfl
 have hp:fz keep 7 (T.ptr .L k g 0)=if(keep&&Sp.L==Sp.S)=true then Q.ret (T.ptr .L k g 0,[])else Q.rd .L k fun e=>
   if e.g=g then match e.ob with
    | .cells cs _ bx=>(mapQ (fz false 6) (cs.drop 0)).bind fun q=> .ret (.vp q.1,q.2++ [(.L,k,⟨g,.cells cs cs.length bx⟩)])
    |_=> .fail
   else .fail:=rfl
 rw[hs]
 simp only[mapQ,Q.bind,hp,hk,Bool.false_eq_true,if_false,Q.run,h',if_true,List.drop_zero,hm,List.nil_append,List.append_nil]
end Go.Proofs.YtfenhjpkomldcaaGreat
namespace Go.Proofs.YtfenhjpkomldcaaGreat
open Go Go.Ev
def mOf(sh:List Ent):List (List Nat×List T):=
 match getE sh 0 with
 |⟨_,.map ks vs _⟩=>(ks.zip vs).map fun p=>((match p.1 with| .s s=>s|_=> []),(match p.2 with| .agg c=>c|_=> []))
 |_=> []
theorem mOf_sm(lT:T): ∀m,mOf (smS lT m)=m:=by
 intro m
 unfold mOf
 rw[sm0]
 simp only
 induction m with
 |nil=>rfl
 |cons p m ih=>rw[List.map_cons,List.map_cons,List.zip_cons_cons,List.map_cons,ih];rfl
noncomputable def mL(E:Env)(n:Nat)(a:ACode)(fr:Fr)(lh:Tri Ent)(sh:List Ent):List (List Nat×List T):=mOf (shL E n a fr lh sh)
theorem mL_ex{E:Env}{n:Nat}{a:ACode}{fr:Fr}{lh:Tri Ent}{sh:List Ent}{lT:T}{P:List (List Nat×List T)→Prop}(h: ∃m,shL E n a fr lh sh=smS lT m∧P m):shL E n a fr lh sh=smS lT (mL E n a fr lh sh)∧P (mL E n a fr lh sh):=by
 obtain⟨m,h1,h2⟩:=h
 have:mL E n a fr lh sh=m:=by unfold mL;rw[h1,mOf_sm]
 rw[this];exact⟨h1,h2⟩
theorem tyL_get{cl:List Nat→Int×Int}{scope:Int}: ∀{xs:List Ex} {ts:List Int},tyL cl scope xs= .ok ts→ ∀(k:Nat) (hk:k<xs.length),∃t,xs[k].ty cl scope=(t,0)
 | [],ts,h,k,hk=>by simp at hk
 |x::xs,ts,h,k,hk=>by
  obtain⟨t,us,rfl,e1,e2⟩:=tyL_cons h
  cases k with
  |zero=>exact⟨t,e1⟩
  |succ k=>exact tyL_get e2 k (by simpa using hk)
theorem foldL_FKs{cl:List Nat→Int×Int}{cx:List Nat→Ex}(hc:cxOk cl cx)(scope:Int): ∀{xs:List Ex} {ts:List Int},wfL xs=true→tyL cl scope xs= .ok ts→FKs scope ts (foldL cl cx scope xs)
 | [],ts,_,h=>by rw[tyL]at h;cases h;trivial
 |x::xs,ts,hw,h=>by
  obtain⟨t,us,rfl,e1,e2⟩:=tyL_cons h
  rw[wfL,Bool.and_eq_true]at hw
  exact⟨fold_ok hc scope x t hw.1 e1,foldL_FKs hc scope hw.2 e2⟩
theorem foldL_nodes{cl:List Nat→Int×Int}{cx:List Nat→Ex}(hc: ∀s,(cx s).nodes≤2)(scope:Int): ∀xs:List Ex,nodesL (foldL cl cx scope xs)≤2*nodesL xs
 | []=>by simp[foldL,nodesL]
 |x::xs=>by
  have h1:=fold_nodes (cl:=cl) hc scope x
  have h2:=foldL_nodes (cl:=cl) hc scope xs
  rw[foldL,nodesL,nodesL];omega
theorem foldL_len(cl:List Nat→Int×Int)(cx:List Nat→Ex)(scope:Int)(xs:List Ex):(foldL cl cx scope xs).length=xs.length:=by rw[foldL_map,List.length_map]
def foldSL(l:Cs)(scope:Int)(xs:List Ex):List Ex:=foldL (CLa l) (cxv (CLa l) (VXa l)) scope xs
theorem foldSL_map(l:Cs)(scope:Int)(xs:List Ex):foldSL l scope xs=xs.map (foldS l scope):=foldL_map _ _ _ _
theorem foldSL_len(l:Cs)(scope:Int)(xs:List Ex):(foldSL l scope xs).length=xs.length:=foldL_len _ _ _ _
section
variable(l:Cs)(lT:T)
def MapOk(m:List (List Nat×List T)):Prop:= ∀s cs,lookA m s=some cs→ ∃t,CLa l s=(t,0)∧IsEx (litX t (VXa l s)) cs∧LitT cs
def MFr(n:Nat)(m m':List (List Nat×List T)):Prop:= ∀s j,idxC l s=some j→n≤j→lookA m' s=lookA m s
def simpP(n:Nat)(scope:Int)(y:Ex):Prop:= ∀k m cs,MapOk l m→IsEx y cs→y.nodes≤200→y.wf=true→y.ty (CL l n) scope=(k,0)→
 ∃cs' m',DCall pE 54 [.ptr .S 8 1 0,.i .i64 scope,.agg cs] (smS lT m)=some (.agg cs',smS lT m')∧IsEx (foldS l scope y) cs'∧MapOk l m'∧MFr l n m m'∧(scope=0→LitT cs')
theorem simp1(n:Nat)(scope:Int)(xs:List Ex)(ih: ∀y∈xs,simpP l lT n scope y)(a:T)(cc:List T)(ha:IsSl a xs.length cc)(hx:IsExs xs cc)(hn:nodesL xs≤200)(hwf:wfL xs=true)(ts:List Int)(hty:tyL (CL l n) scope xs= .ok ts)(m:List (List Nat×List T))(hm:MapOk l m)(op:T)(g g9:Nat)(c6:Ent)(fr:Fr)(lh:Tri Ent)(sh:List Ent)(hsh:sh=smS lT m)
  (h0:getF fr 0= .ptr .S 8 1 0) (h1:getF fr 1= .i .i64 scope) (h9:getF fr 9= .ptr .L 9 g9 0) (h49:getF fr 49=a) (h50:getF fr 50= .i .i64 (xs.length:Int)) (h51:getF fr 51= .i .i64 0) (o6:getO lh 6=c6) (o9:getO lh 9=⟨g9,.cells [op,.i .i64 0,.s [],.isl .L 46 g 0 xs.length 4] 0 true⟩) (o46:getO lh 46=⟨g,.cells (repl [.i .i64 0,.i .i64 0,.s [],.nilsl] xs.length) 0 false⟩):
  DC pE 68 (.loop c54_L1) ⟨fr,lh,sh⟩=some (.ext 0,⟨frL pE 68 c54_L1 fr lh sh,lhL pE 68 c54_L1 fr lh sh,shL pE 68 c54_L1 fr lh sh⟩)∧
  (getO (lhL pE 68 c54_L1 fr lh sh) 6=c6∧getO (lhL pE 68 c54_L1 fr lh sh) 9=⟨g9,.cells [op,.i .i64 0,.s [],.isl .L 46 g 0 xs.length 4] 0 true⟩∧(∃cs,getO (lhL pE 68 c54_L1 fr lh sh) 46=⟨g,.cells cs 0 false⟩∧IsExs (foldSL l scope xs) cs)∧(∃m',shL pE 68 c54_L1 fr lh sh=smS lT m'∧MapOk l m'∧MFr l n m m')):=by
 refine loop_rule (P:=fun fr' lh' sh'=>getO lh' 6=c6∧getO lh' 9=⟨g9,.cells [op,.i .i64 0,.s [],.isl .L 46 g 0 xs.length 4] 0 true⟩∧(∃cs,getO lh' 46=⟨g,.cells cs 0 false⟩∧IsExs (foldSL l scope xs) cs)∧(∃m',sh'=smS lT m'∧MapOk l m'∧MFr l n m m'))
  (loop_inv (fun k st=> ∃(fr:Fr) (lh1:Tri Ent) (A:List T) (m1:List (List Nat×List T)),st=⟨fr,lh1,smS lT m1⟩∧getF fr 0= .ptr .S 8 1 0∧getF fr 1= .i .i64 scope∧getF fr 9= .ptr .L 9 g9 0∧getF fr 49=a∧getF fr 50= .i .i64 (xs.length:Int)∧getF fr 51= .i .i64 (k:Int)∧getO lh1 6=c6∧getO lh1 9=⟨g9,.cells [op,.i .i64 0,.s [],.isl .L 46 g 0 xs.length 4] 0 true⟩∧
    getO lh1 46=⟨g,.cells (A++repl [.i .i64 0,.i .i64 0,.s [],.nilsl] (xs.length-k)) 0 false⟩∧IsExs (foldSL l scope (xs.take k)) A∧MapOk l m1∧MFr l n m m1) _ xs.length ?_ ?_ 0 _ (Nat.zero_le _) ⟨fr,lh,[],m,by rw[hsh],h0,h1,h9,h49,h50,h51,o6,o9,by rw[o46];rfl,by rw[List.take_zero];exact IsExs.nil,hm,fun _ _ _ _=>rfl⟩)
 ·rintro k _ hk ⟨fr,lh1,A,m1,rfl,h0,h1,h9,h49,h50,h51,o6,o9,o46,hA,hm1,hfr1⟩
  left
  have hk':(k:Int)<xs.length:=by omega
  have hlen':=nodesL_len xs
  have hyk:=nodesL_mem (List.getElem_mem hk)
  have hw:=wr_succL (k:=k) (lim_of (by omega))
  obtain⟨b,cb,rr,hia,hb1,hb2,hb⟩:=arg_at ha hx k hk
  obtain⟨t,ht⟩:=tyL_get hty k hk
  obtain⟨cf,m2,hcall,hcf,hm2,hfr2,_⟩:=ih xs[k] (List.getElem_mem hk) t m1 _ hm1 hb (by omega) (wfL_mem.1 hwf _ (List.getElem_mem hk)) ht
  obtain⟨fa,fc,rfl,hf1,hf2⟩:=hcf.cells
  have hAl:A.length=k*4:=by rw[hA.len,foldSL_len];simp;omega
  generalize hy:foldS l scope xs[k]=y at*
  have hrl:(A++repl [T.i .i64 0,T.i .i64 0,T.s [],T.nilsl] (xs.length-k)).length=xs.length*4:=by rw[List.length_append,repl_len,hAl];simp;omega
  have hsp:splice (A++repl [T.i .i64 0,T.i .i64 0,T.s [],T.nilsl] (xs.length-k)) (k*4) [.i .i64 y.op,.i .i64 y.num,.s y.name,fa]=(A++ [.i .i64 y.op,.i .i64 y.num,.s y.name,fa])++repl [T.i .i64 0,T.i .i64 0,T.s [],T.nilsl] (xs.length-(k+1)):=by
   rw[show xs.length-k=(xs.length-(k+1))+1 by omega,repl_succ,splice_row A [T.i .i64 0,T.i .i64 0,T.s [],T.nilsl] _ [T.i .i64 y.op,T.i .i64 y.num,T.s y.name,fa] (k*4) hAl rfl]
  have hkl1:k*4+4≤xs.length*4:=by omega
  simp(maxDischargeDepth:=6) only[qF,qGO0,qGO1,qGO2,qGO3,qGO4,qGO5,splice,Nat.reduceAdd,reduceCtorEq,Nat.reduceLT,Nat.reduceLeDiff,Nat.reduceEqDiff,qDR0,getL,qKP0,c54_L1,h0,h1,h9,h49,h50,h51,o9,o46,hk',hia,hw,hcall,dc54,dd54,hb1.kept1,hf1.froz1,hk,hrl,hsp,hkl1]
  refine⟨_,rfl,_,_,A++ [.i .i64 y.op,.i .i64 y.num,.s y.name,fa],m2,rfl, ?_, ?_, ?_, ?_, ?_, ?_, ?_, ?_, ?_, ?_,hm2,fun s j h1 h2=>by rw[hfr2 s j h1 h2,hfr1 s j h1 h2]⟩
  all_goals first|(simp(maxDischargeDepth:=6) only[qGO2,qGO4,reduceCtorEq,Nat.reduceEqDiff,h0,h1,h9,h49,h50,o6,o9];done)|skip
  rw[List.take_succ_eq_append_getElem hk,foldSL_map,List.map_append,←foldSL_map,List.map_cons,hy]
  exact IsExs.append hA (IsExs.one hcf)
 ·rintro _ ⟨fr,lh1,A,m1,rfl,h0,h1,h9,h49,h50,h51,o6,o9,o46,hA,hm1,hfr1⟩
  rw[Nat.sub_self,show repl [T.i .i64 0,T.i .i64 0,T.s [],T.nilsl] 0= []from rfl,List.append_nil]at o46
  rw[List.take_length]at hA
  simp(maxDischargeDepth:=6) only[qGO0,qGO1,qGO2,qGO4,qGO5,Nat.reduceLT,c54_L1,h50,h51,Int.lt_irrefl]
  exact⟨_,_,(by simp:Out.ext 0≠ .nrm),rfl,rfl,o6,o9,⟨A,o46,hA⟩,m1,rfl,hm1,hfr1⟩
end
end Go.Proofs.YtfenhjpkomldcaaGreat
namespace Go.Proofs.YtfenhjpkomldcaaGreat
open Go Go.Ev
theorem MFr.mono{l:Cs}{n n':Nat}{m m':List (List Nat×List T)}(h:MFr l n m m')(hn:n≤n'):MFr l n' m m':=fun s j h1 h2=>h s j h1 (by omega)
theorem inKs0{l:Cs}{n:Nat}(hnl:n≤l.length): ∀{xs:List Ex} {ts:List Int},wfL xs=true→tyL (CL l n) 0 xs= .ok ts→(foldSL l 0 xs).all isLit=true
 | [],ts,_,_=>rfl
 |x::xs,ts,hw,h=>by
  obtain⟨t,us,rfl,e1,e2⟩:=tyL_cons h
  rw[wfL,Bool.and_eq_true]at hw
  have c1:=(fold_congr 0 (CL_le hnl) x t e1).1
  obtain⟨f1,f2⟩:=fold0 (vxa_ok l) 0 (fun s=>attrK_0 s) x t hw.1 c1
  show(isLit (foldS l 0 x)&&(foldSL l 0 xs).all isLit)=true
  rw[inKs0 hnl hw.2 e2,Bool.and_true]
  unfold foldS
  rw[f1];exact(litX_ok (scope:=0) f2).2.1
theorem tyL_le{l:Cs}{n:Nat}(hnl:n≤l.length){scope:Int}: ∀{xs:List Ex} {ts:List Int},tyL (CL l n) scope xs= .ok ts→tyL (CLa l) scope xs= .ok ts
 | [],ts,h=>h
 |x::xs,ts,h=>by
  obtain⟨t,us,rfl,e1,e2⟩:=tyL_cons h
  have c1:=(fold_congr scope (CL_le hnl) x t e1).1
  rw[tyL,c1,tyL_le hnl e2];rfl
section
variable(l:Cs)(lT:T)
def cstS(i:Nat):Prop:= ∀s t m,idxC l s=some i→CLa l s=(t,0)→MapOk l m→ ∃cs m',DCall pE 99 [.ptr .S 8 1 0,.s s] (smS lT m)=some (.agg cs,smS lT m')∧IsEx (litX t (VXa l s)) cs∧LitT cs∧MapOk l m'∧MFr l (i+1) m m'
theorem red_ev{n:Nat}(hnl:n≤l.length){scope k:Int}{x:Ex}(hwf:x.wf=true)(ht:x.ty (CL l n) scope=(k,0))(h6:x.op≠6)(hne:x.args.length≠0)(hn:x.nodes≤200)(X:List T)(hX:IsExs (foldSL l scope x.args) X)(m:List (List Nat×List T)):
  ∃cs,DCall pE 100 [.ptr .S 8 1 0,.agg [.i .i64 x.op,.i .i64 0,.s [],.sl X x.args.length false]] (smS lT m)=some (.agg cs,smS lT m)∧IsEx (foldS l scope x) cs∧(scope=0→LitT cs):=by
 obtain⟨h1,h2,har,hnum,hname,hwl⟩:=wf_node hwf
 have h7:=ar_pos h1 har hne
 obtain⟨ts,hts,hr,hk⟩:=ty_node ht h6
 have htsa:=tyL_le hnl hts
 have hys:FKs scope ts (foldSL l scope x.args):=foldL_FKs (cxv_ok (vxa_ok l)) scope hwl htsa
 have hlen:=foldSL_len l scope x.args
 have hnd:nodesL (foldSL l scope x.args)≤2*nodesL x.args:=foldL_nodes (fun s=>litX_nodes _ _) scope x.args
 have hxn:=x.nodes_eq
 have hta:=(fold_congr scope (CL_le hnl) x k ht).1
 have hsl:IsSl (.sl X x.args.length false) (foldSL l scope x.args).length X:=Or.inr ⟨false,by rw[hlen]⟩
 have hfold:foldS l scope x=if(foldSL l scope x.args).all isLit then litX k (apS x.op ((foldSL l scope x.args).map litV))else redX x.op (foldSL l scope x.args):=by
  unfold foldS
  rw[Ex.fold_eq,if_neg h6,if_neg (by simp;intro h;rw[h]at hne;exact hne rfl),hta]
  rfl
 rw[hfold]
 cases hall:(foldSL l scope x.args).all isLit with
 |true=>
  rw[if_pos rfl]
  obtain⟨cs,e1,e2,e3⟩:=redLit_ev lT hys hall h7 h2 (by rw[hlen];exact har) hr hk (by omega) (.sl X x.args.length false) X hsl hX m
  exact⟨cs,e1,e2,fun _=>e3⟩
 |false=>
  rw[if_neg (by simp)]
  obtain⟨cs,e1,e2⟩:=redN_ev lT m hall hys.wf h7 h2 (by rw[hlen];exact har) (by omega) (.sl X x.args.length false) X hsl hX
  refine⟨cs,e1,e2,fun h0=> ?_⟩
  subst h0
  rw[inKs0 hnl hwl hts]at hall;cases hall
theorem simp_ev(n:Nat)(hnl:n≤l.length)(hc: ∀j,j<n→cstS l lT j)(scope:Int)(x:Ex):simpP l lT n scope x:=by
 induction x using Ex.ind with
 |h x ih=>
  intro k m cs hm hx hn hwf ht
  obtain⟨a,cc,rfl,ha,hxs⟩:=hx.cells
  obtain⟨h1,h2,har,hnum,hname,hwl⟩:=wf_node hwf
  have hnd:=x.nodes_eq
  rw[p_fun fn54 (by simp[c54])]
  by_cases h6:x.op=6
  ·have hat:=pattr_ev scope x.name
   unfold attrE at hat
   rw[Ex.ty_eq,if_pos h6]at ht
   by_cases hz:attrK scope x.name=0
   ·rw[if_neg (by simp[hz])]at ht
    rw[if_pos hz,hz]at hat
    obtain⟨i,hil,hin,hidx,_,_,hcla,_⟩:=CL_some hnl ht
    obtain⟨c1,m1,hcall,hc1,hT,hm1,hfr⟩:=hc i hin x.name k m hidx hcla hm
    obtain⟨c2,hclone,hc2,hT2⟩:=clone_ev hT hc1
    have hfold:foldS l scope x=litX k (VXa l x.name):=by
     unfold foldS
     rw[Ex.fold_eq,if_pos h6,if_neg (by simp[hz])];unfold cxv;rw[hcla]
    rw[hfold]
    generalize litX k (VXa l x.name)=y at*
    obtain⟨ca,cb,rfl,hq1,hq2⟩:=hc1.cells
    obtain⟨da,db,rfl,hr1,hr2⟩:=hc2.cells
    simp(maxDischargeDepth:=6) only[qF,qGO0,qGO1,qGO2,qGO3,qGO4,qGO5,buildV,splice,fills,Nat.reduceAdd,reduceCtorEq,Nat.reduceLT,Nat.reduceLeDiff,Nat.reduceEqDiff,Int.reduceEq,qKP0,c54,h6,hat,dc89,hcall,dc99,hclone,dc98,hq1.froz1,hr1.froz1]
    exact⟨_,m1,rfl,hc2,hm1,hfr.mono (by omega),fun _=>hT2⟩
   ·rw[if_neg hz]at hat
    have hfold:foldS l scope x=x:=by
     unfold foldS
     rw[Ex.fold_eq,if_pos h6,if_pos hz]
    rw[hfold]
    rw[h6]at hnum har
    have hnum0:x.num=0:=by simp[mostN]at hnum;omega
    have hlen0:x.args.length=0:=by simpa[arOk]using har
    have hxe:IsEx x [.i .i64 6,.i .i64 0,.s x.name,.nilsl]:=by
     have:=IsEx.of (x:=x) (a:= .nilsl) (cc:= []) (by rw[hlen0];exact nil_is) (by rw[List.length_eq_zero_iff.1 hlen0];exact IsExs.nil)
     rw[h6,hnum0]at this;exact this
    simp(maxDischargeDepth:=6) only[qF,qGO0,qGO1,qGO2,qGO3,qGO4,qGO5,buildV,splice,fills,Nat.reduceAdd,reduceCtorEq,Nat.reduceLT,Nat.reduceLeDiff,Nat.reduceEqDiff,c54,h6,hat,dc89]
    exact⟨_,m,rfl,hxe,hm,fun _ _ _ _=>rfl,fun h0=>by rw[h0]at hz;exact absurd (attrK_0 _) hz⟩
  ·rw[if_neg h6]at hname
   by_cases hlen0:x.args.length=0
   ·have hfold:foldS l scope x=x:=by
     unfold foldS
     rw[Ex.fold_eq,if_neg h6,if_pos (by simp[List.length_eq_zero_iff.1 hlen0])]
    rw[hfold]
    have hxe:IsEx x [.i .i64 x.op,.i .i64 x.num,.s [],.nilsl]:=by
     have:=IsEx.of (x:=x) (a:= .nilsl) (cc:= []) (by rw[hlen0];exact nil_is) (by rw[List.length_eq_zero_iff.1 hlen0];exact IsExs.nil)
     rw[hname]at this;exact this
    have hal:=ha.lenI
    rw[hlen0]at hal
    simp(maxDischargeDepth:=6) only[qF,qGO0,qGO1,qGO2,qGO3,qGO4,qGO5,buildV,splice,fills,Nat.reduceAdd,reduceCtorEq,Nat.reduceLT,Nat.reduceLeDiff,Nat.reduceEqDiff,c54,h6,hal]
    exact⟨_,m,rfl,hxe,hm,fun _ _ _ _=>rfl,fun _=> .inl ⟨_,_,rfl⟩⟩
   ·obtain⟨ts,hts,hr,hk⟩:=ty_node ht h6
    have hll:=nodesL_len x.args
    have hlim:x.args.length≤Lim:=lim_of (by omega)
    have hmk:x.args.length*56≤roomy∧x.args.length≤roomy:=by unfold Lim at hlim;unfold roomy;omega
    have hL0:=fun c6 fr lh sh hsh h0 h1 h9 h49 h50 h51 o6 o9 o46=>simp1 l lT n scope x.args (fun y hy=>ih y hy) a cc ha hxs (by omega) hwl ts hts m hm (.i .i64 x.op) 1 1 c6 fr lh sh hsh h0 h1 h9 h49 h50 h51 o6 o9 o46
    have hL1:=fun fr lh sh hsh h0 h1 h9 h49 h50 h51 o6 o9 o46=>hL0 ⟨1,.cells [.i .i64 0,.i .i64 0,.s [],.nilsl] 0 true⟩ fr lh sh hsh h0 h1 h9 h49 h50 h51 o6 o9 o46
    have hL:=fun fr lh sh hsh h0 h1 h9 h49 h50 h51 o6 o9 o46=>And.intro (hL1 fr lh sh hsh h0 h1 h9 h49 h50 h51 o6 o9 o46).1 (And.intro (hL1 fr lh sh hsh h0 h1 h9 h49 h50 h51 o6 o9 o46).2.1 (And.intro (hL1 fr lh sh hsh h0 h1 h9 h49 h50 h51 o6 o9 o46).2.2.1 (And.intro (row_ex (hL1 fr lh sh hsh h0 h1 h9 h49 h50 h51 o6 o9 o46).2.2.2.1).1 (mL_ex (hL1 fr lh sh hsh h0 h1 h9 h49 h50 h51 o6 o9 o46).2.2.2.2).1)))
    have hF:=fun fr lh sh hsh h0 h1 h9 h49 h50 h51 o6 o9 o46=>(row_ex (hL1 fr lh sh hsh h0 h1 h9 h49 h50 h51 o6 o9 o46).2.2.2.1).2
    have hM:=fun fr lh sh hsh h0 h1 h9 h49 h50 h51 o6 o9 o46=>(mL_ex (hL1 fr lh sh hsh h0 h1 h9 h49 h50 h51 o6 o9 o46).2.2.2.2).2
    have hlenF:=fun fr lh sh hsh h0 h1 h9 h49 h50 h51 o6 o9 o46=>(hF fr lh sh hsh h0 h1 h9 h49 h50 h51 o6 o9 o46).len
    rw[foldSL_len]at hlenF
    have hne': ¬(x.args.length:Int)=0:=by omega
    simp(maxDischargeDepth:=6) only[qF,qGO0,qGO1,qGO2,qGO3,qGO4,qGO5,Nat.reduceShiftRight,Nat.reduceMod,buildV,mkslV,mkOk,splice,fills,Nat.reduceAdd,reduceCtorEq,Nat.reduceLT,Nat.reduceLeDiff,Nat.reduceEqDiff,qDR0,qDR1,getL,qDX0,qKP0,c54,c54_L1_w,h6,ha.lenI,hne',hmk,hL,hlenF,dp100]
    generalize hX:rowC _ _=X
    generalize hMX:mL _ _ _ _ _ _=m'
    have hXF:IsExs (foldSL l scope x.args) X:=by
     rw[←hX]
     refine hF _ _ _ rfl ?_ ?_ ?_ ?_ ?_ ?_ ?_ ?_ ?_ <;> simp(maxDischargeDepth:=6) only[qGO2,qGO4,reduceCtorEq,Nat.reduceEqDiff]
    have hMF:MapOk l m'∧MFr l n m m':=by
     rw[←hMX]
     refine hM _ _ _ rfl ?_ ?_ ?_ ?_ ?_ ?_ ?_ ?_ ?_ <;> simp(maxDischargeDepth:=6) only[qGO2,qGO4,reduceCtorEq,Nat.reduceEqDiff]
    have hXl:=hXF.len
    rw[foldSL_len]at hXl
    rw[←hXl,List.take_length]
    obtain⟨c1,hcall,hc1,hT⟩:=red_ev l lT hnl hwf ht h6 hlen0 hn X hXF m'
    generalize foldS l scope x=y at*
    obtain⟨ca,cb,rfl,hq1,hq2⟩:=hc1.cells
    simp(maxDischargeDepth:=6) only[qF,qGO0,qGO1,qGO2,qGO3,qGO4,qGO5,Nat.reduceShiftRight,Nat.reduceMod,splice,Nat.reduceAdd,reduceCtorEq,Nat.reduceEqDiff,c54_L1_w,hL,hcall,hq1.froz1]
    exact⟨_,m',rfl,hc1,hMF.1,hMF.2,hT⟩
end
end Go.Proofs.YtfenhjpkomldcaaGreat
namespace Go.Proofs.YtfenhjpkomldcaaGreat
open Go Go.Ev
theorem validE_of{x:Ex}(hw:x.wf=true)(hn:x.nodes≤200)(hd:x.depth≤16):validE x=0:=by
 unfold validE
 rw[if_neg (by unfold big;omega),if_pos hw]
section
variable(l:Cs)(lT:T)(cl:List T)(hl:IsSl lT l.length cl)(hcl:IsCl l cl)(hlen:l.length≤Lim)(hsm:smC l)
include hl hcl hlen hsm
theorem pcst_ev: ∀i,i<l.length→cstS l lT i:=by
 have _:=hsm
 intro i
 induction i using Nat.strongRecOn with
 |ind i ih=>
  intro hi s t m hidx hcla hm
  have hlk:lkIn (.one .str) (m.map fun p=>sK p.1) (m.map fun p=>T.agg p.2) (.s s) (.agg [.i .i64 0,.i .i64 0,.s [],.nilsl]) true=_:=lk_A (kT:=sK) (vT:=T.agg) heqS (fun _=>rfl) m s (.agg [.i .i64 0,.i .i64 0,.s [],.nilsl])
  rw[p_fun fn99 (by simp[c99])]
  cases hq:lookA m s with
  |some cs=>
   obtain⟨t',hcla',hcs,hT⟩:=hm s cs hq
   rw[hcla]at hcla'
   injection hcla' with e1 e2
   subst e1
   rw[hq]at hlk
   simp only at hlk
   generalize litX t (VXa l s)=y at*
   obtain⟨ca,cb,rfl,hq1,hq2⟩:=hcs.cells
   simp(maxDischargeDepth:=6) only[qF,qGO0,qGO1,qGO2,qGO3,qGO4,qGO5,lkV,splice,Nat.reduceAdd,reduceCtorEq,Nat.reduceLT,Nat.reduceEqDiff,qDR0,qDR1,getL,c99,sm8,sm0,lkE_map,hlk,hq1.froz1]
   exact⟨_,m,rfl,hcs,hT,hm,fun _ _ _ _=>rfl⟩
  |none=>
   rw[hq]at hlk
   simp only at hlk
   obtain⟨i',hi',hidx',hv,ht,_,hfs,hin,_,_⟩:=foldS_const hcla
   rw[hidx]at hidx'
   cases hidx'
   obtain⟨b,cb,r,hia,hb1,hb2,hb⟩:=const_at hl hcl i hi
   obtain⟨cs,m',hcall,hcs,hm',hfr,hT⟩:=simp_ev l lT i (Nat.le_of_lt hi) (fun j hj=>ih j hj (by omega)) 0 l[i].2 t m _ hm hb (valid_size hv).1 (valid_wf hv) ht
   rw[hfs]at hcs
   have hT:=hT rfl
   have hix:=ixf_ev l s lT cl hl hcl hlen
   rw[idxV_some hidx]at hix
   have hneg: ¬(i:Int)<0:=by omega
   have hc1:([T.s s]:List T).all froz1=true:=rfl
   have hpf:=fun lh sh keep (h:getO lh 3=⟨1,.cells [.s s] 0 true⟩)=>fzV_fnF (f:=145) (sh:=sh) (keep:=keep) h hc1
   have hno:lookA m' s=none:=by rw[hfr s i hidx (Nat.le_refl _),hq]
   have hput:putK (.one .str) (.s s) (.agg cs) (m'.map fun p=>sK p.1) (m'.map fun p=>T.agg p.2)=_:=put_A (kT:=sK) (vT:=T.agg) heqS m' s cs hno
   have hMok:MapOk l (m'++ [(s,cs)]):=by
    intro s' c' h'
    rw[lookA_app]at h'
    cases h2:lookA m' s' with
    |some u=>rw[h2]at h';cases h';exact hm' s' _ h2
    |none=>
     rw[h2]at h'
     simp only at h'
     split at h'
     ·rename_i e;subst e;cases h';exact⟨t,hcla,hcs,hT⟩
     ·cases h'
   have hFr:MFr l (i+1) m (m'++ [(s,cs)]):=by
    intro s' j hj hle
    rw[lookA_app,hfr s' j hj (by omega)]
    cases lookA m s' with
    |some u=>rfl
    |none=>
     simp only
     rw[if_neg]
     intro e;subst e
     rw[hidx]at hj;cases hj;omega
   generalize litX t (VXa l s)=y at*
   obtain⟨ca,cb',rfl,hq1,hq2⟩:=hcs.cells
   simp(maxDischargeDepth:=6) only[qF,qGO0,qGO1,qGO2,qGO3,qGO4,qGO5,buildV,lkV,splice,fills,Nat.reduceAdd,reduceCtorEq,Nat.reduceLT,Nat.reduceLeDiff,Nat.reduceEqDiff,qDR0,qDR1,getL,qKP0,c99,sm8,sm0,lkE_map,hlk,hl.froz,hpf,hix,dp144,hneg,hia,hb1.kept1,hcall,dc54,hq1.froz1,key_s,hput,sm0s]
   exact⟨_,_,rfl,hcs,hT,hMok,hFr⟩
end
end Go.Proofs.YtfenhjpkomldcaaGreat
