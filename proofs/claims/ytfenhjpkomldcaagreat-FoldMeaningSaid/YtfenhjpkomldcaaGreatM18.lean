/- FoldMeaning. Conditions: the theorems' own. -/
import Derived.Test.YtfenhjpkomldcaaGreatM17
import Derived.KernelRfl
set_option maxRecDepth 100000
set_option linter.unusedSimpArgs false
set_option linter.unusedVariables false
set_option maxHeartbeats 16000000
namespace Go.Proofs.YtfenhjpkomldcaaGreat
open Go Go.Ev
theorem nth_s{L:List (List Nat)}{v:T}(h:IsSl v L.length (L.map T.s))(k:Nat)(hk:k<L.length):iaV v (.i .i64 (k:Int)) 1=some (.vp (((L.map T.s).drop k)))∧((L.map T.s).drop k)= .s L[k]::(L.map T.s).drop (k+1):=by
 refine⟨by rw[h.ia (sz:=1) (by simp) hk,Nat.mul_one], ?_⟩
 rw[List.drop_eq_getElem_cons (by simpa using hk),List.getElem_map]
theorem eqT_ii{a b:Int}:eqT (.flat [.int,.int]) (.agg [.i .i64 a,.i .i64 b]) (.agg [.i .i64 a,.i .i64 b])=some true:=by
 simp[eqT,eqCells,eqCell]
theorem dec_or(s:List Nat)(L:List (List Nat))(k:Nat)(hk:k<L.length):decide (s∈L.take (k+1))=(decide (s∈L.take k)||decide (L[k]=s)):=by
 have h:(s∈L.take (k+1))↔(s∈L.take k∨L[k]=s):=by rw[List.take_succ_eq_append_getElem hk,List.mem_append,List.mem_singleton,eq_comm (a:=s)]
 rw[decide_eq_decide.2 h,Bool.decide_or]
theorem fm1(U V:List (List Nat))(u v:T)(hu:IsSl u U.length (U.map T.s))(hv:IsSl v V.length (V.map T.s))(hU:U.length≤100000)(i:Nat)(hi:i<V.length)(fr:Fr)(lh:Tri Ent)(sh:List Ent)
  (h20:getF fr 20=u) (h21:getF fr 21=v) (h22:getF fr 22= .i .i64 (i:Int)) (h23:getF fr 23= .b false) (h24:getF fr 24= .i .i64 0):
  DC pE 126 (.loop c14_L1) ⟨fr,lh,sh⟩=some (.ext 2,⟨frL pE 126 c14_L1 fr lh sh,lhL pE 126 c14_L1 fr lh sh,shL pE 126 c14_L1 fr lh sh⟩)∧
  (getF (frL pE 126 c14_L1 fr lh sh) 23= .b (decide (V[i]∈U))∧lhL pE 126 c14_L1 fr lh sh=lh∧shL pE 126 c14_L1 fr lh sh=sh):=by
 obtain⟨ib,hd⟩:=nth_s hv i hi
 rw[hd]at ib
 generalize hs:V[i]=s at*
 refine loop_rule (P:=fun fr' lh' sh'=>getF fr' 23= .b (decide (s∈U))∧lh'=lh∧sh'=sh)
  (loop_inv (fun k st=> ∃(fr:Fr),st=⟨fr,lh,sh⟩∧getF fr 20=u∧getF fr 21=v∧getF fr 22= .i .i64 (i:Int)∧getF fr 23= .b (decide (s∈U.take k))∧getF fr 24= .i .i64 (k:Int)) _ U.length ?_ ?_ 0 _ (Nat.zero_le _) ⟨fr,rfl,h20,h21,h22,by rw[h23];simp,h24⟩)
 ·rintro k _ hk ⟨fr,rfl,h20,h21,h22,h23,h24⟩
  left
  have hk':(k:Int)<U.length:=by omega
  have hw:=wr_succL (k:=k) (lim_of (by omega))
  obtain⟨ia,hd'⟩:=nth_s hu k hk
  rw[hd']at ia
  rw[dec_or s U k hk]
  generalize decide (s∈U.take k)=q at h23 ⊢
  cases q
  ·simp(maxDischargeDepth:=6) only[qGO0,qGO1,qGO2,qGO3,qGO4,backD,calmOp,Nat.reduceAdd,Nat.reduceLT,Nat.reduceEqDiff,c14_L1,h20,h21,h22,h23,h24,hu.lenI,hk',ia,ib,hw]
   refine⟨_,rfl,_,rfl, ?_, ?_, ?_, ?_, ?_⟩
   all_goals (simp(maxDischargeDepth:=6) only[qGO2,qGO4,Nat.reduceEqDiff,h20,h21,h22,Bool.false_or])
  ·simp(maxDischargeDepth:=6) only[qGO0,qGO1,qGO2,qGO3,qGO4,backD,calmOp,Nat.reduceAdd,Nat.reduceLT,Nat.reduceEqDiff,c14_L1,h20,h23,h24,hu.lenI,hk',hw]
   refine⟨_,rfl,_,rfl, ?_, ?_, ?_, ?_, ?_⟩
   all_goals (simp(maxDischargeDepth:=6) only[qGO2,qGO4,Nat.reduceEqDiff,h20,h21,h22,Bool.true_or])
 ·rintro _ ⟨fr,rfl,h20,h21,h22,h23,h24⟩
  rw[List.take_length]at h23
  simp(maxDischargeDepth:=6) only[qGO0,qGO1,qGO2,qGO4,qGO5,Nat.reduceLT,Nat.reduceEqDiff,c14_L1,h20,h24,hu.lenI,Int.lt_irrefl]
  refine⟨_,_,(by simp:Out.ext 2≠ .nrm),rfl,rfl, ?_,rfl,rfl⟩
  simp(maxDischargeDepth:=6) only[qGO2,qGO4,Nat.reduceEqDiff,h23]
theorem fm2(U V:List (List Nat))(u v:T)(hu:IsSl u U.length (U.map T.s))(hv:IsSl v V.length (V.map T.s))(hU:U.length≤100000)(hV:V.length≤100000)(hsub: ∀s∈V,s∈U)(fr:Fr)(lh:Tri Ent)(sh:List Ent)
  (h20:getF fr 20=u) (h21:getF fr 21=v) (h22:getF fr 22= .i .i64 0):
  DC pE 126 (.loop c14_L2) ⟨fr,lh,sh⟩=some (.ext 0,⟨frL pE 126 c14_L2 fr lh sh,lhL pE 126 c14_L2 fr lh sh,shL pE 126 c14_L2 fr lh sh⟩)∧
  (shL pE 126 c14_L2 fr lh sh=sh):=by
 refine loop_rule (P:=fun fr' lh' sh'=>sh'=sh)
  (loop_inv (fun k st=> ∃(fr:Fr),st=⟨fr,lh,sh⟩∧getF fr 20=u∧getF fr 21=v∧getF fr 22= .i .i64 (k:Int)) _ V.length ?_ ?_ 0 _ (Nat.zero_le _) ⟨fr,rfl,h20,h21,h22⟩)
 ·rintro k _ hk ⟨fr,rfl,h20,h21,h22⟩
  left
  have hk':(k:Int)<V.length:=by omega
  have hw:=wr_succL (k:=k) (lim_of (by omega))
  have hL:=fun fr lh sh h20 h21 h22 h23 h24=>fm1 U V u v hu hv hU k hk fr lh sh h20 h21 h22 h23 h24
  have hm:decide (V[k]∈U)=true:=decide_eq_true (hsub _ (List.getElem_mem hk))
  rw[hm]at hL
  simp(maxDischargeDepth:=6) only[qGO0,qGO1,qGO2,qGO3,qGO4,Nat.reduceShiftRight,Nat.reduceMod,Nat.reduceLT,Nat.reduceEqDiff,c14_L2,c14_L1_w,h20,h21,h22,hv.lenI,hk',hw,hL]
  refine⟨_,rfl,_,rfl, ?_, ?_, ?_⟩
  all_goals (simp(maxDischargeDepth:=6) only[qGO0,qGO2,qGO4,Nat.reduceShiftRight,Nat.reduceMod,Nat.reduceEqDiff,c14_L1_w,h20,h21])
 ·rintro _ ⟨fr,rfl,h20,h21,h22⟩
  simp(maxDischargeDepth:=6) only[qGO0,qGO1,qGO2,qGO4,qGO5,Nat.reduceLT,Nat.reduceEqDiff,c14_L2,h21,h22,hv.lenI,Int.lt_irrefl]
  exact⟨_,_,(by simp:Out.ext 0≠ .nrm),rfl,rfl,rfl⟩
def mulT:T:= .sl [.i .i64 6,.i .i64 0,.s [116,119,111],.nilsl,.i .i64 2,.i .i64 45,.s [],.nilsl] 2 true
def l0c:List T:= [.s [116,119,111],.i .i64 1,.i .i64 2,.s [],.nilsl,.s [115,104,105,102,116,95,116,105,109,101],.i .i64 10,.i .i64 0,.s [],mulT]
theorem l0_is:IsCl l0F l0c:=by
 refine⟨[.i .i64 1,.i .i64 2,.s [],.nilsl],[.s [115,104,105,102,116,95,116,105,109,101],.i .i64 10,.i .i64 0,.s [],mulT],rfl,leaf_is _ _ _ nil_is, ?_⟩
 refine⟨[.i .i64 10,.i .i64 0,.s [],mulT],[],rfl, ?_,rfl⟩
 exact node_is 10 _ mulT _ (Or.inr ⟨true,rfl⟩) (IsExs.cons (name_is _) (IsExs.cons (leaf_is _ _ _ nil_is) IsExs.nil))
theorem l0_sm:smC l0F:=by
 intro c hc
 simp only[l0F,List.mem_cons,List.not_mem_nil,or_false]at hc
 rcases hc with rfl|rfl
 ·exact⟨Nat.zero_le _,leaf_sm _ _⟩
 ·exact⟨Nat.zero_le _,sm3 ⟨name_sm _ (by decide),leaf_sm _ _,trivial⟩⟩
theorem nil_sm:smC []:=by intro c hc;cases hc
theorem l0_ev:DCall pE 17 [] []=some (.sl l0c 2 true,[]):=dcall_of (m:=20) (by_callK (by kernel_rfl))
theorem l0_sl:IsSl (.sl l0c 2 true) l0F.length l0c:=Or.inr ⟨true,rfl⟩
theorem lsame_ev(x:Ex)(cs cs':List T)(h1:IsEx x cs)(h2:IsEx x cs')(hn:x.nodes≤100000):DCall pE 19 [.agg cs,.agg cs'] []=some (.b true,[]):=by
 have h:=same_ev x cs cs' h1 h2 hn
 obtain⟨a,cc,rfl,ha,hxs⟩:=h1.cells
 obtain⟨a',cc',rfl,ha',hxs'⟩:=h2.cells
 rw[p_fun fn19 (by simp[c19])]
 simp(maxDischargeDepth:=6) only[qF,qGO0,qGO1,qGO2,qGO3,qGO4,qGO5,Nat.reduceAdd,reduceCtorEq,Nat.reduceLT,Nat.reduceEqDiff,c19,h,dc60,ha.froz1,ha'.froz1]
theorem fm_ev(xs ys:List Int)(lT mT:T)(hl:IsSl lT xs.length (ints xs))(hm:IsSl mT ys.length (ints ys))(sc kd:Int): ∃s,DCall pE 14 [lT,mT,.i .i64 sc,.i .i64 kd] []=some (.b true,s):=by
 have m3:(sc%256).tmod 3=sc%256%3:=tmod_nn (by omega)
 obtain⟨scope,hw1,hsc⟩: ∃scope:Int,wr .i64 (1+sc%256%3)=scope∧(scope=1∨scope=2∨scope=3):=⟨1+sc%256%3,wr64 (by omega),by omega⟩
 obtain⟨kind,hw2,hkd⟩: ∃kind:Int,wr .i64 (1+kd%4)=kind∧(kind=1∨kind=2∨kind=3∨kind=4):=⟨1+kd%4,wr64 (by omega),by omega⟩
 obtain⟨x,cs,s,hx0,hx,hn,hs,hg⟩:=bexprT_ev xs lT hl scope hsc kind hkd
 have hwf:=hg.1
 have hty:=hg.2.1
 have hdp:=hg.2.2
 have hv:validE x=0:=validE_of hwf (by omega) (by omega)
 have htS:typeS l0F scope x=(kind,0):=by unfold typeS;rw[if_neg (by simp[hv])];exact hty
 obtain⟨c1,s1,hp,hc1⟩:=psim_ev l0F _ l0c l0_sl l0_is (lim_of (by decide)) l0_sm scope x cs hx (by omega) hs
 have hsS:simS l0F scope x=if validE (foldS l0F scope x)≠0 then(leafX 0 0,10)else(foldS l0F scope x,0):=by unfold simS;rw[htS];rfl
 obtain⟨hfk,hfn,hfs,hval⟩:=simS_fold (l:=l0F) (scope:=scope) (x:=x) (by rw[htS]) hs
 rw[htS]at hfk
 simp only at hfk
 rw[hsS]at hp hc1
 obtain⟨hnd,hn100⟩:=atW_nd hsc
 have hat:=attrsB_ev ys mT hm scope hsc
 have hal1:(avA ys scope).length=(atW scope).length:=avN_len ys scope (atW scope) (Nat.le_refl _)
 have haT:IsSl (outT (atW scope).length (avC (avA ys scope))) (avA ys scope).length (avC (avA ys scope)):=by
  rw[hal1]
  refine outT_isl fun h0=> ?_
  rw[←hal1]at h0
  rw[List.length_eq_zero_iff.1 h0];rfl
 have hnd':((avA ys scope).map Prod.fst).Nodup:=by rw[avA_fst];exact hnd
 have hall: ∀s,attrK scope s≠0→ ∃v,lookA (avA ys scope) s=some v:=fun s hz=>lookA_some (by rw[avA_fst];exact(attrK_mem scope s).1 hz)
 have haF:=haT.froz
 obtain⟨s2,he1⟩:=eval_ev l0F _ l0c l0_sl l0_is (lim_of (by decide)) l0_sm scope hsc (avA ys scope) _ haT hnd' (by omega) hall x cs hx hs kind hv hty
 obtain⟨s3,haw⟩:=awake_ev
 have hcon:=l0_ev
 have hcf:=l0_sl.froz
 obtain⟨t1,s4,hu1,hi1⟩:=puses_ev x cs hx (al_of x (by omega)) (by have:=uses_le x;omega)
 generalize outT (atW scope).length (avC (avA ys scope))=aT at*
 rcases hval with hval|hval
 ·rw[if_neg (by simp[hval])]at hp hc1
  simp only at hp hc1
  have hfty:(foldS l0F scope x).ty (CLa []) scope=(kind,0):=by rw[CLa_nil];exact hfk.2
  obtain⟨s5,he2⟩:=eval_ev [] .nilsl [] nil_is nil_cl (by simp) nil_sm scope hsc (avA ys scope) _ haT hnd' (by omega) hall (foldS l0F scope x) c1 hc1 hfs kind hval hfty
  rw[mean_val l0F hsc (avA ys scope) x hwf hty]at he2
  obtain⟨c3,s6,hp2,hc3⟩:=psim_ev [] .nilsl [] nil_is nil_cl (by simp) nil_sm scope (foldS l0F scope x) c1 hc1 (by omega) hfs
  have hsS2:simS [] scope (foldS l0F scope x)=(foldS l0F scope x,0):=by
   have htS2:typeS [] scope (foldS l0F scope x)=(kind,0):=by unfold typeS;rw[if_neg (by simp[hval])];exact hfty
   unfold simS
   rw[htS2,mean_idem l0F x hwf hty,if_neg (by simp),if_neg (by simp[hval])]
  rw[hsS2]at hp2 hc3
  simp only at hp2 hc3
  have hsm:=lsame_ev _ c1 c3 hc1 hc3 (by omega)
  obtain⟨t2,s7,hu2,hi2⟩:=puses_ev (foldS l0F scope x) c1 hc1 (al_of _ (by omega)) (by have:=uses_le (foldS l0F scope x);omega)
  have hnx:=usesN_le x
  have hny:=usesN_le (foldS l0F scope x)
  have hL:=fun fr lh sh h20 h21 h22=>fm2 x.usesN (foldS l0F scope x).usesN t1 t2 hi1 hi2 (by omega) (by omega) (mean_uses l0F hwf) fr lh sh h20 h21 h22
  generalize x.val0 (vlA (VXa l0F) scope (vlsA (avA ys scope) scope (atW scope)))=R at*
  generalize foldS l0F scope x=y at*
  have heq:=eqT_ii (a:=kind) (b:=R)
  obtain⟨a,cc,rfl,ha,hxs⟩:=hx.cells
  obtain⟨p1,q1,rfl,u1,w1⟩:=hc1.cells
  obtain⟨p3,q3,rfl,u3,w3⟩:=hc3.cells
  rw[p_fun fn14 (by simp[c14])]
  simp(maxDischargeDepth:=6) only[qF,qGO0,qGO1,qGO2,qGO3,qGO4,qGO5,splice,Nat.reduceAdd,reduceCtorEq,Nat.reduceLT,Nat.reduceEqDiff,Int.reduceEq,qDR0,getL,c14,m3,hw1,hw2,hx0,dc15,hl.froz,hm.froz,hcon,dc17,hcf,hat,dc49,haF,hp,dc16,ha.froz1,u1.froz1,u3.froz1,he1,he2,dc50,hp2,heq,bne_self_eq_false,hsm,dc19,hu1,hu2,dc47,dd47,hL,haw,dc20]
  exact⟨_,rfl⟩
 ·rw[if_pos (by simp[hval])]at hp hc1
  simp only at hp hc1
  obtain⟨a,cc,rfl,ha,hxs⟩:=hx.cells
  obtain⟨p1,q1,rfl,u1,w1⟩:=hc1.cells
  rw[p_fun fn14 (by simp[c14])]
  simp(maxDischargeDepth:=6) only[qF,qGO0,qGO1,qGO2,qGO3,qGO4,qGO5,splice,Nat.reduceAdd,reduceCtorEq,Nat.reduceLT,Nat.reduceEqDiff,Int.reduceEq,c14,m3,hw1,hw2,hx0,dc15,hl.froz,hm.froz,hcon,dc17,hcf,hat,dc49,hp,dc16,ha.froz1,haw,dc20]
  exact⟨_,rfl⟩
theorem fm_law(t u:T)(xs ys:List Int)(h:IsSl t xs.length (ints xs))(h':IsSl u ys.length (ints ys))(a b:Int): ∃s,DCall pE 14 [t,u,.i .i64 a,.i .i64 b] []=some (.b true,s):=fm_ev xs ys t u h h' a b
end Go.Proofs.YtfenhjpkomldcaaGreat
