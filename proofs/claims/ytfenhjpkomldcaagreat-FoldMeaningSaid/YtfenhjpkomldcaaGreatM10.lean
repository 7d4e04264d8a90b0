/- The compiler of formulas: its tables. The compiler of formulas, made. The compiler of formulas, made whole. Compiled expressions: plain. Expressions compiled, constants' values found: the walk. Conditions: the theorems' own. -/
import Derived.Test.YtfenhjpkomldcaaGreatM9
import Derived.KernelRfl
set_option maxRecDepth 100000
set_option linter.unusedSimpArgs false
set_option linter.unusedVariables false
set_option maxHeartbeats 16000000
namespace Go.Proofs.YtfenhjpkomldcaaGreat
open Go Go.Ev
def plM(ns:List (List Nat))(i:Nat):List (List Nat×Nat):=(ns.take i).zipIdx
theorem plM_succ{ns:List (List Nat)}{i:Nat}(hi:i<ns.length):plM ns (i+1)=plM ns i++ [(ns[i],i)]:=by
 unfold plM
 rw[List.take_succ_eq_append_getElem hi,List.zipIdx_append]
 simp[List.length_take,Nat.min_eq_left (Nat.le_of_lt hi)]
theorem plM_none{ns:List (List Nat)}(hnd:ns.Nodup){i:Nat}(hi:i<ns.length):lookA (plM ns i) ns[i]=none:=by
 have key: ∀(m:List (List Nat×Nat)) (s:List Nat),(∀p∈m,p.1≠s)→lookA m s=none:=by
  intro m s h
  induction m with
  |nil=>rfl
  |cons p m ih=>
   rw[lookA,if_neg (fun e=>h p (List.mem_cons_self ..) e.symm)]
   exact ih fun q hq=>h q (List.mem_cons_of_mem _ hq)
 refine key _ _ fun p hp e=> ?_
 have hm:p.1∈ns.take i:=List.fst_mem_of_mem_zipIdx hp
 rw[e]at hm
 obtain⟨j,hj,hjj⟩:=List.getElem_of_mem hm
 rw[List.length_take]at hj
 rw[List.getElem_take]at hjj
 exact List.pairwise_iff_getElem.1 hnd j i (by omega) hi (by omega) hjj
def cpS(lT:T)(m:List (List Nat×Nat))(kn:List (Nat×Int))(c0 c1 c2 c3:T)(ms:List (List (List Nat×Nat))):List Ent:=
 ⟨1,.map (m.map fun p=>sK p.1) (m.map fun p=>nK p.2) false⟩::⟨1,.map (kn.map fun p=>nK p.1) (kn.map fun p=>iV p.2) false⟩::⟨1,.cells [lT,.mp .S 0 1,.mp .S 1 1,c0,c1,c2,c3] 0 true⟩::ms.map fun p=>⟨1,.map (p.map fun p=>sK p.1) (p.map fun p=>nK p.2) false⟩
section
variable(lT:T)(m:List (List Nat×Nat))(kn:List (Nat×Int))(c0 c1 c2 c3:T)(ms:List (List (List Nat×Nat)))
theorem cp0:getE (cpS lT m kn c0 c1 c2 c3 ms) 0=⟨1,.map (m.map fun p=>sK p.1) (m.map fun p=>nK p.2) false⟩:=nr rfl
theorem cp2:getE (cpS lT m kn c0 c1 c2 c3 ms) 2=⟨1,.cells [lT,.mp .S 0 1,.mp .S 1 1,c0,c1,c2,c3] 0 true⟩:=nr rfl
theorem cp0s(m':List (List Nat×Nat)):setE (cpS lT m kn c0 c1 c2 c3 ms) 0 ⟨1,.map (m'.map fun p=>sK p.1) (m'.map fun p=>nK p.2) false⟩=cpS lT m' kn c0 c1 c2 c3 ms:=nr rfl
theorem cp2s(d0 d1 d2 d3:T):setE (cpS lT m kn c0 c1 c2 c3 ms) 2 ⟨1,.cells [lT,.mp .S 0 1,.mp .S 1 1,d0,d1,d2,d3] 0 true⟩=cpS lT m kn d0 d1 d2 d3 ms:=nr rfl
theorem cpNew:cpS lT [] [] .nilmp .nilmp .nilmp .nilmp []= [⟨1,.map [] [] false⟩,⟨1,.map [] [] false⟩,⟨1,.cells [lT,.mp .S 0 1,.mp .S 1 1,.nilmp,.nilmp,.nilmp,.nilmp] 0 true⟩]:=nr rfl
end
section
variable(l:Cs)(lT:T)(cl:List T)(hl:IsSl lT l.length cl)(hcl:IsCl l cl)(hlen:l.length≤Lim)
include hl hcl hlen
theorem nco1(fr:Fr)(lh:Tri Ent)(sh:List Ent)(hsh:sh=cpS lT [] [] .nilmp .nilmp .nilmp .nilmp [])
  (h3:getF fr 3= .ptr .S 2 1 0) (h16:getF fr 16=lT) (h17:getF fr 17= .i .i64 (l.length:Int)) (h18:getF fr 18= .i .i64 0):
  DC pE 71 (.loop c53_L3) ⟨fr,lh,sh⟩=some (.ext 0,⟨frL pE 71 c53_L3 fr lh sh,lhL pE 71 c53_L3 fr lh sh,shL pE 71 c53_L3 fr lh sh⟩)∧
  (shL pE 71 c53_L3 fr lh sh=cpS lT (mapI l l.length) [] .nilmp .nilmp .nilmp .nilmp []):=by
 refine loop_rule (P:=fun fr' lh' sh'=>sh'=cpS lT (mapI l l.length) [] .nilmp .nilmp .nilmp .nilmp [])
  (loop_inv (fun k st=> ∃(fr:Fr) (lh1:Tri Ent),st=⟨fr,lh1,cpS lT (mapI l k) [] .nilmp .nilmp .nilmp .nilmp []⟩∧getF fr 3= .ptr .S 2 1 0∧getF fr 16=lT∧getF fr 17= .i .i64 (l.length:Int)∧getF fr 18= .i .i64 (k:Int)) _ l.length ?_ ?_ 0 _ (Nat.zero_le _) ⟨fr,lh,by rw[hsh];rfl,h3,h16,h17,h18⟩)
 ·rintro k _ hk ⟨fr,lh1,rfl,h3,h16,h17,h18⟩
  left
  have hk':(k:Int)<l.length:=by omega
  have hw:=wr_succL (k:=k) (by omega)
  obtain⟨b,cb,r,hia,hb1,hb2,hb⟩:=const_at hl hcl k hk
  have hlk:=lkS (mapI l k) l[k].1
  rw[mapI_succ l hk]
  cases hq:lookA (mapI l k) l[k].1 with
  |some i=>
   rw[hq]at hlk
   unfold ixT at hlk
   simp(maxDischargeDepth:=6) only[qGO0,qGO1,qGO2,qGO3,qGO4,qGO5,lkV,splice,backD,calmOp,Nat.reduceAdd,Nat.reduceLT,Nat.reduceLeDiff,Nat.reduceEqDiff,qDR0,getL,qKP0,c53_L3,h3,h16,h17,h18,hk',hia,hw,cp2,cp0,lkE_map,hlk]
   refine⟨_,rfl,_,_,rfl, ?_, ?_, ?_, ?_⟩ <;> simp(maxDischargeDepth:=6) only[qGO2,qGO4,Nat.reduceEqDiff,h3,h16,h17]
  |none=>
   rw[hq]at hlk
   unfold ixT at hlk
   have hput:putK (.one .str) (.s l[k].1) (.i .i64 (k:Int)) ((mapI l k).map fun p=>sK p.1) ((mapI l k).map fun p=>nK p.2)=_:=put_A (kT:=sK) (vT:=nK) heqS (mapI l k) l[k].1 k hq
   simp(maxDischargeDepth:=6) only[qGO0,qGO1,qGO2,qGO3,qGO4,qGO5,lkV,splice,backD,calmOp,Nat.reduceAdd,Nat.reduceLT,Nat.reduceLeDiff,Nat.reduceEqDiff,qDR0,getL,qKP0,c53_L3,h3,h16,h17,h18,hk',hia,hw,cp2,cp0,lkE_map,hlk,key_s,hput,cp0s]
   refine⟨_,rfl,_,_,rfl, ?_, ?_, ?_, ?_⟩ <;> simp(maxDischargeDepth:=6) only[qGO2,qGO4,Nat.reduceEqDiff,h3,h16,h17]
 ·rintro _ ⟨fr,lh1,rfl,h3,h16,h17,h18⟩
  simp(maxDischargeDepth:=6) only[qGO0,qGO1,qGO2,qGO4,qGO5,Nat.reduceLT,c53_L3,h17,h18,Int.lt_irrefl]
  exact⟨_,_,(by simp:Out.ext 0≠ .nrm),rfl,rfl,rfl⟩
end
end Go.Proofs.YtfenhjpkomldcaaGreat
namespace Go.Proofs.YtfenhjpkomldcaaGreat
open Go Go.Ev
def atW(scope:Int):List (List Nat):=if scope=1 then dutyW else if scope=2 then restW else if scope=3 then pairW else []
theorem pat1:DCall pE 88 [.i .i64 1] []=some (.sl (strs dutyW) 11 true,[]):=dcall_of (m:=100) (by_callK (by kernel_rfl))
theorem pat2:DCall pE 88 [.i .i64 2] []=some (.sl (strs restW) 25 false,[]):=dcall_of (m:=100) (by_callK (by kernel_rfl))
theorem pat3:DCall pE 88 [.i .i64 3] []=some (.sl (strs pairW) 7 true,[]):=dcall_of (m:=100) (by_callK (by kernel_rfl))
theorem pat0:DCall pE 88 [.i .i64 0] []=some (.nilsl,[]):=dcall_of (m:=100) (by_callK (by kernel_rfl))
theorem dutyW_nd:dutyW.Nodup:=by decide+kernel
theorem restW_nd:restW.Nodup:=by decide+kernel
theorem pairW_nd:pairW.Nodup:=by decide+kernel
theorem setL_last{α:Type}(d:α): ∀(l:List α) (x:α),setL d l l.length x=l++ [x]
 | [],x=>rfl
 |a::l,x=>by rw[List.length_cons,setL,setL_last d l x];rfl
theorem setL_end{α:Type}(d:α): ∀(l:List α) (x y:α),setL d (l++ [x]) l.length y=l++ [y]
 | [],x,y=>rfl
 |a::l,x,y=>by rw[List.cons_append,List.length_cons,setL,setL_end d l x y];rfl
section
variable(lT:T)(m:List (List Nat×Nat))(kn:List (Nat×Int))(c0 c1 c2 c3:T)(ms:List (List (List Nat×Nat)))
theorem cpL:(cpS lT m kn c0 c1 c2 c3 ms).length=ms.length+3:=by unfold cpS;simp
theorem cpA:setE (cpS lT m kn c0 c1 c2 c3 ms) (ms.length+3) ⟨1,.map [] [] false⟩=cpS lT m kn c0 c1 c2 c3 (ms++ [[]]):=by
 unfold cpS setE
 rw[setL,setL,setL]
 have:=setL_last noEnt (ms.map fun p=>(⟨1,.map (p.map fun p=>sK p.1) (p.map fun p=>nK p.2) false⟩:Ent)) ⟨1,.map [] [] false⟩
 rw[List.length_map]at this
 rw[this,List.map_append]
 rfl
theorem cpq(p:List (List Nat×Nat)):getE (cpS lT m kn c0 c1 c2 c3 (ms++ [p])) (ms.length+3)=⟨1,.map (p.map fun p=>sK p.1) (p.map fun p=>nK p.2) false⟩:=by
 unfold cpS getE
 rw[getL,getL,getL,List.map_append]
 have:=getL_last noEnt (ms.map fun p=>(⟨1,.map (p.map fun p=>sK p.1) (p.map fun p=>nK p.2) false⟩:Ent)) ⟨1,.map (p.map fun p=>sK p.1) (p.map fun p=>nK p.2) false⟩
 rw[List.length_map]at this
 exact this
theorem cpqs(p q:List (List Nat×Nat)):setE (cpS lT m kn c0 c1 c2 c3 (ms++ [p])) (ms.length+3) ⟨1,.map (q.map fun p=>sK p.1) (q.map fun p=>nK p.2) false⟩=cpS lT m kn c0 c1 c2 c3 (ms++ [q]):=by
 unfold cpS setE
 rw[setL,setL,setL,List.map_append,List.map_append]
 have:=setL_end noEnt (ms.map fun p=>(⟨1,.map (p.map fun p=>sK p.1) (p.map fun p=>nK p.2) false⟩:Ent)) ⟨1,.map (p.map fun p=>sK p.1) (p.map fun p=>nK p.2) false⟩ ⟨1,.map (q.map fun p=>sK p.1) (q.map fun p=>nK p.2) false⟩
 rw[List.length_map]at this
 exact congrArg _ (congrArg _ (congrArg _ this))
theorem nco_in(sc:Nat)(hc:(sc=0∧c0= .mp .S (ms.length+3) 1)∨(sc=1∧c1= .mp .S (ms.length+3) 1)∨(sc=2∧c2= .mp .S (ms.length+3) 1)∨(sc=3∧c3= .mp .S (ms.length+3) 1))(ns:List (List Nat))(hnd:ns.Nodup)(hns:ns.length≤100)(v:T)(hv:IsSl v ns.length (strs ns))(fr:Fr)(lh:Tri Ent)(sh:List Ent)(hsh:sh=cpS lT m kn c0 c1 c2 c3 (ms++ [[]]))
  (h3:getF fr 3= .ptr .S 2 1 0) (h8:getF fr 8= .i .i64 (sc:Int)) (h53:getF fr 53=v) (h54:getF fr 54= .i .i64 (ns.length:Int)) (h55:getF fr 55= .i .i64 0):
  DC pE 71 (.loop c53_L1) ⟨fr,lh,sh⟩=some (.ext 4,⟨frL pE 71 c53_L1 fr lh sh,lhL pE 71 c53_L1 fr lh sh,shL pE 71 c53_L1 fr lh sh⟩)∧
  (shL pE 71 c53_L1 fr lh sh=cpS lT m kn c0 c1 c2 c3 (ms++ [plM ns ns.length])):=by
 refine loop_rule (P:=fun fr' lh' sh'=>sh'=cpS lT m kn c0 c1 c2 c3 (ms++ [plM ns ns.length]))
  (loop_inv (fun k st=> ∃(fr:Fr) (lh1:Tri Ent),st=⟨fr,lh1,cpS lT m kn c0 c1 c2 c3 (ms++ [plM ns k])⟩∧getF fr 3= .ptr .S 2 1 0∧getF fr 8= .i .i64 (sc:Int)∧getF fr 53=v∧getF fr 54= .i .i64 (ns.length:Int)∧getF fr 55= .i .i64 (k:Int)) _ ns.length ?_ ?_ 0 _ (Nat.zero_le _) ⟨fr,lh,by rw[hsh];rfl,h3,h8,h53,h54,h55⟩)
 ·rintro k _ hk ⟨fr,lh1,rfl,h3,h8,h53,h54,h55⟩
  left
  have hk':(k:Int)<ns.length:=by omega
  have hw:=wr_succ (k:=k) (by omega)
  have hia: ∀kk,iaV v (.i kk (k:Int)) 1=some (.vp (T.s ns[k]::(strs ns).drop (k+1))):=fun kk=>by rw[hv.ia (sz:=1) (by rw[strs_len];omega) hk,Nat.mul_one,strs_drop ns k hk]
  have hput:putK (.one .str) (.s ns[k]) (.i .i64 (k:Int)) ((plM ns k).map fun p=>sK p.1) ((plM ns k).map fun p=>nK p.2)=_:=put_A (kT:=sK) (vT:=nK) heqS (plM ns k) ns[k] k (plM_none hnd hk)
  rw[plM_succ hk]
  rcases hc with⟨rfl,hc⟩|⟨rfl,hc⟩|⟨rfl,hc⟩|⟨rfl,hc⟩ <;>
  (simp(maxDischargeDepth:=6) only[qGO0,qGO1,qGO2,qGO3,qGO4,qGO5,iaAV,Nat.reduceAdd,Nat.reduceLT,Nat.reduceEqDiff,Int.reduceToNat,Int.reduceLE,qKP0,c53_L1,h3,h8,h53,h54,h55,hk',hia,hw,cp2,hc,cpq,key_s,hput,cpqs]
   refine⟨_,rfl,_,_,rfl, ?_, ?_, ?_, ?_, ?_⟩ <;> simp(maxDischargeDepth:=6) only[qGO0,qGO2,qGO4,Nat.reduceEqDiff,h3,h8,h53,h54])
 ·rintro _ ⟨fr,lh1,rfl,h3,h8,h53,h54,h55⟩
  simp(maxDischargeDepth:=6) only[qGO0,qGO1,qGO2,qGO4,qGO5,Nat.reduceLT,c53_L1,h54,h55,Int.lt_irrefl]
  exact⟨_,_,(by simp:Out.ext 4≠ .nrm),rfl,rfl,rfl⟩
end
def cpK(lT:T)(m:List (List Nat×Nat))(kn:List (Nat×Int)):Nat→List Ent
 |0=>cpS lT m kn .nilmp .nilmp .nilmp .nilmp []
 |1=>cpS lT m kn (.mp .S 3 1) .nilmp .nilmp .nilmp [plM [] 0]
 |2=>cpS lT m kn (.mp .S 3 1) (.mp .S 4 1) .nilmp .nilmp [plM [] 0,plM dutyW 11]
 |3=>cpS lT m kn (.mp .S 3 1) (.mp .S 4 1) (.mp .S 5 1) .nilmp [plM [] 0,plM dutyW 11,plM restW 25]
 |_=>cpS lT m kn (.mp .S 3 1) (.mp .S 4 1) (.mp .S 5 1) (.mp .S 6 1) [plM [] 0,plM dutyW 11,plM restW 25,plM pairW 7]
theorem nco2_0(lT:T)(m:List (List Nat×Nat))(kn:List (Nat×Int))(fr:Fr)(lh:Tri Ent)(h3:getF fr 3= .ptr .S 2 1 0)(h43:getF fr 43= .i .i64 0):
  ∃fr' lh',DC pE 71 c53_L2 ⟨fr,lh,cpK lT m kn 0⟩=some (.nrm,⟨fr',lh',cpK lT m kn 1⟩)∧getF fr' 3= .ptr .S 2 1 0∧getF fr' 43= .i .i64 1:=by
 have hA:setE (cpS lT m kn .nilmp .nilmp .nilmp .nilmp []) 3 ⟨1,.map [] [] false⟩=cpS lT m kn .nilmp .nilmp .nilmp .nilmp [[]]:=cpA lT m kn .nilmp .nilmp .nilmp .nilmp []
 have hln:(cpS lT m kn .nilmp .nilmp .nilmp .nilmp []).length=3:=cpL lT m kn .nilmp .nilmp .nilmp .nilmp []
 have hI:=fun fr lh sh h1 h2 h3 h4 h5 h6=>nco_in lT m kn (.mp .S 3 1) .nilmp .nilmp .nilmp [] 0 (by simp) [] List.nodup_nil (by decide) .nilsl (Or.inl ⟨rfl,rfl,rfl⟩) fr lh sh h1 h2 h3 h4 h5 h6
 change ∀fr lh sh,sh=cpS lT m kn (.mp .S 3 1) .nilmp .nilmp .nilmp [[]]→getF fr 3= .ptr .S 2 1 0→getF fr 8= .i .i64 0→getF fr 53= .nilsl→getF fr 54= .i .i64 0→getF fr 55= .i .i64 0→_ at hI
 have hst:=fun lh=>stV_SK (lh:=lh) (sh:=cpS lT m kn .nilmp .nilmp .nilmp .nilmp [[]]) (k:=2) (g:=1) (off:=3) (m:=1) (v:= .mp .S 3 1) kept_mp (cp2 lT m kn .nilmp .nilmp .nilmp .nilmp [[]])
 unfold cpK
 simp(maxDischargeDepth:=6) only[qF,qGO0,qGO1,qGO2,qGO3,qGO4,qGO5,Int.reduceAdd,Int.reduceNeg,Nat.reduceShiftRight,Nat.reduceMod,iaAV,splice,Nat.reduceAdd,Nat.reduceLT,Nat.reduceLeDiff,Nat.reduceEqDiff,Int.reduceToNat,Int.reduceLE,Int.reduceLT,qSH0,c53_L2,c53_L1_w,h3,h43,hln,hA,hst,cp2s,pat0,dc88,hI]
 first|done|refine⟨_,_,rfl, ?_, ?_⟩ <;> simp(maxDischargeDepth:=6) only[qGO0,qGO2,qGO4,Nat.reduceShiftRight,Nat.reduceMod,Nat.reduceEqDiff,h3,c53_L1_w]
theorem nco2_1(lT:T)(m:List (List Nat×Nat))(kn:List (Nat×Int))(fr:Fr)(lh:Tri Ent)(h3:getF fr 3= .ptr .S 2 1 0)(h43:getF fr 43= .i .i64 1):
  ∃fr' lh',DC pE 71 c53_L2 ⟨fr,lh,cpK lT m kn 1⟩=some (.nrm,⟨fr',lh',cpK lT m kn 2⟩)∧getF fr' 3= .ptr .S 2 1 0∧getF fr' 43= .i .i64 2:=by
 have hA:setE (cpS lT m kn (.mp .S 3 1) .nilmp .nilmp .nilmp [plM [] 0]) 4 ⟨1,.map [] [] false⟩=cpS lT m kn (.mp .S 3 1) .nilmp .nilmp .nilmp [plM [] 0,[]]:=cpA lT m kn (.mp .S 3 1) .nilmp .nilmp .nilmp [plM [] 0]
 have hln:(cpS lT m kn (.mp .S 3 1) .nilmp .nilmp .nilmp [plM [] 0]).length=4:=cpL lT m kn (.mp .S 3 1) .nilmp .nilmp .nilmp [plM [] 0]
 have hI:=fun fr lh sh h1 h2 h3 h4 h5 h6=>nco_in lT m kn (.mp .S 3 1) (.mp .S 4 1) .nilmp .nilmp [plM [] 0] 1 (by simp) dutyW dutyW_nd (by decide) (.sl (strs dutyW) 11 true) (Or.inr ⟨true,rfl⟩) fr lh sh h1 h2 h3 h4 h5 h6
 change ∀fr lh sh,sh=cpS lT m kn (.mp .S 3 1) (.mp .S 4 1) .nilmp .nilmp [plM [] 0,[]]→getF fr 3= .ptr .S 2 1 0→getF fr 8= .i .i64 1→getF fr 53=(.sl (strs dutyW) 11 true)→getF fr 54= .i .i64 11→getF fr 55= .i .i64 0→_ at hI
 have hst:=fun lh=>stV_SK (lh:=lh) (sh:=cpS lT m kn (.mp .S 3 1) .nilmp .nilmp .nilmp [plM [] 0,[]]) (k:=2) (g:=1) (off:=4) (m:=1) (v:= .mp .S 4 1) kept_mp (cp2 lT m kn (.mp .S 3 1) .nilmp .nilmp .nilmp [plM [] 0,[]])
 unfold cpK
 simp(maxDischargeDepth:=6) only[qF,qGO0,qGO1,qGO2,qGO3,qGO4,qGO5,Int.reduceAdd,Int.reduceNeg,Nat.reduceShiftRight,Nat.reduceMod,iaAV,splice,Nat.reduceAdd,Nat.reduceLT,Nat.reduceLeDiff,Nat.reduceEqDiff,Int.reduceToNat,Int.reduceLE,Int.reduceLT,qSH0,c53_L2,c53_L1_w,h3,h43,hln,hA,hst,cp2s,pat1,dc88,hI]
 first|done|refine⟨_,_,rfl, ?_, ?_⟩ <;> simp(maxDischargeDepth:=6) only[qGO0,qGO2,qGO4,Nat.reduceShiftRight,Nat.reduceMod,Nat.reduceEqDiff,h3,c53_L1_w]
theorem nco2_2(lT:T)(m:List (List Nat×Nat))(kn:List (Nat×Int))(fr:Fr)(lh:Tri Ent)(h3:getF fr 3= .ptr .S 2 1 0)(h43:getF fr 43= .i .i64 2):
  ∃fr' lh',DC pE 71 c53_L2 ⟨fr,lh,cpK lT m kn 2⟩=some (.nrm,⟨fr',lh',cpK lT m kn 3⟩)∧getF fr' 3= .ptr .S 2 1 0∧getF fr' 43= .i .i64 3:=by
 have hA:setE (cpS lT m kn (.mp .S 3 1) (.mp .S 4 1) .nilmp .nilmp [plM [] 0,plM dutyW 11]) 5 ⟨1,.map [] [] false⟩=cpS lT m kn (.mp .S 3 1) (.mp .S 4 1) .nilmp .nilmp [plM [] 0,plM dutyW 11,[]]:=cpA lT m kn (.mp .S 3 1) (.mp .S 4 1) .nilmp .nilmp [plM [] 0,plM dutyW 11]
 have hln:(cpS lT m kn (.mp .S 3 1) (.mp .S 4 1) .nilmp .nilmp [plM [] 0,plM dutyW 11]).length=5:=cpL lT m kn (.mp .S 3 1) (.mp .S 4 1) .nilmp .nilmp [plM [] 0,plM dutyW 11]
 have hI:=fun fr lh sh h1 h2 h3 h4 h5 h6=>nco_in lT m kn (.mp .S 3 1) (.mp .S 4 1) (.mp .S 5 1) .nilmp [plM [] 0,plM dutyW 11] 2 (by simp) restW restW_nd (by decide) (.sl (strs restW) 25 false) (Or.inr ⟨false,rfl⟩) fr lh sh h1 h2 h3 h4 h5 h6
 change ∀fr lh sh,sh=cpS lT m kn (.mp .S 3 1) (.mp .S 4 1) (.mp .S 5 1) .nilmp [plM [] 0,plM dutyW 11,[]]→getF fr 3= .ptr .S 2 1 0→getF fr 8= .i .i64 2→getF fr 53=(.sl (strs restW) 25 false)→getF fr 54= .i .i64 25→getF fr 55= .i .i64 0→_ at hI
 have hst:=fun lh=>stV_SK (lh:=lh) (sh:=cpS lT m kn (.mp .S 3 1) (.mp .S 4 1) .nilmp .nilmp [plM [] 0,plM dutyW 11,[]]) (k:=2) (g:=1) (off:=5) (m:=1) (v:= .mp .S 5 1) kept_mp (cp2 lT m kn (.mp .S 3 1) (.mp .S 4 1) .nilmp .nilmp [plM [] 0,plM dutyW 11,[]])
 unfold cpK
 simp(maxDischargeDepth:=6) only[qF,qGO0,qGO1,qGO2,qGO3,qGO4,qGO5,Int.reduceAdd,Int.reduceNeg,Nat.reduceShiftRight,Nat.reduceMod,iaAV,splice,Nat.reduceAdd,Nat.reduceLT,Nat.reduceLeDiff,Nat.reduceEqDiff,Int.reduceToNat,Int.reduceLE,Int.reduceLT,qSH0,c53_L2,c53_L1_w,h3,h43,hln,hA,hst,cp2s,pat2,dc88,hI]
 first|done|refine⟨_,_,rfl, ?_, ?_⟩ <;> simp(maxDischargeDepth:=6) only[qGO0,qGO2,qGO4,Nat.reduceShiftRight,Nat.reduceMod,Nat.reduceEqDiff,h3,c53_L1_w]
theorem nco2_3(lT:T)(m:List (List Nat×Nat))(kn:List (Nat×Int))(fr:Fr)(lh:Tri Ent)(h3:getF fr 3= .ptr .S 2 1 0)(h43:getF fr 43= .i .i64 3):
  ∃fr' lh',DC pE 71 c53_L2 ⟨fr,lh,cpK lT m kn 3⟩=some (.nrm,⟨fr',lh',cpK lT m kn 4⟩)∧getF fr' 3= .ptr .S 2 1 0∧getF fr' 43= .i .i64 4:=by
 have hA:setE (cpS lT m kn (.mp .S 3 1) (.mp .S 4 1) (.mp .S 5 1) .nilmp [plM [] 0,plM dutyW 11,plM restW 25]) 6 ⟨1,.map [] [] false⟩=cpS lT m kn (.mp .S 3 1) (.mp .S 4 1) (.mp .S 5 1) .nilmp [plM [] 0,plM dutyW 11,plM restW 25,[]]:=cpA lT m kn (.mp .S 3 1) (.mp .S 4 1) (.mp .S 5 1) .nilmp [plM [] 0,plM dutyW 11,plM restW 25]
 have hln:(cpS lT m kn (.mp .S 3 1) (.mp .S 4 1) (.mp .S 5 1) .nilmp [plM [] 0,plM dutyW 11,plM restW 25]).length=6:=cpL lT m kn (.mp .S 3 1) (.mp .S 4 1) (.mp .S 5 1) .nilmp [plM [] 0,plM dutyW 11,plM restW 25]
 have hI:=fun fr lh sh h1 h2 h3 h4 h5 h6=>nco_in lT m kn (.mp .S 3 1) (.mp .S 4 1) (.mp .S 5 1) (.mp .S 6 1) [plM [] 0,plM dutyW 11,plM restW 25] 3 (by simp) pairW pairW_nd (by decide) (.sl (strs pairW) 7 true) (Or.inr ⟨true,rfl⟩) fr lh sh h1 h2 h3 h4 h5 h6
 change ∀fr lh sh,sh=cpS lT m kn (.mp .S 3 1) (.mp .S 4 1) (.mp .S 5 1) (.mp .S 6 1) [plM [] 0,plM dutyW 11,plM restW 25,[]]→getF fr 3= .ptr .S 2 1 0→getF fr 8= .i .i64 3→getF fr 53=(.sl (strs pairW) 7 true)→getF fr 54= .i .i64 7→getF fr 55= .i .i64 0→_ at hI
 have hst:=fun lh=>stV_SK (lh:=lh) (sh:=cpS lT m kn (.mp .S 3 1) (.mp .S 4 1) (.mp .S 5 1) .nilmp [plM [] 0,plM dutyW 11,plM restW 25,[]]) (k:=2) (g:=1) (off:=6) (m:=1) (v:= .mp .S 6 1) kept_mp (cp2 lT m kn (.mp .S 3 1) (.mp .S 4 1) (.mp .S 5 1) .nilmp [plM [] 0,plM dutyW 11,plM restW 25,[]])
 unfold cpK
 simp(maxDischargeDepth:=6) only[qF,qGO0,qGO1,qGO2,qGO3,qGO4,qGO5,Int.reduceAdd,Int.reduceNeg,Nat.reduceShiftRight,Nat.reduceMod,iaAV,splice,Nat.reduceAdd,Nat.reduceLT,Nat.reduceEqDiff,Int.reduceToNat,Int.reduceLE,Int.reduceLT,qSH0,c53_L2,c53_L1_w,h3,h43,hln,hA,hst,cp2s,pat3,dc88,hI]
 first|done|refine⟨_,_,rfl, ?_, ?_⟩ <;> simp(maxDischargeDepth:=6) only[qGO0,qGO2,qGO4,Nat.reduceShiftRight,Nat.reduceMod,Nat.reduceEqDiff,h3,c53_L1_w]
end Go.Proofs.YtfenhjpkomldcaaGreat
namespace Go.Proofs.YtfenhjpkomldcaaGreat
open Go Go.Ev
theorem nco2(lT:T)(m:List (List Nat×Nat))(fr:Fr)(lh:Tri Ent)(sh:List Ent)(hsh:sh=cpS lT m [] .nilmp .nilmp .nilmp .nilmp [])(h3:getF fr 3= .ptr .S 2 1 0)(h43:getF fr 43= .i .i64 0):
  DC pE 71 (.loop c53_L2) ⟨fr,lh,sh⟩=some (.ext 2,⟨frL pE 71 c53_L2 fr lh sh,lhL pE 71 c53_L2 fr lh sh,shL pE 71 c53_L2 fr lh sh⟩)∧
  (shL pE 71 c53_L2 fr lh sh=cpK lT m [] 4):=by
 refine loop_rule (P:=fun fr' lh' sh'=>sh'=cpK lT m [] 4)
  (loop_inv (fun k st=> ∃(fr:Fr) (lh1:Tri Ent),st=⟨fr,lh1,cpK lT m [] k⟩∧getF fr 3= .ptr .S 2 1 0∧getF fr 43= .i .i64 (k:Int)) _ 4 ?_ ?_ 0 _ (Nat.zero_le _) ⟨fr,lh,by rw[hsh];rfl,h3,h43⟩)
 ·rintro k _ hk ⟨fr,lh1,rfl,h3,h43⟩
  left
  have hc:k=0∨k=1∨k=2∨k=3:=by omega
  rcases hc with rfl|rfl|rfl|rfl
  ·obtain⟨fr',lh',h,h3',h43'⟩:=nco2_0 lT m [] fr lh1 h3 h43
   exact⟨_,h,fr',lh',rfl,h3',h43'⟩
  ·obtain⟨fr',lh',h,h3',h43'⟩:=nco2_1 lT m [] fr lh1 h3 h43
   exact⟨_,h,fr',lh',rfl,h3',h43'⟩
  ·obtain⟨fr',lh',h,h3',h43'⟩:=nco2_2 lT m [] fr lh1 h3 h43
   exact⟨_,h,fr',lh',rfl,h3',h43'⟩
  ·obtain⟨fr',lh',h,h3',h43'⟩:=nco2_3 lT m [] fr lh1 h3 h43
   exact⟨_,h,fr',lh',rfl,h3',h43'⟩
 ·rintro _ ⟨fr,lh1,rfl,h3,h43⟩
  simp(maxDischargeDepth:=6) only[qGO0,qGO1,qGO2,qGO4,qGO5,Nat.reduceLT,Int.reduceLT,c53_L2,h43]
  exact⟨_,_,(by simp:Out.ext 2≠ .nrm),rfl,rfl,rfl⟩
section
variable(l:Cs)(lT:T)(cl:List T)(hl:IsSl lT l.length cl)(hcl:IsCl l cl)(hlen:l.length≤Lim)
include hl hcl hlen
theorem nco_ev:DCall pE 53 [lT] []=some (.ptr .S 2 1 0,cpK lT (mapI l l.length) [] 4):=by
 have hL:=fun fr lh sh=>nco1 l lT cl hl hcl hlen fr lh sh
 have hM:=fun fr lh sh=>nco2 lT (mapI l l.length) fr lh sh
 rw[cpNew]at hL
 rw[p_fun fn53 (by simp[c53])]
 simp(maxDischargeDepth:=6) only[qF,qGO0,qGO1,qGO2,qGO3,qGO4,Nat.reduceShiftRight,Nat.reduceMod,buildV,splice,fills,Nat.reduceAdd,reduceCtorEq,Nat.reduceLT,Nat.reduceLeDiff,Nat.reduceEqDiff,qSH0,qKP0,c53,c53_L3_w,c53_L2_w,hl.lenI,hl.cells,hl.noTup,hl.kept1,hL,hM]
end
end Go.Proofs.YtfenhjpkomldcaaGreat
namespace Go.Proofs.YtfenhjpkomldcaaGreat
open Go Go.Ev
def plA(scope:Int)(s:List Nat):Option Nat:=lookA (plM (atW scope) (atW scope).length) s
theorem lookA_none{s:List Nat}: ∀{m:List (List Nat×Nat)},lookA m s=none↔ ∀p∈m,p.1≠s
 | []=>by simp[lookA]
 |p::m=>by
  rw[lookA]
  by_cases h:s=p.1
  ·rw[if_pos h];simp[h]
  ·rw[if_neg h,lookA_none (m:=m)]
   simp only[List.mem_cons,forall_eq_or_imp]
   exact⟨fun q=>⟨fun e=>h e.symm,q⟩,fun q=>q.2⟩
theorem plM_mem{ns:List (List Nat)}{s:List Nat}:lookA (plM ns ns.length) s=none↔s∉ns:=by
 rw[lookA_none]
 unfold plM
 rw[List.take_length]
 constructor
 ·intro h hs
  obtain⟨i,hi,e⟩:=List.getElem_of_mem hs
  exact h (ns[i],i) (List.mk_mem_zipIdx_iff_getElem?.2 (by rw[List.getElem?_eq_getElem hi])) e
 ·intro h p hp e
  exact h (e▸List.fst_mem_of_mem_zipIdx hp)
theorem plM_some{ns:List (List Nat)}{s:List Nat}{i:Nat}: ∀{m:List (List Nat×Nat)},lookA m s=some i→(s,i)∈m
 | [],h=>by simp[lookA]at h
 |p::m,h=>by
  rw[lookA]at h
  by_cases e:s=p.1
  ·rw[if_pos e]at h
   injection h with h
   rw[e,←h]
   exact List.mem_cons_self ..
  ·rw[if_neg e]at h
   exact List.mem_cons_of_mem _ (plM_some (ns:=ns) h)
theorem plA_at{scope:Int}{s:List Nat}{i:Nat}(h:plA scope s=some i):(atW scope)[i]? =some s:=by
 have hm:=plM_some (ns:=atW scope) h
 unfold plM at hm
 rw[List.take_length]at hm
 exact List.mk_mem_zipIdx_iff_getElem?.1 hm
theorem dutyK_mem(s:List Nat):dutyK s≠0↔s∈dutyW:=by
 constructor
 ·intro h
  by_cases hm:s∈dutyW
  ·exact hm
  ·exfalso;apply h
   simp only[dutyW,List.mem_cons,List.not_mem_nil,or_false,not_or]at hm
   obtain⟨e0,e1,e2,e3,e4,e5,e6,e7,e8,e9,e10⟩:=hm
   simp[dutyK,numW,durW,clkW,e0,e1,e2,e3,e4,e5,e6,e7,e8,e9,e10]
 ·intro h
  simp only[dutyW,List.mem_cons,List.not_mem_nil,or_false]at h
  rcases h with rfl|rfl|rfl|rfl|rfl|rfl|rfl|rfl|rfl|rfl|rfl <;> decide
theorem pairK_mem(s:List Nat):pairK s≠0↔s∈pairW:=by
 constructor
 ·intro h
  by_cases hm:s∈pairW
  ·exact hm
  ·exfalso;apply h
   simp only[pairW,List.mem_cons,List.not_mem_nil,or_false,not_or]at hm
   obtain⟨e0,e1,e2,e3,e4,e5,e6⟩:=hm
   simp[pairK,pnumW,pdurW,e0,e1,e2,e3,e4,e5,e6]
 ·intro h
  simp only[pairW,List.mem_cons,List.not_mem_nil,or_false]at h
  rcases h with rfl|rfl|rfl|rfl|rfl|rfl|rfl <;> decide
theorem restK_mem(s:List Nat):restK s≠0↔s∈restW:=by
 constructor
 ·intro h
  rw[restK]at h
  by_cases h1:s= [114,101,115,116]
  ·subst h1;decide
  by_cases h2:s= [110,105,103,104,116,115]
  ·subst h2;decide
  by_cases h3:s= [104,111,109,101]
  ·subst h3;decide
  rw[if_neg h1,if_neg h2,if_neg h3]at h
  by_cases h4:hasP bef s
  ·rw[if_pos h4,dutyK_mem]at h
   have e:s=bef++s.drop 7:=by rw[←((hasP_bef s).1 h4).2,List.take_append_drop]
   rw[e]
   generalize s.drop 7=d at h
   simp only[dutyW,List.mem_cons,List.not_mem_nil,or_false]at h
   rcases h with rfl|rfl|rfl|rfl|rfl|rfl|rfl|rfl|rfl|rfl|rfl <;> decide
  ·rw[if_neg h4]at h
   by_cases h5:hasP aft s
   ·rw[if_pos h5,dutyK_mem]at h
    have e:s=aft++s.drop 6:=by rw[←((hasP_aft s).1 h5).2,List.take_append_drop]
    rw[e]
    generalize s.drop 6=d at h
    simp only[dutyW,List.mem_cons,List.not_mem_nil,or_false]at h
    rcases h with rfl|rfl|rfl|rfl|rfl|rfl|rfl|rfl|rfl|rfl|rfl <;> decide
   ·rw[if_neg h5]at h;exact absurd rfl h
 ·intro hs
  simp only[restW,List.mem_cons,List.not_mem_nil,or_false]at hs
  rcases hs with rfl|rfl|rfl|rfl|rfl|rfl|rfl|rfl|rfl|rfl|rfl|rfl|rfl|rfl|rfl|rfl|rfl|rfl|rfl|rfl|rfl|rfl|rfl|rfl|rfl <;> decide
theorem attrK_mem(scope:Int)(s:List Nat):attrK scope s≠0↔s∈atW scope:=by
 unfold attrK atW
 by_cases h1:scope=1
 ·rw[if_pos h1,if_pos h1];exact dutyK_mem s
 rw[if_neg h1,if_neg h1]
 by_cases h2:scope=2
 ·rw[if_pos h2,if_pos h2];exact restK_mem s
 rw[if_neg h2,if_neg h2]
 by_cases h3:scope=3
 ·rw[if_pos h3,if_pos h3];exact pairK_mem s
 rw[if_neg h3,if_neg h3];simp
theorem plA_none(scope:Int)(s:List Nat):plA scope s=none↔attrK scope s=0:=by
 unfold plA
 rw[plM_mem,←attrK_mem]
 exact Classical.not_not
mutual
def comp(vx:List Nat→Int)(scope:Int):Ex→Fm
 | .mk op num name args=>if op=1∨op=2∨op=3 then .mk 1 num []else if op=4 then .mk 1 1 []else if op=5 then .mk 1 0 []else if op=6 then(match plA scope name with|some i=> .mk 6 (i:Int) []|none=> .mk 1 (vx name) [])else .mk op 0 (compL vx scope args)
def compL(vx:List Nat→Int)(scope:Int):List Ex→List Fm
 | []=> []
 |x::xs=>comp vx scope x::compL vx scope xs
end
theorem comp_eq(vx:List Nat→Int)(scope:Int)(x:Ex):comp vx scope x=if x.op=1∨x.op=2∨x.op=3 then .mk 1 x.num []else if x.op=4 then .mk 1 1 []else if x.op=5 then .mk 1 0 []else if x.op=6 then(match plA scope x.name with|some i=> .mk 6 (i:Int) []|none=> .mk 1 (vx x.name) [])else .mk x.op 0 (compL vx scope x.args):=by obtain⟨_,_,_,_⟩:=x;rw[comp];rfl
theorem compL_map(vx:List Nat→Int)(scope:Int): ∀xs,compL vx scope xs=xs.map (comp vx scope)
 | []=>rfl
 |x::xs=>by rw[compL,compL_map vx scope xs];rfl
def clA(cl:List Nat→Int×Int)(scope:Int)(s:List Nat):Int×Int:=if attrK scope s≠0 then(attrK scope s,0)else cl s
def vlA(vx:List Nat→Int)(scope:Int)(at_:List Int)(s:List Nat):Int:=match plA scope s with|some i=>at_.getD i 0|none=>vx s
theorem ty_clA(cl:List Nat→Int×Int)(scope:Int)(x:Ex):x.ty cl scope=x.ty (clA cl scope) 0:=by
 induction x using Ex.ind with
 |h x ih=>
  rw[Ex.ty_eq,Ex.ty_eq (cl:=clA cl scope)]
  have hl:tyL cl scope x.args=tyL (clA cl scope) 0 x.args:=by
   generalize x.args=xs at ih
   induction xs with
   |nil=>rfl
   |cons y ys ihy=>
    rw[tyL,tyL,ih y (by simp),ihy fun z hz=>ih z (by simp[hz])]
  by_cases h6:x.op=6
  ·rw[if_pos h6,if_pos h6,attrK_0]
   simp only[ne_eq,not_true_eq_false,if_false]
   unfold clA
   rfl
  ·rw[if_neg h6,if_neg h6,hl]
theorem clA_0(cl:List Nat→Int×Int):clA cl 0=cl:=by
 funext s;unfold clA;rw[if_neg (by simp[attrK_0])]
theorem plA_0(s:List Nat):plA 0 s=none:=(plA_none 0 s).2 (attrK_0 s)
theorem vlA_0(vx:List Nat→Int)(at_:List Int):vlA vx 0 at_=vx:=by
 funext s;unfold vlA;rw[plA_0]
theorem comp_ok{cl:List Nat→Int×Int}{vx:List Nat→Int}{scope:Int}{at_:List Int}(hc:vxOk (clA cl scope) (vlA vx scope at_))(hat:at_.length=(atW scope).length)(x:Ex): ∀k,x.wf=true→nodesL x.args≤100000→x.ty cl scope=(k,0)→FOk at_ (comp vx scope x)∧(comp vx scope x).val at_=x.val0 (vlA vx scope at_)∧inK k (x.val0 (vlA vx scope at_)):=by
 induction x using Ex.ind with
 |h x ih=>
  intro k hwf hn ht
  have hin:inK k (x.val0 (vlA vx scope at_)):=by
   rw[ty_clA]at ht
   exact(fold0 hc 0 (fun s=>attrK_0 s) x k hwf ht).2
  refine and_assoc.1 ⟨?_,hin⟩
  obtain⟨h1,h2,har,hnum,hname,hwl⟩:=wf_node hwf
  have hbd:=inK_bd hin
  have key: ∀f v,comp vx scope x=f→x.val0 (vlA vx scope at_)=v→(bd v→FOk at_ f∧f.val at_=v)→FOk at_ (comp vx scope x)∧(comp vx scope x).val at_=x.val0 (vlA vx scope at_):=by
   rintro f v rfl e h
   rw[e]at hbd ⊢
   exact h hbd
  have k1: ∀n,bd n→FOk at_ (.mk 1 n [])∧(Fm.mk 1 n []).val at_=n:=fun n hb=>⟨(FOk_eq _ _).2 (.inl ⟨rfl,hb⟩),by rw[Fm.val_eq];rfl⟩
  by_cases hq:x.op=1∨x.op=2∨x.op=3
  ·exact key _ _ (by rw[comp_eq,if_pos hq]) (by rw[Ex.val0_eq,if_neg (by omega),if_pos hq]) (k1 _)
  by_cases h4:x.op=4
  ·exact key _ _ (by rw[comp_eq,if_neg hq,if_pos h4]) (by rw[Ex.val0_eq,if_neg (by omega),if_neg hq,if_pos h4]) (k1 _)
  by_cases h5:x.op=5
  ·exact key _ _ (by rw[comp_eq,if_neg hq,if_neg h4,if_pos h5]) (by rw[Ex.val0_eq,if_neg (by omega),if_neg hq,if_neg h4,if_pos h5]) (k1 _)
  by_cases h6:x.op=6
  ·cases hp:plA scope x.name with
   |none=>exact key _ _ (by rw[comp_eq,if_neg hq,if_neg h4,if_neg h5,if_pos h6,hp]) (by rw[Ex.val0_eq,if_pos h6,vlA,hp]) (k1 _)
   |some i=>
    have hi:=plA_at hp
    have hil:i<(atW scope).length:=(List.getElem?_eq_some_iff.1 hi).1
    refine key (.mk 6 (i:Int) []) (at_.getD i 0) (by rw[comp_eq,if_neg hq,if_neg h4,if_neg h5,if_pos h6,hp]) (by rw[Ex.val0_eq,if_pos h6,vlA,hp]) fun hb=>⟨(FOk_eq _ _).2 (.inr (.inl ⟨rfl,Int.natCast_nonneg i, ?_,hb⟩)),by rw[Fm.val_eq];rfl⟩
    show(i:Int).toNat<at_.length
    rw[Int.toNat_natCast,hat];exact hil
  ·refine key _ _ (by rw[comp_eq,if_neg hq,if_neg h4,if_neg h5,if_neg h6]) (by rw[Ex.val0_eq,if_neg h6,if_neg hq,if_neg h4,if_neg h5]) fun hb=> ?_
   have h7:7≤x.op:=by omega
   obtain⟨ts,hts,hr,hk⟩:=ty_node ht h6
   have hlen:ts.length=x.args.length:=tyL_len hts
   have hll:=nodesL_len x.args
   have hys:FOkL at_ (compL vx scope x.args)∧valL at_ (compL vx scope x.args)=val0L (vlA vx scope at_) x.args∧inKs ts (val0L (vlA vx scope at_) x.args):=by
    clear ht har hr hwf hnum hname hlen hbd hin hll key hb
    generalize x.args=xs at ih hts hwl hn
    induction xs generalizing ts with
    |nil=>rw[tyL]at hts;cases hts;exact⟨by rw[compL,FOkL];trivial,by rw[compL,valL,val0L],trivial⟩
    |cons z zs ihz=>
     obtain⟨t,us,rfl,e1,e2⟩:=tyL_cons hts
     rw[wfL,Bool.and_eq_true]at hwl
     rw[nodesL]at hn
     have hz:=z.nodes_eq
     obtain⟨f1,f2,f3⟩:=ih z (by simp) t hwl.1 (by omega) e1
     obtain⟨g1,g2,g3⟩:=ihz us (fun y hy=>ih y (by simp[hy])) e2 hwl.2 (by omega)
     rw[compL,valL,val0L,FOkL,f2,g2]
     exact⟨⟨f1,g1⟩,rfl,f3,g3⟩
   obtain⟨i1,i2,i3⟩:=hys
   have hcl:(compL vx scope x.args).length=x.args.length:=by rw[compL_map,List.length_map]
   obtain⟨hv,_⟩:=ap_ok i3 h7 h2 (by rw[hlen];exact har) hr hk
   refine⟨(FOk_eq _ _).2 (.inr (.inr ⟨h7,h2,by show arOk x.op (compL vx scope x.args).length=true;rw[hcl];exact har,by show(compL vx scope x.args).length≤Lim;rw[hcl];exact lim_of (by omega),i1,by show vOk x.op (valL at_ (compL vx scope x.args));rw[i2];exact hv⟩)), ?_⟩
   rw[Fm.val_eq]
   show(if x.op=1 then(0:Int)else if x.op=6 then at_.getD (0:Int).toNat 0 else apS x.op (valL at_ (compL vx scope x.args)))=apS x.op (val0L (vlA vx scope at_) x.args)
   rw[if_neg (by omega),if_neg h6,i2]
end Go.Proofs.YtfenhjpkomldcaaGreat
namespace Go.Proofs.YtfenhjpkomldcaaGreat
open Go Go.Ev
def cpF(lT:T)(m:List (List Nat×Nat))(kn:List (Nat×Int)):List Ent:=cpK lT m kn 4
section
variable(lT:T)(m:List (List Nat×Nat))(kn:List (Nat×Int))
theorem cpF0:getE (cpF lT m kn) 0=⟨1,.map (m.map fun p=>sK p.1) (m.map fun p=>nK p.2) false⟩:=nr rfl
theorem cpF1:getE (cpF lT m kn) 1=⟨1,.map (kn.map fun p=>nK p.1) (kn.map fun p=>iV p.2) false⟩:=nr rfl
theorem cpF2:getE (cpF lT m kn) 2=⟨1,.cells [lT,.mp .S 0 1,.mp .S 1 1,.mp .S 3 1,.mp .S 4 1,.mp .S 5 1,.mp .S 6 1] 0 true⟩:=nr rfl
theorem cpF3:getE (cpF lT m kn) 3=⟨1,.map ((plM [] 0).map fun p=>sK p.1) ((plM [] 0).map fun p=>nK p.2) false⟩:=nr rfl
theorem cpF4:getE (cpF lT m kn) 4=⟨1,.map ((plM dutyW 11).map fun p=>sK p.1) ((plM dutyW 11).map fun p=>nK p.2) false⟩:=nr rfl
theorem cpF5:getE (cpF lT m kn) 5=⟨1,.map ((plM restW 25).map fun p=>sK p.1) ((plM restW 25).map fun p=>nK p.2) false⟩:=nr rfl
theorem cpF6:getE (cpF lT m kn) 6=⟨1,.map ((plM pairW 7).map fun p=>sK p.1) ((plM pairW 7).map fun p=>nK p.2) false⟩:=nr rfl
theorem cpF1s(kn':List (Nat×Int)):setE (cpF lT m kn) 1 ⟨1,.map (kn'.map fun p=>nK p.1) (kn'.map fun p=>iV p.2) false⟩=cpF lT m kn':=nr rfl
end
def kOf:List Ent→List (Nat×Int)
 |_::⟨_,.map ks vs _⟩::_=>(ks.zip vs).map fun p=>((match p.1 with| .i _ n=>n.toNat|_=>0),(match p.2 with| .i _ n=>n|_=>0))
 |_=> []
theorem kOf_cp(lT:T)(m:List (List Nat×Nat)): ∀kn,kOf (cpF lT m kn)=kn:=by
 intro kn
 unfold kOf cpF cpK cpS
 simp only
 induction kn with
 |nil=>rfl
 |cons p kn ih=>rw[List.map_cons,List.map_cons,List.zip_cons_cons,List.map_cons,ih];obtain⟨a,b⟩:=p;simp[nK,iV]
noncomputable def kL(E:Env)(n:Nat)(a:ACode)(fr:Fr)(lh:Tri Ent)(sh:List Ent):List (Nat×Int):=kOf (shL E n a fr lh sh)
theorem kL_ex{E:Env}{n:Nat}{a:ACode}{fr:Fr}{lh:Tri Ent}{sh:List Ent}{lT:T}{m:List (List Nat×Nat)}{P:List (Nat×Int)→Prop}(h: ∃kn,shL E n a fr lh sh=cpF lT m kn∧P kn):shL E n a fr lh sh=cpF lT m (kL E n a fr lh sh)∧P (kL E n a fr lh sh):=by
 obtain⟨kn,h1,h2⟩:=h
 have:kL E n a fr lh sh=kn:=by unfold kL;rw[h1,kOf_cp]
 rw[this];exact⟨h1,h2⟩
theorem tyL_at{cl:List Nat→Int×Int}{scope:Int}: ∀{xs:List Ex} {ts:List Int},tyL cl scope xs= .ok ts→ ∀(k:Nat) (hk:k<xs.length),∃t,xs[k].ty cl scope=(t,0)
 | [],ts,h,k,hk=>by simp at hk
 |x::xs,ts,h,k,hk=>by
  obtain⟨t,us,rfl,e1,e2⟩:=tyL_cons h
  cases k with
  |zero=>exact⟨t,e1⟩
  |succ k=>exact tyL_at e2 k (by simpa using hk)
section
variable(l:Cs)(lT:T)(cl:List T)(hl:IsSl lT l.length cl)(hcl:IsCl l cl)(hlen:l.length≤Lim)
def VnOk(kn:List (Nat×Int)):Prop:= ∀i v,lookA kn i=some v→v=(vlC l l.length).getD i 0
def cmqP(n:Nat)(scope:Int)(y:Ex):Prop:= ∀k kn cs,VnOk l kn→IsEx y cs→y.nodes≤200→y.wf=true→y.ty (CL l n) scope=(k,0)→
 ∃cf kn',DCall pE 91 [.ptr .S 2 1 0,.i .i64 scope,.agg cs] (cpF lT (mapI l l.length) kn)=some (.agg cf,cpF lT (mapI l l.length) kn')∧IsFm (comp (VXa l) scope y) cf∧VnOk l kn'∧ ∀i,n≤i→lookA kn' i=lookA kn i
def cstQ(j:Nat):Prop:= ∀s t kn,idxC l s=some j→CLa l s=(t,0)→VnOk l kn→ ∃kn',DCall pE 138 [.ptr .S 2 1 0,.s s] (cpF lT (mapI l l.length) kn)=some (.i .i64 (VXa l s),cpF lT (mapI l l.length) kn')∧VnOk l kn'∧ ∀i,j<i→lookA kn' i=lookA kn i
theorem cmq1(n:Nat)(scope:Int)(xs:List Ex)(ih: ∀y∈xs,cmqP l lT n scope y)(a:T)(cc:List T)(ha:IsSl a xs.length cc)(hx:IsExs xs cc)(hn:nodesL xs≤200)(hwf:wfL xs=true)(ts:List Int)(hty:tyL (CL l n) scope xs= .ok ts)(kn:List (Nat×Int))(hkn:VnOk l kn)(op:T)(g g9:Nat)(c6:Ent)(fr:Fr)(lh:Tri Ent)(sh:List Ent)(hsh:sh=cpF lT (mapI l l.length) kn)
  (h0:getF fr 0= .ptr .S 2 1 0) (h1:getF fr 1= .i .i64 scope) (h9:getF fr 9= .ptr .L 9 g9 0) (h63:getF fr 63=a) (h64:getF fr 64= .i .i64 (xs.length:Int)) (h65:getF fr 65= .i .i64 0) (o6:getO lh 6=c6) (o9:getO lh 9=⟨g9,.cells [op,.i .i64 0,.isl .L 60 g 0 xs.length 3] 0 true⟩) (o60:getO lh 60=⟨g,.cells (repl [.i .i64 0,.i .i64 0,.nilsl] xs.length) 0 false⟩):
  DC pE 80 (.loop c91_L1) ⟨fr,lh,sh⟩=some (.ext 1,⟨frL pE 80 c91_L1 fr lh sh,lhL pE 80 c91_L1 fr lh sh,shL pE 80 c91_L1 fr lh sh⟩)∧
  (getO (lhL pE 80 c91_L1 fr lh sh) 6=c6∧getO (lhL pE 80 c91_L1 fr lh sh) 9=⟨g9,.cells [op,.i .i64 0,.isl .L 60 g 0 xs.length 3] 0 true⟩∧(∃cs,getO (lhL pE 80 c91_L1 fr lh sh) 60=⟨g,.cells cs 0 false⟩∧IsFms (compL (VXa l) scope xs) cs)∧
    (∃kn',shL pE 80 c91_L1 fr lh sh=cpF lT (mapI l l.length) kn'∧VnOk l kn'∧ ∀i,n≤i→lookA kn' i=lookA kn i)):=by
 refine loop_rule (P:=fun fr' lh' sh'=>getO lh' 6=c6∧getO lh' 9=⟨g9,.cells [op,.i .i64 0,.isl .L 60 g 0 xs.length 3] 0 true⟩∧(∃cs,getO lh' 60=⟨g,.cells cs 0 false⟩∧IsFms (compL (VXa l) scope xs) cs)∧(∃kn',sh'=cpF lT (mapI l l.length) kn'∧VnOk l kn'∧ ∀i,n≤i→lookA kn' i=lookA kn i))
  (loop_inv (fun k st=> ∃(fr:Fr) (lh1:Tri Ent) (A:List T) (kn1:List (Nat×Int)),st=⟨fr,lh1,cpF lT (mapI l l.length) kn1⟩∧getF fr 0= .ptr .S 2 1 0∧getF fr 1= .i .i64 scope∧getF fr 9= .ptr .L 9 g9 0∧getF fr 63=a∧getF fr 64= .i .i64 (xs.length:Int)∧getF fr 65= .i .i64 (k:Int)∧getO lh1 6=c6∧getO lh1 9=⟨g9,.cells [op,.i .i64 0,.isl .L 60 g 0 xs.length 3] 0 true⟩∧
    getO lh1 60=⟨g,.cells (A++repl [.i .i64 0,.i .i64 0,.nilsl] (xs.length-k)) 0 false⟩∧IsFms (compL (VXa l) scope (xs.take k)) A∧VnOk l kn1∧ ∀i,n≤i→lookA kn1 i=lookA kn i) _ xs.length ?_ ?_ 0 _ (Nat.zero_le _) ⟨fr,lh,[],kn,by rw[hsh],h0,h1,h9,h63,h64,h65,o6,o9,by rw[o60];rfl,by rw[List.take_zero,compL];exact IsFms.nil,hkn,fun _ _=>rfl⟩)
 ·rintro k _ hk ⟨fr,lh1,A,kn1,rfl,h0,h1,h9,h63,h64,h65,o6,o9,o60,hA,hkn1,hfr1⟩
  left
  have hk':(k:Int)<xs.length:=by omega
  have hlen':=nodesL_len xs
  have hyk:=nodesL_mem (List.getElem_mem hk)
  have hw:=wr_succL (k:=k) (lim_of (by omega))
  obtain⟨b,cb,rr,hia,hb1,hb2,hb⟩:=arg_at ha hx k hk
  obtain⟨t,ht⟩:=tyL_at hty k hk
  obtain⟨cf,kn2,hcall,hcf,hkn2,hfr2⟩:=ih xs[k] (List.getElem_mem hk) t kn1 _ hkn1 hb (by omega) (wfL_mem.1 hwf _ (List.getElem_mem hk)) ht
  obtain⟨fa,fc,rfl,hf1,hf2⟩:=hcf.cells
  have hAl:A.length=k*3:=by rw[hA.len,compL_map];simp;omega
  generalize hy:comp (VXa l) scope xs[k]=y at*
  have hrl:(A++repl [T.i .i64 0,T.i .i64 0,T.nilsl] (xs.length-k)).length=xs.length*3:=by rw[List.length_append,repl_len,hAl];simp;omega
  have hsp:splice (A++repl [T.i .i64 0,T.i .i64 0,T.nilsl] (xs.length-k)) (k*3) [.i .i64 y.op,.i .i64 y.num,fa]=(A++ [.i .i64 y.op,.i .i64 y.num,fa])++repl [T.i .i64 0,T.i .i64 0,T.nilsl] (xs.length-(k+1)):=by
   rw[show xs.length-k=(xs.length-(k+1))+1 by omega,repl_succ,splice_row A [T.i .i64 0,T.i .i64 0,T.nilsl] _ [T.i .i64 y.op,T.i .i64 y.num,fa] (k*3) hAl rfl]
  have hkl1:k*3+3≤xs.length*3:=by omega
  simp(maxDischargeDepth:=6) only[qF,qGO0,qGO1,qGO2,qGO3,qGO4,qGO5,splice,Nat.reduceAdd,reduceCtorEq,Nat.reduceLT,Nat.reduceLeDiff,Nat.reduceEqDiff,qDR0,getL,qKP0,c91_L1,h0,h1,h9,h63,h64,h65,o9,o60,hk',hia,hw,hcall,dc91,dd91,hb1.kept1,hf1.froz1,hk,hrl,hsp,hkl1]
  refine⟨_,rfl,_,_,A++ [.i .i64 y.op,.i .i64 y.num,fa],kn2,rfl, ?_, ?_, ?_, ?_, ?_, ?_, ?_, ?_, ?_, ?_,hkn2,fun i hi=>by rw[hfr2 i hi,hfr1 i hi]⟩
  all_goals first|(simp(maxDischargeDepth:=6) only[qGO2,qGO4,reduceCtorEq,Nat.reduceEqDiff,h0,h1,h9,h63,h64,o6,o9];done)|skip
  rw[List.take_succ_eq_append_getElem hk,compL_map,List.map_append,←compL_map,List.map_cons,hy]
  exact IsFms.append hA (IsFms.one hcf)
 ·rintro _ ⟨fr,lh1,A,kn1,rfl,h0,h1,h9,h63,h64,h65,o6,o9,o60,hA,hkn1,hfr1⟩
  rw[Nat.sub_self,show repl [T.i .i64 0,T.i .i64 0,T.nilsl] 0= []from rfl,List.append_nil]at o60
  rw[List.take_length]at hA
  simp(maxDischargeDepth:=6) only[qGO0,qGO1,qGO2,qGO4,qGO5,Nat.reduceLT,c91_L1,h64,h65,Int.lt_irrefl]
  exact⟨_,_,(by simp:Out.ext 1≠ .nrm),rfl,rfl,o6,o9,⟨A,o60,hA⟩,kn1,rfl,hkn1,hfr1⟩
end
end Go.Proofs.YtfenhjpkomldcaaGreat
