/- Expressions compiled: the program's Compile and Constant. Constants' values: the program's Constant. Expressions without attributes, compiled, in any state. The program's reduce at literals. The program's reduce. Conditions: the theorems' own. -/
import Derived.Test.YtfenhjpkomldcaaGreatM10
import Derived.KernelRfl
set_option maxRecDepth 100000
set_option linter.unusedSimpArgs false
set_option linter.unusedVariables false
set_option maxHeartbeats 16000000
namespace Go.Proofs.YtfenhjpkomldcaaGreat
open Go Go.Ev
section
variable(l:Cs)(lT:T)(cl:List T)(hl:IsSl lT l.length cl)(hcl:IsCl l cl)(hlen:l.length≤Lim)
theorem cmq_ev(n:Nat)(hnl:n≤l.length)(hc: ∀j,j<n→cstQ l lT j)(scope:Int)(hsc:scope=0∨scope=1∨scope=2∨scope=3)(x:Ex):cmqP l lT n scope x:=by
 induction x using Ex.ind with
 |h x ih=>
  intro k kn cs hkn hx hn hwf ht
  obtain⟨a,cc,rfl,ha,hxs⟩:=hx.cells
  obtain⟨h1,h2,har,hnum,hname,hwl⟩:=wf_node hwf
  have hnd:=x.nodes_eq
  rw[p_fun fn91 (by simp[c91]),comp_eq]
  by_cases e1:x.op=1
  ·rw[if_pos (.inl e1)]
   simp(maxDischargeDepth:=6) only[qF,qGO0,qGO1,qGO2,qGO3,qGO4,qGO5,buildV,splice,fills,Nat.reduceAdd,reduceCtorEq,Nat.reduceLT,Nat.reduceLeDiff,Nat.reduceEqDiff,Int.reduceEq,c91,e1]
   exact⟨_,kn,rfl,IsFm.of (x:= .mk 1 x.num []) (Or.inl ⟨rfl,rfl,rfl⟩) IsFms.nil,hkn,fun _ _=>rfl⟩
  by_cases e2:x.op=2
  ·rw[if_pos (.inr (.inl e2))]
   simp(maxDischargeDepth:=6) only[qF,qGO0,qGO1,qGO2,qGO3,qGO4,qGO5,buildV,splice,fills,Nat.reduceAdd,reduceCtorEq,Nat.reduceLT,Nat.reduceLeDiff,Nat.reduceEqDiff,Int.reduceEq,c91,e2]
   exact⟨_,kn,rfl,IsFm.of (x:= .mk 1 x.num []) (Or.inl ⟨rfl,rfl,rfl⟩) IsFms.nil,hkn,fun _ _=>rfl⟩
  by_cases e3:x.op=3
  ·rw[if_pos (.inr (.inr e3))]
   simp(maxDischargeDepth:=6) only[qF,qGO0,qGO1,qGO2,qGO3,qGO4,qGO5,buildV,splice,fills,Nat.reduceAdd,reduceCtorEq,Nat.reduceLT,Nat.reduceLeDiff,Nat.reduceEqDiff,Int.reduceEq,c91,e3]
   exact⟨_,kn,rfl,IsFm.of (x:= .mk 1 x.num []) (Or.inl ⟨rfl,rfl,rfl⟩) IsFms.nil,hkn,fun _ _=>rfl⟩
  rw[if_neg (by omega)]
  by_cases e4:x.op=4
  ·rw[if_pos e4]
   simp(maxDischargeDepth:=6) only[qF,qGO0,qGO1,qGO2,qGO3,qGO4,qGO5,buildV,splice,fills,Nat.reduceAdd,reduceCtorEq,Nat.reduceLT,Nat.reduceLeDiff,Nat.reduceEqDiff,Int.reduceEq,c91,e4]
   exact⟨_,kn,rfl,IsFm.of (x:= .mk 1 1 []) (Or.inl ⟨rfl,rfl,rfl⟩) IsFms.nil,hkn,fun _ _=>rfl⟩
  rw[if_neg e4]
  by_cases e5:x.op=5
  ·rw[if_pos e5]
   simp(maxDischargeDepth:=6) only[qF,qGO0,qGO1,qGO2,qGO3,qGO4,qGO5,buildV,splice,fills,Nat.reduceAdd,reduceCtorEq,Nat.reduceLT,Nat.reduceLeDiff,Nat.reduceEqDiff,Int.reduceEq,c91,e5]
   exact⟨_,kn,rfl,IsFm.of (x:= .mk 1 0 []) (Or.inl ⟨rfl,rfl,rfl⟩) IsFms.nil,hkn,fun _ _=>rfl⟩
  rw[if_neg e5]
  by_cases h6:x.op=6
  ·rw[if_pos h6]
   rw[Ex.ty_eq,if_pos h6]at ht
   have hlk:=lkS (plM (atW scope) (atW scope).length) x.name
   change _=some (ixT (plA scope x.name))at hlk
   by_cases hz:attrK scope x.name=0
   ·rw[if_neg (by simp[hz])]at ht
    have hp:=(plA_none scope x.name).2 hz
    rw[hp]at hlk ⊢
    obtain⟨i,hil,hin,hidx,_,_,hcla,_⟩:=CL_some hnl ht
    obtain⟨kn',hcall,hkn',hfr⟩:=hc i hin x.name k kn hidx hcla hkn
    simp only[ixT]at hlk
    rcases hsc with rfl|rfl|rfl|rfl
    ·change lkIn _ ((plM [] 0).map _) ((plM [] 0).map _) _ _ _=_ at hlk
     simp(maxDischargeDepth:=6) only[qF,qGO0,qGO1,qGO2,qGO3,qGO4,qGO5,buildV,iaAV,lkV,splice,fills,backD,calmOp,Nat.reduceAdd,reduceCtorEq,Nat.reduceLT,Nat.reduceLeDiff,Nat.reduceEqDiff,Int.reduceToNat,Int.reduceLE,Int.reduceLT,Int.reduceEq,qKP0,c91,h6,cpF2,cpF3,lkE_map,hlk,hcall,dc138]
     exact⟨_,kn',rfl,IsFm.of (x:= .mk 1 (VXa l x.name) []) (Or.inl ⟨rfl,rfl,rfl⟩) IsFms.nil,hkn',fun i hi=>hfr i (by omega)⟩
    ·change lkIn _ ((plM dutyW 11).map _) ((plM dutyW 11).map _) _ _ _=_ at hlk
     simp(maxDischargeDepth:=6) only[qF,qGO0,qGO1,qGO2,qGO3,qGO4,qGO5,buildV,iaAV,lkV,splice,fills,backD,calmOp,Nat.reduceAdd,reduceCtorEq,Nat.reduceLT,Nat.reduceLeDiff,Nat.reduceEqDiff,Int.reduceToNat,Int.reduceLE,Int.reduceLT,Int.reduceEq,qKP0,c91,h6,cpF2,cpF4,lkE_map,hlk,hcall,dc138]
     exact⟨_,kn',rfl,IsFm.of (x:= .mk 1 (VXa l x.name) []) (Or.inl ⟨rfl,rfl,rfl⟩) IsFms.nil,hkn',fun i hi=>hfr i (by omega)⟩
    ·change lkIn _ ((plM restW 25).map _) ((plM restW 25).map _) _ _ _=_ at hlk
     simp(maxDischargeDepth:=6) only[qF,qGO0,qGO1,qGO2,qGO3,qGO4,qGO5,buildV,iaAV,lkV,splice,fills,backD,calmOp,Nat.reduceAdd,reduceCtorEq,Nat.reduceLT,Nat.reduceLeDiff,Nat.reduceEqDiff,Int.reduceToNat,Int.reduceLE,Int.reduceLT,Int.reduceEq,qKP0,c91,h6,cpF2,cpF5,lkE_map,hlk,hcall,dc138]
     exact⟨_,kn',rfl,IsFm.of (x:= .mk 1 (VXa l x.name) []) (Or.inl ⟨rfl,rfl,rfl⟩) IsFms.nil,hkn',fun i hi=>hfr i (by omega)⟩
    ·change lkIn _ ((plM pairW 7).map _) ((plM pairW 7).map _) _ _ _=_ at hlk
     simp(maxDischargeDepth:=6) only[qF,qGO0,qGO1,qGO2,qGO3,qGO4,qGO5,buildV,iaAV,lkV,splice,fills,backD,calmOp,Nat.reduceAdd,reduceCtorEq,Nat.reduceLT,Nat.reduceLeDiff,Nat.reduceEqDiff,Int.reduceToNat,Int.reduceLE,Int.reduceLT,Int.reduceEq,qKP0,c91,h6,cpF2,cpF6,lkE_map,hlk,hcall,dc138]
     exact⟨_,kn',rfl,IsFm.of (x:= .mk 1 (VXa l x.name) []) (Or.inl ⟨rfl,rfl,rfl⟩) IsFms.nil,hkn',fun i hi=>hfr i (by omega)⟩
   ·cases hp:plA scope x.name with
    |none=>exact absurd ((plA_none scope x.name).1 hp) hz
    |some i=>
     rw[hp]at hlk
     rw[show ixT (some i)= .tup [.i .i64 (i:Int),.b true]from rfl]at hlk
     have hf:IsFm (.mk 6 (i:Int) []) [.i .i64 6,.i .i64 (i:Int),.nilsl]:=IsFm.of (x:= .mk 6 (i:Int) []) (Or.inl ⟨rfl,rfl,rfl⟩) IsFms.nil
     rcases hsc with rfl|rfl|rfl|rfl
     ·exact absurd (attrK_0 _) hz
     ·change lkIn _ ((plM dutyW 11).map _) ((plM dutyW 11).map _) _ _ _=_ at hlk
      simp(maxDischargeDepth:=6) only[qF,qGO0,qGO1,qGO2,qGO3,qGO4,qGO5,buildV,iaAV,lkV,splice,fills,backD,calmOp,Nat.reduceAdd,reduceCtorEq,Nat.reduceLT,Nat.reduceLeDiff,Nat.reduceEqDiff,Int.reduceToNat,Int.reduceLE,Int.reduceLT,Int.reduceEq,c91,h6,cpF2,cpF4,lkE_map,hlk]
      exact⟨_,kn,rfl,hf,hkn,fun _ _=>rfl⟩
     ·change lkIn _ ((plM restW 25).map _) ((plM restW 25).map _) _ _ _=_ at hlk
      simp(maxDischargeDepth:=6) only[qF,qGO0,qGO1,qGO2,qGO3,qGO4,qGO5,buildV,iaAV,lkV,splice,fills,backD,calmOp,Nat.reduceAdd,reduceCtorEq,Nat.reduceLT,Nat.reduceLeDiff,Nat.reduceEqDiff,Int.reduceToNat,Int.reduceLE,Int.reduceLT,Int.reduceEq,c91,h6,cpF2,cpF5,lkE_map,hlk]
      exact⟨_,kn,rfl,hf,hkn,fun _ _=>rfl⟩
     ·change lkIn _ ((plM pairW 7).map _) ((plM pairW 7).map _) _ _ _=_ at hlk
      simp(maxDischargeDepth:=6) only[qF,qGO0,qGO1,qGO2,qGO3,qGO4,qGO5,buildV,iaAV,lkV,splice,fills,backD,calmOp,Nat.reduceAdd,reduceCtorEq,Nat.reduceLT,Nat.reduceLeDiff,Nat.reduceEqDiff,Int.reduceToNat,Int.reduceLE,Int.reduceLT,Int.reduceEq,c91,h6,cpF2,cpF6,lkE_map,hlk]
      exact⟨_,kn,rfl,hf,hkn,fun _ _=>rfl⟩
  ·rw[if_neg h6]
   obtain⟨ts,hts,hr,hk⟩:=ty_node ht h6
   have hll:=nodesL_len x.args
   have hlim:x.args.length≤Lim:=lim_of (by omega)
   have hmk:x.args.length*40≤roomy∧x.args.length≤roomy:=by unfold Lim at hlim;unfold roomy;omega
   have hL1:=fun fr lh sh hsh h0 h1 h9 h63 h64 h65 o6 o9 o60=>cmq1 l lT n scope x.args (fun y hy=>ih y hy) a cc ha hxs (by omega) hwl ts hts kn hkn (.i .i64 x.op) 1 1 ⟨1,.cells [.i .i64 0,.i .i64 0,.nilsl] 0 true⟩ fr lh sh hsh h0 h1 h9 h63 h64 h65 o6 o9 o60
   have hL:=fun fr lh sh hsh h0 h1 h9 h63 h64 h65 o6 o9 o60=>And.intro (hL1 fr lh sh hsh h0 h1 h9 h63 h64 h65 o6 o9 o60).1 (And.intro (hL1 fr lh sh hsh h0 h1 h9 h63 h64 h65 o6 o9 o60).2.1 (And.intro (hL1 fr lh sh hsh h0 h1 h9 h63 h64 h65 o6 o9 o60).2.2.1 (And.intro (row_ex (hL1 fr lh sh hsh h0 h1 h9 h63 h64 h65 o6 o9 o60).2.2.2.1).1 (kL_ex (hL1 fr lh sh hsh h0 h1 h9 h63 h64 h65 o6 o9 o60).2.2.2.2).1)))
   have hF:=fun fr lh sh hsh h0 h1 h9 h63 h64 h65 o6 o9 o60=>(row_ex (hL1 fr lh sh hsh h0 h1 h9 h63 h64 h65 o6 o9 o60).2.2.2.1).2
   have hM:=fun fr lh sh hsh h0 h1 h9 h63 h64 h65 o6 o9 o60=>(kL_ex (hL1 fr lh sh hsh h0 h1 h9 h63 h64 h65 o6 o9 o60).2.2.2.2).2
   have hlenF:=fun fr lh sh hsh h0 h1 h9 h63 h64 h65 o6 o9 o60=>(hF fr lh sh hsh h0 h1 h9 h63 h64 h65 o6 o9 o60).len
   have hcl:(compL (VXa l) scope x.args).length=x.args.length:=by rw[compL_map];simp
   rw[hcl]at hlenF
   simp(maxDischargeDepth:=6) only[qF,qGO0,qGO1,qGO2,qGO3,qGO4,qGO5,Nat.reduceShiftRight,Nat.reduceMod,buildV,mkslV,mkOk,splice,fills,Nat.reduceAdd,reduceCtorEq,Nat.reduceLT,Nat.reduceLeDiff,Nat.reduceEqDiff,qDR0,qDR1,getL,qDX0,c91,c91_L1_w,e1,e2,e3,e4,e5,h6,ha.lenI,hmk,hL,hlenF]
   generalize hX:rowC _ _=X
   generalize hMX:kL _ _ _ _ _ _=kn'
   have hXF:IsFms (compL (VXa l) scope x.args) X:=by
    rw[←hX]
    refine hF _ _ _ rfl ?_ ?_ ?_ ?_ ?_ ?_ ?_ ?_ ?_ <;> simp(maxDischargeDepth:=6) only[qGO2,qGO4,reduceCtorEq,Nat.reduceEqDiff]
   have hMF:VnOk l kn'∧ ∀i,n≤i→lookA kn' i=lookA kn i:=by
    rw[←hMX]
    refine hM _ _ _ rfl ?_ ?_ ?_ ?_ ?_ ?_ ?_ ?_ ?_ <;> simp(maxDischargeDepth:=6) only[qGO2,qGO4,reduceCtorEq,Nat.reduceEqDiff]
   have hXl:=hXF.len
   rw[hcl]at hXl
   rw[←hXl,List.take_length]
   exact⟨_,kn',rfl,IsFm.of (x:= .mk x.op 0 (compL (VXa l) scope x.args)) (Or.inr ⟨false,by show T.sl X x.args.length false= .sl X (compL (VXa l) scope x.args).length false;rw[hcl]⟩) hXF,hMF.1,hMF.2⟩
end
end Go.Proofs.YtfenhjpkomldcaaGreat
namespace Go.Proofs.YtfenhjpkomldcaaGreat
open Go Go.Ev
theorem valid_size{x:Ex}(hv:validE x=0):x.nodes≤200∧x.depth≤16:=by
 unfold validE at hv
 by_cases h:big x
 ·rw[if_pos h]at hv;cases hv
 ·unfold big at h;omega
theorem fzV_ptrG{lh:Tri Ent}{sh:List Ent}{keep:Bool}{k g wm:Nat}{cs:List T}{bx:Bool}(h:getO lh k=⟨g,.cells cs wm bx⟩)(hc:cs.all froz1=true):fzV lh sh keep (.ptr .L k g 0)=some (.vp cs,[(.L,k,⟨g,.cells cs cs.length bx⟩)]):=by
 unfold fzV fzFuel
 have hk:(keep&&Sp.L==Sp.S)=false:=by cases keep <;> rfl
 show Q.run _ _ (if(keep&&Sp.L==Sp.S)=true then _ else _)=_
 rw[hk]
 simp only[Bool.false_eq_true,if_false,Q.run]
 have h':(St.mk .nil lh sh).get .L k=⟨g,.cells cs wm bx⟩:=h
 rw[h']
 simp only[if_true,List.drop_zero]
 have:mapQ (fz false 7) cs= .ret (cs,[]):=by
  clear h h'
  induction cs with
  |nil=>rfl
  |cons c cs ih=>
   rw[List.all_cons,Bool.and_eq_true]at hc
   simp only[mapQ,fz_froz1 hc.1,ih hc.2,Q.bind,List.append_nil]
 rw[this]
 rfl
theorem const_comp{l:Cs}{s:List Nat}{t:Int}(h:CLa l s=(t,0)): ∃i,∃hi:i<l.length,idxC l s=some i∧validE l[i].2=0∧l[i].2.ty (CL l i) 0=(t,0)∧FOk [] (comp (VXa l) 0 l[i].2)∧(comp (VXa l) 0 l[i].2).val []=VXa l s∧VXa l s=(vlC l l.length).getD i 0:=by
 obtain⟨i,hi,hidx,hv,ht,hta,hfs,hin,_,hvl⟩:=foldS_const h
 have hwf:=valid_wf hv
 have hnd:=(l[i].2).nodes_eq
 have hsz:=valid_size hv
 have h0:vxOk (clA (CLa l) 0) (vlA (VXa l) 0 []):=by rw[clA_0,vlA_0];exact vxa_ok l
 obtain⟨h1,h2,h3⟩:=comp_ok h0 rfl l[i].2 t hwf (by omega) hta
 rw[vlA_0]at h2 h3
 have hf:=(fold0 (vxa_ok l) 0 (fun s=>attrK_0 s) l[i].2 t hwf hta).1
 have hf':foldS l 0 l[i].2=litX t (l[i].2.val0 (VXa l)):=hf
 rw[hfs]at hf'
 have e1:=(litX_ok (scope:=0) hin).2.2
 have e2:=(litX_ok (scope:=0) h3).2.2
 rw[←hf',e1]at e2
 exact⟨i,hi,hidx,hv,ht,h1,by rw[h2,e2],hvl⟩
section
variable(l:Cs)(lT:T)(cl:List T)(hl:IsSl lT l.length cl)(hcl:IsCl l cl)(hlen:l.length≤Lim)
include hl hcl
theorem cstQ_ev: ∀j,j<l.length→cstQ l lT j:=by
 intro j
 induction j using Nat.strongRecOn with
 |ind j ih=>
  intro hj s t kn hidx hcla hkn
  obtain⟨j',hj',hidx',hv,ht,hok,hval,hvl⟩:=const_comp hcla
  rw[hidx]at hidx'
  cases hidx'
  have hlk0:=lkS (mapI l l.length) s
  rw[mapI_look l s l.length (Nat.le_refl _),List.take_length,hidx]at hlk0
  rw[show ixT (some j)= .tup [.i .i64 (j:Int),.b true]from rfl]at hlk0
  have hlk:lkIn (.one .int) (kn.map fun p=>nK p.1) (kn.map fun p=>iV p.2) (.i .i64 (j:Int)) (.i .i64 0) true=_:=lk_A (kT:=nK) (vT:=iV) heqN (fun _=>rfl) kn j (.i .i64 0)
  rw[p_fun fn138 (by simp[c138])]
  cases hq:lookA kn j with
  |some v=>
   have e:=hkn j v hq
   rw[hq]at hlk
   simp only[show iV v= .i .i64 v from rfl]at hlk
   rw[hvl,←e]
   simp(maxDischargeDepth:=6) only[qF,qGO0,qGO1,qGO2,qGO3,qGO4,lkV,reduceCtorEq,Nat.reduceLT,Nat.reduceEqDiff,c138,cpF2,cpF0,cpF1,lkE_map,hlk0,hlk]
   exact⟨kn,rfl,hkn,fun _ _=>rfl⟩
  |none=>
   rw[hq]at hlk
   simp only at hlk
   obtain⟨b,cb,r,hia,hb1,hb2,hb⟩:=const_at hl hcl j hj
   obtain⟨cf,kn',hcall,hcf,hkn',hfr⟩:=cmq_ev l lT j (Nat.le_of_lt hj) (fun i hi=>ih i hi (by omega)) 0 (.inl rfl) l[j].2 t kn _ hkn hb (valid_size hv).1 (valid_wf hv) ht
   obtain⟨fa,fc,rfl,hf1,hf2⟩:=hcf.cells
   have hvc:=val_ev [] .nilsl (Or.inl ⟨rfl,rfl,rfl⟩) (comp (VXa l) 0 l[j].2) fa fc [] hf1 hf2 hok
   rw[hval]at hvc
   have hno:lookA kn' j=none:=by rw[hfr j (Nat.le_refl _),hq]
   have hput:putK (.one .int) (.i .i64 (j:Int)) (.i .i64 (VXa l s)) (kn'.map fun p=>nK p.1) (kn'.map fun p=>iV p.2)=_:=put_A (kT:=nK) (vT:=iV) heqN kn' j (VXa l s) hno
   generalize comp (VXa l) 0 l[j].2=y at*
   have hc1:([T.i .i64 y.op,T.i .i64 y.num,fa]:List T).all froz1=true:=by simp[hf1.froz1,froz1_i]
   have hpf:=fun lh sh keep (h:getO lh 9=⟨1,.cells [.i .i64 y.op,.i .i64 y.num,fa] 0 true⟩)=>fzV_ptrG (sh:=sh) (keep:=keep) h hc1
   simp(maxDischargeDepth:=6) only[qF,qGO0,qGO1,qGO2,qGO3,qGO4,qGO5,lkV,splice,Nat.reduceAdd,reduceCtorEq,Nat.reduceLT,Nat.reduceLeDiff,Nat.reduceEqDiff,qKP0,c138,cpF2,cpF0,cpF1,lkE_map,hlk0,hlk,hia,hb1.kept1,hcall,dc91,hpf,dp92,hvc,key_i,hput,cpF1s]
   refine⟨_,rfl, ?_, ?_⟩
   ·intro i v hi
    rw[lookA_app]at hi
    cases hi2:lookA kn' i with
    |some u=>rw[hi2]at hi;cases hi;exact hkn' i _ hi2
    |none=>
     rw[hi2]at hi
     simp only at hi
     split at hi
     ·rename_i e;subst e;cases hi;exact hvl
     ·cases hi
   ·intro i hi
    rw[lookA_app,hfr i (by omega)]
    cases lookA kn i with
    |some u=>rfl
    |none=>simp only;rw[if_neg (by omega)]
end
end Go.Proofs.YtfenhjpkomldcaaGreat
namespace Go.Proofs.YtfenhjpkomldcaaGreat
open Go Go.Ev
mutual
def comp0:Ex→Fm
 | .mk op num _ args=>if op=1∨op=2∨op=3 then .mk 1 num []else if op=4 then .mk 1 1 []else if op=5 then .mk 1 0 []else .mk op 0 (comp0L args)
def comp0L:List Ex→List Fm
 | []=> []
 |x::xs=>comp0 x::comp0L xs
end
theorem comp0_eq(x:Ex):comp0 x=if x.op=1∨x.op=2∨x.op=3 then .mk 1 x.num []else if x.op=4 then .mk 1 1 []else if x.op=5 then .mk 1 0 []else .mk x.op 0 (comp0L x.args):=by obtain⟨_,_,_,_⟩:=x;rw[comp0];rfl
theorem comp0L_map: ∀xs,comp0L xs=xs.map comp0
 | []=>rfl
 |x::xs=>by rw[comp0L,comp0L_map xs];rfl
mutual
def Ex.na:Ex→Prop
 | .mk op _ _ args=>op≠6∧naL args
def naL:List Ex→Prop
 | []=>True
 |x::xs=>x.na∧naL xs
end
theorem Ex.na_eq(x:Ex):x.na↔(x.op≠6∧naL x.args):=by obtain⟨_,_,_,_⟩:=x;rw[Ex.na];rfl
theorem naL_mem: ∀{xs:List Ex},naL xs↔ ∀x∈xs,x.na
 | []=>by simp[naL]
 |x::xs=>by rw[naL,naL_mem (xs:=xs)];simp
section
variable(kT:T)(hkT:kept kT=true)(scope:Int)
def cmpP(y:Ex):Prop:= ∀(sh:List Ent) (cs:List T),IsEx y cs→y.nodes≤100000→y.na→ ∃cf,DCall pE 91 [kT,.i .i64 scope,.agg cs] sh=some (.agg cf,sh)∧IsFm (comp0 y) cf
include hkT
theorem cmp1(xs:List Ex)(ih: ∀y∈xs,cmpP kT scope y)(a:T)(cc:List T)(ha:IsSl a xs.length cc)(hx:IsExs xs cc)(hn:nodesL xs≤100000)(hna:naL xs)(op:T)(g g9:Nat)(c6:Ent)(fr:Fr)(lh:Tri Ent)(sh:List Ent)
  (h0:getF fr 0=kT) (h1:getF fr 1= .i .i64 scope) (h9:getF fr 9= .ptr .L 9 g9 0) (h63:getF fr 63=a) (h64:getF fr 64= .i .i64 (xs.length:Int)) (h65:getF fr 65= .i .i64 0) (o6:getO lh 6=c6) (o9:getO lh 9=⟨g9,.cells [op,.i .i64 0,.isl .L 60 g 0 xs.length 3] 0 true⟩) (o60:getO lh 60=⟨g,.cells (repl [.i .i64 0,.i .i64 0,.nilsl] xs.length) 0 false⟩):
  DC pE 80 (.loop c91_L1) ⟨fr,lh,sh⟩=some (.ext 1,⟨frL pE 80 c91_L1 fr lh sh,lhL pE 80 c91_L1 fr lh sh,shL pE 80 c91_L1 fr lh sh⟩)∧
  (getO (lhL pE 80 c91_L1 fr lh sh) 6=c6∧getO (lhL pE 80 c91_L1 fr lh sh) 9=⟨g9,.cells [op,.i .i64 0,.isl .L 60 g 0 xs.length 3] 0 true⟩∧(∃cs,getO (lhL pE 80 c91_L1 fr lh sh) 60=⟨g,.cells cs 0 false⟩∧IsFms (comp0L xs) cs)∧shL pE 80 c91_L1 fr lh sh=sh):=by
 refine loop_rule (P:=fun fr' lh' sh'=>getO lh' 6=c6∧getO lh' 9=⟨g9,.cells [op,.i .i64 0,.isl .L 60 g 0 xs.length 3] 0 true⟩∧(∃cs,getO lh' 60=⟨g,.cells cs 0 false⟩∧IsFms (comp0L xs) cs)∧sh'=sh)
  (loop_inv (fun k st=> ∃(fr:Fr) (lh1:Tri Ent) (A:List T),st=⟨fr,lh1,sh⟩∧getF fr 0=kT∧getF fr 1= .i .i64 scope∧getF fr 9= .ptr .L 9 g9 0∧getF fr 63=a∧getF fr 64= .i .i64 (xs.length:Int)∧getF fr 65= .i .i64 (k:Int)∧getO lh1 6=c6∧getO lh1 9=⟨g9,.cells [op,.i .i64 0,.isl .L 60 g 0 xs.length 3] 0 true⟩∧
    getO lh1 60=⟨g,.cells (A++repl [.i .i64 0,.i .i64 0,.nilsl] (xs.length-k)) 0 false⟩∧IsFms (comp0L (xs.take k)) A) _ xs.length ?_ ?_ 0 _ (Nat.zero_le _) ⟨fr,lh,[],rfl,h0,h1,h9,h63,h64,h65,o6,o9,by rw[o60];rfl,by rw[List.take_zero,comp0L];exact IsFms.nil⟩)
 ·rintro k _ hk ⟨fr,lh1,A,rfl,h0,h1,h9,h63,h64,h65,o6,o9,o60,hA⟩
  left
  have hk':(k:Int)<xs.length:=by omega
  have hlen':=nodesL_len xs
  have hyk:=nodesL_mem (List.getElem_mem hk)
  have hw:=wr_succL (k:=k) (lim_of (by omega))
  obtain⟨b,cb,rr,hia,hb1,hb2,hb⟩:=arg_at ha hx k hk
  obtain⟨cf,hcall,hcf⟩:=ih xs[k] (List.getElem_mem hk) sh _ hb (by omega) (naL_mem.1 hna _ (List.getElem_mem hk))
  obtain⟨fa,fc,rfl,hf1,hf2⟩:=hcf.cells
  have hAl:A.length=k*3:=by rw[hA.len,comp0L_map];simp;omega
  have hrl:(A++repl [T.i .i64 0,T.i .i64 0,T.nilsl] (xs.length-k)).length=xs.length*3:=by rw[List.length_append,repl_len,hAl];simp;omega
  have hsp:splice (A++repl [T.i .i64 0,T.i .i64 0,T.nilsl] (xs.length-k)) (k*3) [.i .i64 (comp0 xs[k]).op,.i .i64 (comp0 xs[k]).num,fa]=(A++ [.i .i64 (comp0 xs[k]).op,.i .i64 (comp0 xs[k]).num,fa])++repl [T.i .i64 0,T.i .i64 0,T.nilsl] (xs.length-(k+1)):=by
   rw[show xs.length-k=(xs.length-(k+1))+1 by omega,repl_succ,splice_row A [T.i .i64 0,T.i .i64 0,T.nilsl] _ [T.i .i64 (comp0 xs[k]).op,T.i .i64 (comp0 xs[k]).num,fa] (k*3) hAl rfl]
  have hkl1:k*3+3≤xs.length*3:=by omega
  simp(maxDischargeDepth:=6) only[qF,qGO0,qGO1,qGO2,qGO3,qGO4,qGO5,splice,Nat.reduceAdd,reduceCtorEq,Nat.reduceLT,Nat.reduceLeDiff,Nat.reduceEqDiff,qDR0,getL,qKP0,c91_L1,h0,h1,h9,h63,h64,h65,o9,o60,hk',hia,hw,hcall,dc91,dd91,hkT,hb1.kept1,hf1.froz1,hk,hrl,hsp,hkl1]
  refine⟨_,rfl,_,_,A++ [.i .i64 (comp0 xs[k]).op,.i .i64 (comp0 xs[k]).num,fa],rfl, ?_, ?_, ?_, ?_, ?_, ?_, ?_, ?_, ?_, ?_⟩
  all_goals first|(simp(maxDischargeDepth:=6) only[qGO2,qGO4,reduceCtorEq,Nat.reduceEqDiff,h0,h1,h9,h63,h64,o6,o9];done)|skip
  rw[List.take_succ_eq_append_getElem hk,comp0L_map,List.map_append,←comp0L_map]
  exact IsFms.append hA (IsFms.one hcf)
 ·rintro _ ⟨fr,lh1,A,rfl,h0,h1,h9,h63,h64,h65,o6,o9,o60,hA⟩
  rw[Nat.sub_self,show repl [T.i .i64 0,T.i .i64 0,T.nilsl] 0= []from rfl,List.append_nil]at o60
  rw[List.take_length]at hA
  simp(maxDischargeDepth:=6) only[qGO0,qGO1,qGO2,qGO4,qGO5,Nat.reduceLT,c91_L1,h64,h65,Int.lt_irrefl]
  exact⟨_,_,(by simp:Out.ext 1≠ .nrm),rfl,rfl,o6,o9,⟨A,o60,hA⟩,rfl⟩
theorem cmp_ev(x:Ex):cmpP kT scope x:=by
 induction x using Ex.ind with
 |h x ih=>
  intro sh cs hx hn hna
  obtain⟨a,cc,rfl,ha,hxs⟩:=hx.cells
  rw[p_fun fn91 (by simp[c91]),comp0_eq]
  obtain⟨hn6,hnal⟩:=(Ex.na_eq x).1 hna
  have hnd:=x.nodes_eq
  by_cases h1:x.op=1
  ·rw[if_pos (.inl h1)]
   simp(maxDischargeDepth:=6) only[qF,qGO0,qGO1,qGO2,qGO3,qGO4,qGO5,buildV,splice,fills,Nat.reduceAdd,reduceCtorEq,Nat.reduceLT,Nat.reduceLeDiff,Nat.reduceEqDiff,Int.reduceEq,c91,h1]
   exact⟨_,rfl,IsFm.of (x:= .mk 1 x.num []) (Or.inl ⟨rfl,rfl,rfl⟩) IsFms.nil⟩
  by_cases h2:x.op=2
  ·rw[if_pos (.inr (.inl h2))]
   simp(maxDischargeDepth:=6) only[qF,qGO0,qGO1,qGO2,qGO3,qGO4,qGO5,buildV,splice,fills,Nat.reduceAdd,reduceCtorEq,Nat.reduceLT,Nat.reduceLeDiff,Nat.reduceEqDiff,Int.reduceEq,c91,h2]
   exact⟨_,rfl,IsFm.of (x:= .mk 1 x.num []) (Or.inl ⟨rfl,rfl,rfl⟩) IsFms.nil⟩
  by_cases h3:x.op=3
  ·rw[if_pos (.inr (.inr h3))]
   simp(maxDischargeDepth:=6) only[qF,qGO0,qGO1,qGO2,qGO3,qGO4,qGO5,buildV,splice,fills,Nat.reduceAdd,reduceCtorEq,Nat.reduceLT,Nat.reduceLeDiff,Nat.reduceEqDiff,Int.reduceEq,c91,h3]
   exact⟨_,rfl,IsFm.of (x:= .mk 1 x.num []) (Or.inl ⟨rfl,rfl,rfl⟩) IsFms.nil⟩
  rw[if_neg (by omega)]
  by_cases h4:x.op=4
  ·rw[if_pos h4]
   simp(maxDischargeDepth:=6) only[qF,qGO0,qGO1,qGO2,qGO3,qGO4,qGO5,buildV,splice,fills,Nat.reduceAdd,reduceCtorEq,Nat.reduceLT,Nat.reduceLeDiff,Nat.reduceEqDiff,Int.reduceEq,c91,h4]
   exact⟨_,rfl,IsFm.of (x:= .mk 1 1 []) (Or.inl ⟨rfl,rfl,rfl⟩) IsFms.nil⟩
  rw[if_neg h4]
  by_cases h5:x.op=5
  ·rw[if_pos h5]
   simp(maxDischargeDepth:=6) only[qF,qGO0,qGO1,qGO2,qGO3,qGO4,qGO5,buildV,splice,fills,Nat.reduceAdd,reduceCtorEq,Nat.reduceLT,Nat.reduceLeDiff,Nat.reduceEqDiff,Int.reduceEq,c91,h5]
   exact⟨_,rfl,IsFm.of (x:= .mk 1 0 []) (Or.inl ⟨rfl,rfl,rfl⟩) IsFms.nil⟩
  rw[if_neg h5]
  have hll:=nodesL_len x.args
  have hlim:x.args.length≤Lim:=lim_of (by omega)
  have hmk:x.args.length*40≤roomy∧x.args.length≤roomy:=by unfold Lim at hlim;unfold roomy;omega
  have hL0:=fun c6 fr lh h0 h1 h9 h63 h64 h65 o6 o9 o60=>cmp1 kT hkT scope x.args (fun y hy=>ih y hy) a cc ha hxs (by omega) hnal (.i .i64 x.op) 1 1 c6 fr lh sh h0 h1 h9 h63 h64 h65 o6 o9 o60
  have hL:=fun fr lh h0 h1 h9 h63 h64 h65 o6 o9 o60=>And.intro (hL0 ⟨1,.cells [.i .i64 0,.i .i64 0,.nilsl] 0 true⟩ fr lh h0 h1 h9 h63 h64 h65 o6 o9 o60).1 (And.intro (hL0 ⟨1,.cells [.i .i64 0,.i .i64 0,.nilsl] 0 true⟩ fr lh h0 h1 h9 h63 h64 h65 o6 o9 o60).2.1 (And.intro (hL0 ⟨1,.cells [.i .i64 0,.i .i64 0,.nilsl] 0 true⟩ fr lh h0 h1 h9 h63 h64 h65 o6 o9 o60).2.2.1 (And.intro (row_ex (hL0 ⟨1,.cells [.i .i64 0,.i .i64 0,.nilsl] 0 true⟩ fr lh h0 h1 h9 h63 h64 h65 o6 o9 o60).2.2.2.1).1 (hL0 ⟨1,.cells [.i .i64 0,.i .i64 0,.nilsl] 0 true⟩ fr lh h0 h1 h9 h63 h64 h65 o6 o9 o60).2.2.2.2)))
  have hF:=fun fr lh h0 h1 h9 h63 h64 h65 o6 o9 o60=>(row_ex (hL0 ⟨1,.cells [.i .i64 0,.i .i64 0,.nilsl] 0 true⟩ fr lh h0 h1 h9 h63 h64 h65 o6 o9 o60).2.2.2.1).2
  have hlenF:=fun fr lh h0 h1 h9 h63 h64 h65 o6 o9 o60=>(hF fr lh h0 h1 h9 h63 h64 h65 o6 o9 o60).len
  have hcl:(comp0L x.args).length=x.args.length:=by rw[comp0L_map];simp
  rw[hcl]at hlenF
  simp(maxDischargeDepth:=6) only[qF,qGO0,qGO1,qGO2,qGO3,qGO4,qGO5,Nat.reduceShiftRight,Nat.reduceMod,buildV,mkslV,mkOk,splice,fills,Nat.reduceAdd,reduceCtorEq,Nat.reduceLT,Nat.reduceLeDiff,Nat.reduceEqDiff,qDR0,qDR1,getL,qDX0,c91,c91_L1_w,h1,h2,h3,h4,h5,hn6,ha.lenI,hmk,hL,hlenF]
  generalize hX:rowC _ _=X
  have hXF:IsFms (comp0L x.args) X:=by
   rw[←hX]
   refine hF _ _ ?_ ?_ ?_ ?_ ?_ ?_ ?_ ?_ ?_ <;> simp(maxDischargeDepth:=6) only[qGO2,qGO4,reduceCtorEq,Nat.reduceEqDiff]
  have hXl:=hXF.len
  rw[hcl]at hXl
  rw[←hXl,List.take_length]
  exact⟨_,rfl,IsFm.of (x:= .mk x.op 0 (comp0L x.args)) (Or.inr ⟨false,by show T.sl X x.args.length false= .sl X (comp0L x.args).length false;rw[hcl]⟩) hXF⟩
end
end Go.Proofs.YtfenhjpkomldcaaGreat
namespace Go.Proofs.YtfenhjpkomldcaaGreat
open Go Go.Ev
theorem lit_leaf{y:Ex}(h:y.op=1∨y.op=2∨y.op=3)(hb:bd y.num):FOk [] (comp0 y)∧(comp0 y).val []=y.num:=by
 rw[comp0_eq,if_pos h]
 exact⟨(FOk_eq _ _).2 (.inl ⟨rfl,hb⟩),by rw[Fm.val_eq];rfl⟩
theorem lit_comp{scope k:Int}{y:Ex}(h:FK scope k y)(hl:isLit y=true):FOk [] (comp0 y)∧(comp0 y).val []=litV y∧y.na∧(y.op=7→0<y.args.length):=by
 obtain⟨hin,_,h7⟩:=h.lit hl
 obtain⟨h1,h2,har,hnum,hname,hwl⟩:=h.node
 have h7':y.op=7→0<y.args.length:=fun e=>(h7 e).1
 have hbd:=inK_bd hin
 rw[isLit_eq y h7',Bool.or_eq_true,Bool.and_eq_true,decide_eq_true_eq,decide_eq_true_eq,decide_eq_true_eq]at hl
 rw[litV_eq y h7']at hbd ⊢
 have hna0:y.op≠6→y.args.length=0→y.na:=fun h6 hz=>(Ex.na_eq y).2 ⟨h6,by rw[List.length_eq_zero_iff.1 hz];trivial⟩
 have hz:y.op≤6→y.args.length=0:=fun h=>by simpa[arOk,h]using har
 by_cases e4:y.op=4
 ·rw[if_pos e4]at hbd ⊢
  rw[comp0_eq,if_neg (by omega),if_pos e4]
  exact⟨(FOk_eq _ _).2 (.inl ⟨rfl,hbd⟩),by rw[Fm.val_eq];rfl,hna0 (by omega) (hz (by omega)),fun e=>by omega⟩
 rw[if_neg e4]at hbd ⊢
 by_cases e5:y.op=5
 ·rw[if_pos e5]at hbd ⊢
  rw[comp0_eq,if_neg (by omega),if_neg e4,if_pos e5]
  exact⟨(FOk_eq _ _).2 (.inl ⟨rfl,hbd⟩),by rw[Fm.val_eq];rfl,hna0 (by omega) (hz (by omega)),fun e=>by omega⟩
 rw[if_neg e5]at hbd ⊢
 by_cases e7:y.op=7
 ·rw[if_pos e7]at hbd ⊢
  have hz1:(arg0 y).op=1∨(arg0 y).op=2:=by rcases hl with hl|hl <;> omega
  have hlen:y.args.length=1:=by rw[e7]at har;simpa[arOk]using har
  obtain⟨z,hzz⟩: ∃z,y.args= [z]:=by
   match hy:y.args,hlen with
   | [z],_=>exact⟨z,rfl⟩
  have hz0:arg0 y=z:=by unfold arg0;rw[hzz];rfl
  rw[hz0]at hz1 hbd ⊢
  have hbz:bd z.num:=by have:=(h7 e7).2;rw[hz0]at this;exact this
  obtain⟨f1,f2⟩:=lit_leaf (y:=z) (by omega) hbz
  rw[comp0_eq,if_neg (by omega),if_neg e4,if_neg e5,hzz,e7]
  have hwz:z.wf=true:=by rw[hzz,wfL,Bool.and_eq_true]at hwl;exact hwl.1
  obtain⟨_,_,zar,_⟩:=wf_node hwz
  have hzn:z.args.length=0:=by rcases hz1 with e|e <;> rw[e]at zar <;> simpa[arOk]using zar
  have hvl:valL [] (comp0L [z])= [z.num]:=by rw[comp0L,comp0L,valL,valL,f2]
  refine⟨(FOk_eq _ _).2 (.inr (.inr ⟨(by decide:(7:Int)≤7),(by decide:(7:Int)≤22),rfl,lim_of (show 1≤100000 by decide),⟨f1,trivial⟩, ?_⟩)), ?_, ?_,fun _=>by simp⟩
  ·show vOk 7 (valL [] (comp0L [z]))
   rw[hvl]
   exact⟨fun v hv=>by rw[List.mem_singleton]at hv;rw[hv];exact hbz,fun h=>absurd h (by decide),fun h=>absurd h (by decide)⟩
  ·rw[Fm.val_eq]
   show apS 7 (valL [] (comp0L [z]))= -z.num
   rw[hvl];rfl
  ·exact(Ex.na_eq y).2 ⟨by omega,by rw[hzz];exact⟨(Ex.na_eq z).2 ⟨by omega,by rw[List.length_eq_zero_iff.1 hzn];trivial⟩,trivial⟩⟩
 ·rw[if_neg e7]at hbd ⊢
  have h123:y.op=1∨y.op=2∨y.op=3:=by rcases hl with hl|hl <;> omega
  obtain⟨f1,f2⟩:=lit_leaf h123 hbd
  exact⟨f1,f2,hna0 (by omega) (hz (by omega)),fun e=>absurd e e7⟩
theorem lits_comp{scope:Int}: ∀{ts:List Int} {ys:List Ex},FKs scope ts ys→ys.all isLit=true→FOkL [] (comp0L ys)∧valL [] (comp0L ys)=ys.map litV∧naL ys
 | [],[],_,_=>⟨trivial,rfl,trivial⟩
 |t::ts,y::ys,h,ha=>by
  rw[List.all_cons,Bool.and_eq_true]at ha
  obtain⟨a1,a2,a3,_⟩:=lit_comp h.1 ha.1
  obtain⟨b1,b2,b3⟩:=lits_comp h.2 ha.2
  refine⟨⟨a1,b1⟩, ?_,⟨a3,b3⟩⟩
  rw[comp0L,valL,a2,b2];rfl
def ncR:Option (T×List Ent):=callK pE 60 53 [.nilsl] [⟨1,.map [] [] false⟩]
def cpO(r:Option (T×List Ent))(i:Nat):Ent:=match r with|some (_,l)=>getE l i|none=>noEnt
def cpE(i:Nat):Ent:=cpO ncR i
def smS(lT:T)(m:List (List Nat×List T)):List Ent:=
 [⟨1,.map (m.map fun p=>sK p.1) (m.map fun p=>T.agg p.2) false⟩,cpE 1,cpE 2,cpE 3,cpE 4,cpE 5,cpE 6,cpE 7,⟨1,.cells [lT,.mp .S 0 1,.ptr .S 3 1 0] 0 true⟩]
section
variable(lT:T)(m:List (List Nat×List T))
theorem sm0:getE (smS lT m) 0=⟨1,.map (m.map fun p=>sK p.1) (m.map fun p=>T.agg p.2) false⟩:=nr rfl
theorem sm8:getE (smS lT m) 8=⟨1,.cells [lT,.mp .S 0 1,.ptr .S 3 1 0] 0 true⟩:=nr rfl
theorem sm0s(m':List (List Nat×List T)):setE (smS lT m) 0 ⟨1,.map (m'.map fun p=>sK p.1) (m'.map fun p=>T.agg p.2) false⟩=smS lT m':=nr rfl
end
def LitT(cs:List T):Prop:=(∃op num,cs= [.i .i64 op,.i .i64 num,.s [],.nilsl])∨ ∃ex op num,cs= [.i .i64 7,.i .i64 0,.s [],.sl [.i .i64 op,.i .i64 num,.s [],.nilsl] 1 ex]
theorem plitT_ev(k n:Int)(hn:bd n): ∃cs,DCall pE 148 [.i .i64 k,.i .i64 n] []=some (.agg cs,[])∧IsEx (litX k n) cs∧LitT cs:=by
 rw[p_fun fn148 (by simp[c148])]
 unfold litX
 have hw:=wr_neg hn
 by_cases h4:k=4
 ·subst h4
  by_cases h0:n=0
  ·simp(maxDischargeDepth:=6) only[qF,qGO0,qGO1,qGO2,qGO3,qGO4,qGO5,Int.reduceNeg,buildV,splice,fills,Nat.reduceAdd,reduceCtorEq,Nat.reduceLT,Nat.reduceLeDiff,Nat.reduceEqDiff,Int.reduceLT,Int.reduceEq,c148,h0];exact⟨_,rfl,leaf_is _ _ _ nil_is,.inl ⟨_,_,rfl⟩⟩
  ·simp(maxDischargeDepth:=6) only[qF,qGO0,qGO1,qGO2,qGO3,qGO4,qGO5,buildV,splice,fills,Nat.reduceAdd,reduceCtorEq,Nat.reduceLT,Nat.reduceLeDiff,Nat.reduceEqDiff,Int.reduceEq,c148,h0];exact⟨_,rfl,leaf_is _ _ _ nil_is,.inl ⟨_,_,rfl⟩⟩
 by_cases h3:k=3
 ·subst h3
  simp(maxDischargeDepth:=6) only[qF,qGO0,qGO1,qGO2,qGO3,qGO4,qGO5,buildV,splice,fills,Nat.reduceAdd,reduceCtorEq,Nat.reduceLT,Nat.reduceLeDiff,Nat.reduceEqDiff,Int.reduceEq,c148];exact⟨_,rfl,leaf_is _ _ _ nil_is,.inl ⟨_,_,rfl⟩⟩
 by_cases h2:k=2
 ·subst h2
  by_cases h0:n<0
  ·simp(maxDischargeDepth:=6) only[qF,qGO0,qGO1,qGO2,qGO3,qGO4,qGO5,buildV,bslV,bslW,splice,fills,repl,Nat.reduceAdd,reduceCtorEq,Nat.reduceLT,Nat.reduceLeDiff,Nat.reduceEqDiff,Int.reduceEq,c148,h0,hw];exact⟨_,rfl,neg_is _ _,.inr ⟨_,_,_,rfl⟩⟩
  ·simp(maxDischargeDepth:=6) only[qF,qGO0,qGO1,qGO2,qGO3,qGO4,qGO5,buildV,bslV,bslW,splice,fills,repl,Nat.reduceAdd,reduceCtorEq,Nat.reduceLT,Nat.reduceLeDiff,Nat.reduceEqDiff,Int.reduceEq,c148,h0];exact⟨_,rfl,leaf_is _ _ _ nil_is,.inl ⟨_,_,rfl⟩⟩
 ·by_cases h0:n<0
  ·simp(maxDischargeDepth:=6) only[qF,qGO0,qGO1,qGO2,qGO3,qGO4,qGO5,buildV,bslV,bslW,splice,fills,repl,Nat.reduceAdd,reduceCtorEq,Nat.reduceLT,Nat.reduceLeDiff,Nat.reduceEqDiff,c148,h2,h3,h4,h0,hw];exact⟨_,rfl,neg_is _ _,.inr ⟨_,_,_,rfl⟩⟩
  ·simp(maxDischargeDepth:=6) only[qF,qGO0,qGO1,qGO2,qGO3,qGO4,qGO5,buildV,bslV,bslW,splice,fills,repl,Nat.reduceAdd,reduceCtorEq,Nat.reduceLT,Nat.reduceLeDiff,Nat.reduceEqDiff,c148,h2,h3,h4,h0];exact⟨_,rfl,leaf_is _ _ _ nil_is,.inl ⟨_,_,rfl⟩⟩
section
variable(lT:T)
theorem redLit_ev{scope op k:Int}{ts:List Int}{ys:List Ex}(hys:FKs scope ts ys)(hall:ys.all isLit=true)(h7:7≤op)(h22:op≤22)(har:arOk op ys.length=true)(hr:resK op ts=k)(hk:k≠0)(hn:nodesL ys<100000)(a:T)(cc:List T)(ha:IsSl a ys.length cc)(hx:IsExs ys cc)(m:List (List Nat×List T)):
  ∃cs,DCall pE 100 [.ptr .S 8 1 0,.agg [.i .i64 op,.i .i64 0,.s [],a]] (smS lT m)=some (.agg cs,smS lT m)∧IsEx (litX k (apS op (ys.map litV))) cs∧LitT cs:=by
 have hnd:=node_is op ys a cc ha hx
 obtain⟨q1,q2,q3⟩:=lits_comp hys hall
 obtain⟨hin,hkx⟩:=lits hys hall
 have hlen:=hys.len
 obtain⟨hv,hres⟩:=ap_ok hin h7 h22 (by rw[hlen];exact har) hr hk
 have hll:=nodesL_len ys
 have hneg:negOk ys:=fun y hy h=>by
  have:y.wf=true:=wfL_mem.1 hys.wf y hy
  obtain⟨_,_,yar,_⟩:=wf_node this
  rw[h]at yar;simp[arOk]at yar;omega
 have hcont:=cont_ev ys hneg a cc ha hx (lim_of (by omega))
 rw[hall]at hcont
 obtain⟨cf,hcmp,hcf⟩:=cmp_ev (.ptr .S 3 1 0) rfl 0 (.mk op 0 [] ys) (smS lT m) _ hnd (by rw[Ex.nodes_eq];show 1+nodesL ys≤100000;omega) ((Ex.na_eq _).2 ⟨by show op≠6;omega,q3⟩)
 have hcomp:comp0 (.mk op 0 [] ys)= .mk op 0 (comp0L ys):=by
  rw[comp0_eq]
  show(if op=1∨op=2∨op=3 then _ else if op=4 then _ else if op=5 then _ else _)=_
  rw[if_neg (by omega),if_neg (by omega),if_neg (by omega)];rfl
 rw[hcomp]at hcf
 obtain⟨fa,fc,rfl,hf1,hf2⟩:=hcf.cells
 have hcl:(comp0L ys).length=ys.length:=by rw[comp0L_map];simp
 have hval:=val_ev [] .nilsl (Or.inl ⟨rfl,rfl,rfl⟩) (.mk op 0 (comp0L ys)) fa fc [] hf1 hf2 ((FOk_eq _ _).2 (.inr (.inr ⟨h7,h22,by show arOk op (comp0L ys).length=true;rw[hcl];exact har,by show(comp0L ys).length≤Lim;rw[hcl];exact lim_of (by omega),q1,by show vOk op (valL [] (comp0L ys));rw[q2];exact hv⟩)))
 have hvv:(Fm.mk op 0 (comp0L ys)).val []=apS op (ys.map litV):=by
  rw[Fm.val_eq]
  show(if op=1 then _ else if op=6 then _ else apS op (valL [] (comp0L ys)))=_
  rw[if_neg (by omega),if_neg (by omega),q2]
 rw[hvv]at hval
 have hko:=ko_ev (.mk op 0 [] ys) _ hnd (FK.mk (by omega) h22 (by omega) har hys hr hk).1
 rw[kX_node hkx h7 h22 (by rw[hlen];exact har) hr hk]at hko
 obtain⟨cs,hlit,hcs,hT⟩:=plitT_ev k (apS op (ys.map litV)) (inK_bd hres)
 have hfz:froz (.fn 147 [] [])=true:=rfl
 have hc3:([T.i .i64 op,T.i .i64 0,fa]:List T).all froz1=true:=by simp[froz1_i,hf1.froz1]
 have hpf:=fun lh sh keep (h:getO lh 5=⟨1,.cells [.i .i64 op,.i .i64 0,fa] 0 true⟩)=>fzV_ptrG (sh:=sh) (keep:=keep) h hc3
 change DCall pE 92 [.vp [.i .i64 op,.i .i64 0,fa],.nilsl] []=_ at hval
 change DCall pE 91 [.ptr .S 3 1 0,.i .i64 0,.agg [.i .i64 op,.i .i64 0,.s [],a]] (smS lT m)=some (.agg [.i .i64 op,.i .i64 0,fa],smS lT m)at hcmp
 rw[p_fun fn100 (by simp[c100])]
 generalize apS op (ys.map litV)=v at*
 obtain⟨la,lc,rfl,hl1,hl2⟩:=hcs.cells
 simp(maxDischargeDepth:=6) only[qF,qGO0,qGO1,qGO2,qGO3,qGO4,qGO5,splice,Nat.reduceAdd,reduceCtorEq,Nat.reduceLT,Nat.reduceEqDiff,qDR0,qDR1,getL,qKP0,c100,hcont,dc146,ha.froz,ha.froz1,ha.kept1,hfz,sm8,hcmp,dc91,dd91,hf1.froz1,hko,dc149,hval,dp92,hpf,hlit,dc148,hl1.froz1]
 exact⟨_,rfl,hcs,hT⟩
end
end Go.Proofs.YtfenhjpkomldcaaGreat
namespace Go.Proofs.YtfenhjpkomldcaaGreat
open Go Go.Ev
theorem wf_neg{ys:List Ex}(h:wfL ys=true):negOk ys:=fun y hy h7=>by
 obtain⟨_,_,yar,_⟩:=wf_node (wfL_mem.1 h y hy)
 rw[h7]at yar;simp[arOk]at yar;omega
theorem zero_do{d:Nat}{fr:Fr}{lh:Tri Ent}{sh:List Ent}(z:Ex)(b:T)(hb:froz1 b=true):doCall pE (DCall pE) d ⟨fr,lh,sh⟩ 153 [.agg [.i .i64 z.op,.i .i64 z.num,.s z.name,b]]=some (.b (zeroX z),⟨fr,lh,sh⟩):=by
 rw[dc153 (by simp[froz_agg,froz1_i,froz1_s,hb]),zero_all _ z b (.inl rfl)];rfl
theorem one_do{d:Nat}{fr:Fr}{lh:Tri Ent}{sh:List Ent}(z:Ex)(b:T)(hb:froz1 b=true):doCall pE (DCall pE) d ⟨fr,lh,sh⟩ 154 [.agg [.i .i64 z.op,.i .i64 z.num,.s z.name,b]]=some (.b (oneX z),⟨fr,lh,sh⟩):=by
 rw[dc154 (by simp[froz_agg,froz1_i,froz1_s,hb]),one_all _ z b (.inl rfl)];rfl
section
variable(lT:T)(m:List (List Nat×List T))
theorem red1_ev(x:Ex)(hx1:isLit x=false)(hw:x.wf=true)(a:T)(cc:List T)(ha:IsSl a 1 cc)(hx:IsExs [x] cc):
  ∃cs,DCall pE 100 [.ptr .S 8 1 0,.agg [.i .i64 19,.i .i64 0,.s [],a]] (smS lT m)=some (.agg cs,smS lT m)∧IsEx (if x.op=19 then x.args.headD (leafX 0 0)else .mk 19 0 [] [x]) cs:=by
 have hcont:=cont_ev [x] (wf_neg (by rw[wfL,hw];rfl)) a cc ha hx (lim_of (by simp))
 rw[show([x]:List Ex).all isLit=false by simp[hx1]]at hcont
 obtain⟨b0,r0,hia0,⟨cb,hb1,hb2⟩,hf0,he0⟩:=argJ (xs:= [x]) ha hx 0 (by simp) 0 rfl
 simp only[List.getElem_cons_zero]at hia0 he0 hb1 hb2
 have hn:=node_is 19 [x] a cc ha hx
 have hfz:froz (.fn 147 [] [])=true:=rfl
 rw[p_fun fn100 (by simp[c100])]
 by_cases h19:x.op=19
 ·rw[if_pos h19]
  have hlen:0<x.args.length:=by
   obtain⟨_,_,yar,_⟩:=wf_node hw
   rw[h19]at yar;simp[arOk]at yar;omega
  obtain⟨b1,r1,hia1,_,hf1,he1⟩:=argJ hb1 hb2 0 hlen 0 rfl
  have hh:x.args.headD (leafX 0 0)=x.args[0]:=by
   generalize x.args=l at hlen
   cases l with
   |nil=>simp at hlen
   |cons y ys=>rfl
  rw[hh]
  simp(maxDischargeDepth:=6) only[qF,qGO0,qGO1,qGO2,qGO3,qGO4,qGO5,splice,Nat.reduceAdd,reduceCtorEq,Nat.reduceLT,Nat.reduceLeDiff,Nat.reduceEqDiff,Int.reduceEq,c100,hcont,dc146,ha.froz,hfz,hia0,h19,hia1,hf1]
  exact⟨_,rfl,he1⟩
 ·rw[if_neg h19]
  simp(maxDischargeDepth:=6) only[qF,qGO0,qGO1,qGO2,qGO3,qGO4,qGO5,splice,Nat.reduceAdd,reduceCtorEq,Nat.reduceLT,Nat.reduceLeDiff,Nat.reduceEqDiff,Int.reduceEq,c100,hcont,dc146,ha.froz,hfz,ha.froz1,hia0,h19]
  exact⟨_,rfl,hn⟩
theorem impl_ev(x y:Ex)(hl:([x,y]:List Ex).all isLit=false)(hwx:x.wf=true)(a:T)(cc:List T)(ha:IsSl a 2 cc)(hx:IsExs [x,y] cc):
  ∃cs,DCall pE 151 [.ptr .S 8 1 0,.agg [.i .i64 22,.i .i64 0,.s [],a]] (smS lT m)=some (.agg cs,smS lT m)∧IsEx (red2 22 x y) cs:=by
 obtain⟨b0,r0,hia0,⟨c0,hb0,hc0⟩,hf0,he0⟩:=argJ (xs:= [x,y]) ha hx 0 (by simp) 0 rfl
 obtain⟨b1,r1,hia1,_,hf1,he1⟩:=argJ (xs:= [x,y]) ha hx 1 (by simp) 1 rfl
 simp only[List.getElem_cons_zero,List.getElem_cons_succ]at hia0 hia1 he0 he1 hb0 hc0
 have hn:=node_is 22 [x,y] a cc ha hx
 have hk0:kept1 b0=true:=kept1_of hf0
 rw[p_fun fn151 (by simp[c151])]
 show∃cs,_∧IsEx (if x.op=5∨y.op=4 then leafX 4 0 else if x.op=4 then y else if y.op=5 then(if x.op=19 then x.args.headD (leafX 0 0)else .mk 19 0 [] [x])else .mk 22 0 [] [x,y]) cs
 by_cases a5:x.op=5
 ·simp(maxDischargeDepth:=6) only[qF,qGO0,qGO1,qGO2,qGO3,qGO4,qGO5,buildV,bslV,bslW,splice,fills,repl,Nat.reduceAdd,reduceCtorEq,Nat.reduceLT,Nat.reduceLeDiff,Nat.reduceEqDiff,Int.reduceEq,qDR0,qDR1,getL,c151,hia0,hia1,hf0,hf1,a5,true_or]
  exact⟨_,rfl,leaf_is _ _ _ nil_is⟩
 by_cases b4:y.op=4
 ·simp(maxDischargeDepth:=6) only[qF,qGO0,qGO1,qGO2,qGO3,qGO4,qGO5,buildV,bslV,bslW,splice,fills,repl,Nat.reduceAdd,reduceCtorEq,Nat.reduceLT,Nat.reduceLeDiff,Nat.reduceEqDiff,Int.reduceEq,qDR0,qDR1,getL,c151,hia0,hia1,hf0,hf1,a5,b4,or_true]
  exact⟨_,rfl,leaf_is _ _ _ nil_is⟩
 by_cases a4:x.op=4
 ·simp(maxDischargeDepth:=6) only[qF,qGO0,qGO1,qGO2,qGO3,qGO4,qGO5,buildV,bslV,bslW,splice,fills,repl,Nat.reduceAdd,reduceCtorEq,Nat.reduceLT,Nat.reduceLeDiff,Nat.reduceEqDiff,Int.reduceEq,qDR0,qDR1,getL,c151,hia0,hia1,hf0,hf1,b4,a4,or_self]
  exact⟨_,rfl,he1⟩
 by_cases b5:y.op=5
 ·have hx1:isLit x=false:=by
   have hy:isLit y=true:=by rw[isLit_eq y (fun h=>absurd (h.symm.trans b5) (by decide)),b5];rfl
   simpa[hy]using hl
  obtain⟨cs,hred,hcs⟩:=red1_ev lT m x hx1 hwx (.sl [.i .i64 x.op,.i .i64 x.num,.s x.name,b0] 1 true) _ (Or.inr ⟨true,rfl⟩) (IsExs.one he0)
  obtain⟨la,lc,rfl,hl1,hl2⟩:=hcs.cells
  rw[b5]at he1 hia1
  simp(maxDischargeDepth:=6) only[qF,qGO0,qGO1,qGO2,qGO3,qGO4,qGO5,buildV,bslV,bslW,splice,fills,repl,Nat.reduceAdd,reduceCtorEq,Nat.reduceLT,Nat.reduceLeDiff,Nat.reduceEqDiff,Int.reduceEq,qDR0,qDR1,getL,qKP0,c151,hia0,hia1,hf0,hf1,a5,b5,a4,or_self,hred,dc100,hl1.froz1]
  exact⟨_,rfl,hcs⟩
 ·simp(maxDischargeDepth:=6) only[qF,qGO0,qGO1,qGO2,qGO3,qGO4,qGO5,buildV,bslV,bslW,splice,fills,repl,Nat.reduceAdd,reduceCtorEq,Nat.reduceLT,Nat.reduceLeDiff,Nat.reduceEqDiff,qDR0,qDR1,getL,c151,hia0,hia1,hf0,hf1,ha.froz1,a5,b4,a4,b5,or_self]
  exact⟨_,rfl,hn⟩
end
end Go.Proofs.YtfenhjpkomldcaaGreat
