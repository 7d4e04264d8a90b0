/- Both SimplifyContract. Equal contracts are found equal. Conditions: the theorems' own. -/
import Derived.Test.YtfenhjpkomldcaaGreatM19
import Derived.KernelRfl
set_option maxRecDepth 100000
set_option linter.unusedSimpArgs false
set_option linter.unusedVariables false
set_option maxHeartbeats 16000000
namespace Go.Proofs.YtfenhjpkomldcaaGreat
open Go Go.Ev
def DE(c:Ct)(cells:List T):Prop:= ∃a7 a8 a9 a10 bf ba,cells=bG c a7 a8 a9 a10 bf ba∧zH c a7 a8 a9 a10 bf ba
theorem lW:DE RG [.i .i64 0,.i .i64 0,.i .i64 0,.i .i64 0,.i .i64 0,.i .i64 0,.i .i64 0,.nilsl,.nilsl,.nilsl,.nilsl,.nilsl,.nilsl,.i .i64 0]:=
 ⟨.nilsl,.nilsl,.nilsl,.nilsl,.nilsl,.nilsl,rfl,⟨⟨[],cp,rfl⟩,⟨[],cp,rfl⟩,⟨[],cp,rfl⟩,⟨[],cp,aK.nil⟩,⟨[],cp,rfl⟩,⟨[],cp,rfl⟩⟩⟩
theorem E6{l:Cs}: ∀{us:List Co},B7 l us=0→ ∀u∈us,xK l u.sc u.x 1=0
 | [],_,u,hu=>by simp at hu
 |w::us,h,u,hu=>by
  rw[B7]at h
  by_cases he:xK l w.sc w.x 1≠0
  ·rw[if_pos he]at h;exact absurd h he
  ·rw[if_neg he]at h
   rcases List.mem_cons.1 hu with rfl|hu
   ·simpa using he
   ·exact E6 h u hu
theorem Lt{l:Cs}{scope want:Int}{x:Ex}(h:xK l scope x want=0):(cV l scope x).2=0∧(cV l scope x).1=want:=by
 unfold xK at h
 by_cases hc:(cV l scope x).2=0∧(cV l scope x).1≠want
 ·rw[if_pos hc]at h;cases h
 ·rw[if_neg hc]at h
  refine⟨h, ?_⟩
  by_cases e:(cV l scope x).1=want
  ·exact e
  ·exact absurd ⟨h,e⟩ hc
section
variable(c:Ct)(a7 a8 a9 a10 bf ba:T)(hT:zH c a7 a8 a9 a10 bf ba)(hS:tz c)
include hT hS
theorem Lu(cN:lb c=0): ∀u∈c.co,(eH c.cs u.sc u.x).2=0→(eH c.cs u.sc u.x).1.op≠2:=by
 have _:=hT
 intro u hu h2
 have wu:B7 c.cs c.co=0:=by
  unfold lb at cN
  split at cN
  ·rename_i h;exact absurd cN h
  ·split at cN
   ·rename_i h;exact absurd cN h
   ·split at cN
    ·rename_i h;exact absurd cN h
    ·split at cN
     ·rename_i h;exact absurd cN h
     ·rename_i h;simpa using h
 obtain⟨t1,t2⟩:=Lt (E6 wu u hu)
 have hk:=(sf t1 (hS.s9.1 u hu).2).1
 rw[t2]at hk
 have:(eH c.cs u.sc u.x).1=cC c.cs u.sc u.x:=by
  unfold eH at h2 ⊢
  rw[if_neg (by simp[t1])]at h2 ⊢
  split at h2
  ·cases h2
  ·rename_i h;rw[if_neg h]
 rw[this]
 intro h
 exact absurd (hk.op2 h) (by decide)
theorem Ux: ∃cells s,ai pE 24 [.agg (bG c a7 a8 a9 a10 bf ba)] []=some (.tup [.agg cells,.i .i64 (lf c).2],s)∧DE (lf c).1 cells:=by
 have Dw:=hT
 obtain⟨s0,cN⟩:=O9 c a7 a8 a9 a10 bf ba hT hS
 obtain⟨⟨c7,i7,j7⟩,⟨c8,i8,j8⟩,⟨c9,i9,j9⟩,⟨kQ,i10,jz⟩,⟨j2,i11,ju⟩,⟨ki,i12,jy⟩⟩:=hT
 obtain⟨t11,Pq,tC⟩:=Pa c.li.length bf j2 i11 (aS.len L1.len ju) hS.s11
 obtain⟨t12,Pr,tD⟩:=Pb c.fs.length ba ki i12 (aS.len O3.len jy) hS.s12
 rw[aG Sd (by simp[HD])]
 unfold lf
 by_cases e0:lb c=0
 ·rw[if_neg (by simp[e0])]
  have gJ:=Lu c a7 a8 a9 a10 bf ba Dw hS e0
  rw[e0]at cN
  have rq:=fun fr lh sh h1 h2 h5 zI zf hi o1 o2 o5=>adX c a7 a8 a9 a10 bf ba Dw hS t11 t12 _ rfl _ rfl fr lh sh h1 h2 h5 zI zf hi o1 o2 o5
  have rk:=fun fr lh sh h1 h2 h5 wb vI hi o1 o2 o5=>adY c a7 a8 a9 a10 bf ba Dw hS t11 t12 (dr lh 5 8) (aq lh 70) gJ _ rfl _ rfl fr lh sh h1 h2 h5 wb vI hi o1 o2 o5 rfl
  have tE:=fun fr lh sh h1 h2 h5 pn ou hi o1 o2 o5=>ad0 c a7 a8 a9 a10 bf ba Dw hS t11 t12 (dr lh 5 8) (dr lh 5 9) (aq lh 70) (aq lh 109) _ rfl _ rfl fr lh sh h1 h2 h5 pn ou hi o1 o2 o5 rfl rfl
  unfold bG at rq rk tE cN ⊢
  by_cases e1:(sg c.cs c.ru).1=0
  ·rw[if_neg (by simp[e1])]
   simp only[e1,if_true,ne_eq,not_true_eq_false,false_implies,true_and,forall_const]at rq
   have hA:=fun fr lh sh h1 h2 h5 zI zf hi o1 o2 o5=>And.intro (rq fr lh sh h1 h2 h5 zI zf hi o1 o2 o5).1 (And.intro (rq fr lh sh h1 h2 h5 zI zf hi o1 o2 o5).2.1 (And.intro (rq fr lh sh h1 h2 h5 zI zf hi o1 o2 o5).2.2.1 (And.intro (iD (i:=8) (fun v=>rfl) (rq fr lh sh h1 h2 h5 zI zf hi o1 o2 o5).2.2.2.1).1 (rq fr lh sh h1 h2 h5 zI zf hi o1 o2 o5).2.2.2.2)))
   have hAO:=fun fr lh sh h1 h2 h5 zI zf hi o1 o2 o5=>(iD (i:=8) (fun v=>rfl) (rq fr lh sh h1 h2 h5 zI zf hi o1 o2 o5).2.2.2.1).2
   by_cases e2:(si c.cs c.co).1=0
   ·rw[if_neg (by simp[e2])]
    simp only[e2,if_true,ne_eq,not_true_eq_false,false_implies,true_and,forall_const]at rk
    have hB:=fun fr lh sh h1 h2 h5 wb vI hi o1 o2 o5=>And.intro (rk fr lh sh h1 h2 h5 wb vI hi o1 o2 o5).1 (And.intro (rk fr lh sh h1 h2 h5 wb vI hi o1 o2 o5).2.1 (And.intro (rk fr lh sh h1 h2 h5 wb vI hi o1 o2 o5).2.2.1 (And.intro (iD (i:=9) (fun v=>rfl) (rk fr lh sh h1 h2 h5 wb vI hi o1 o2 o5).2.2.2.1).1 (rk fr lh sh h1 h2 h5 wb vI hi o1 o2 o5).2.2.2.2)))
    have hBO:=fun fr lh sh h1 h2 h5 wb vI hi o1 o2 o5=>(iD (i:=9) (fun v=>rfl) (rk fr lh sh h1 h2 h5 wb vI hi o1 o2 o5).2.2.2.1).2
    have Y3:=fun fr lh sh h1 h2 h5 wb vI hi o1 o2 o5=>(lB (i:=8) (iD (i:=9) (fun v=>rfl) (rk fr lh sh h1 h2 h5 wb vI hi o1 o2 o5).2.2.2.1).1).trans (rfl:_=dr lh 5 8)
    by_cases e3:(ta c.cs c.cr).1=0
    ·rw[if_neg (by simp[e3])]
     simp only[e3,if_true,ne_eq,not_true_eq_false,false_implies,true_and,forall_const]at tE
     have hC:=fun fr lh sh h1 h2 h5 pn ou hi o1 o2 o5=>And.intro (tE fr lh sh h1 h2 h5 pn ou hi o1 o2 o5).1 (And.intro (tE fr lh sh h1 h2 h5 pn ou hi o1 o2 o5).2.1 (And.intro (tE fr lh sh h1 h2 h5 pn ou hi o1 o2 o5).2.2.1 (And.intro (iD (i:=10) (fun v=>rfl) (tE fr lh sh h1 h2 h5 pn ou hi o1 o2 o5).2.2.2.1).1 (tE fr lh sh h1 h2 h5 pn ou hi o1 o2 o5).2.2.2.2)))
     have hCO:=fun fr lh sh h1 h2 h5 pn ou hi o1 o2 o5=>(iD (i:=10) (fun v=>rfl) (tE fr lh sh h1 h2 h5 pn ou hi o1 o2 o5).2.2.2.1).2
     simp(maxDischargeDepth:=6) only[qF,ae,ah,aa,aj,ab,an,Nat.reduceShiftRight,Nat.reduceMod,aF,splice,aH,Nat.reduceAdd,Nat.reduceLT,Nat.reduceLeDiff,Nat.reduceEqDiff,HD,zQ,lX,eI,i7.froz1,i8.froz1,i9.froz1,i10.froz1,i11.froz1,i12.froz1,i11.froz,i12.froz,i8.lenI,i9.lenI,i10.lenI,tC.cells,tD.cells,tC.noTup,tD.noTup,tC.froz1,tD.froz1,cN,FL,Pq,Pr,Mb,Mc,hA,hB,Y3,hC]
     generalize Ps:bK pE 138 fu _ _ _=H3
     have p1:aq H3 1=⟨1,.cells [.i .i64 c.rp,.i .i64 c.rl,.i .i64 c.cn,.i .i64 c.st,.i .i64 c.ly,.i .i64 c.nf,.i .i64 c.nt,a7,a8,a9,a10,bf,ba,.i .i64 c.gu] 0 true⟩:=by
      rw[←Ps];refine(rq _ _ _ ?_ ?_ ?_ ?_ ?_ ?_ ?_ ?_ ?_).2.1 <;> simp(maxDischargeDepth:=6) only[aa,ab,Nat.reduceEqDiff]
     have p2:aq H3 2=⟨1,.cells [.i .i64 0,.i .i64 0,.i .i64 0,.i .i64 0,.i .i64 0,.i .i64 0,.i .i64 0,.nilsl,.nilsl,.nilsl,.nilsl,.nilsl,.nilsl,.i .i64 0] 0 true⟩:=by
      rw[←Ps];refine(rq _ _ _ ?_ ?_ ?_ ?_ ?_ ?_ ?_ ?_ ?_).2.2.1 <;> simp(maxDischargeDepth:=6) only[aa,ab,Nat.reduceEqDiff]
     have p5:aq H3 5=⟨1,.cells [.i .i64 c.rp,.i .i64 c.rl,.i .i64 c.cn,.i .i64 c.st,.i .i64 c.ly,.i .i64 c.nf,.i .i64 c.nt,.nilsl,dr H3 5 8,.nilsl,.nilsl,t11,t12,.i .i64 c.gu] 0 true⟩:=by
      rw[←Ps];refine(hA _ _ _ ?_ ?_ ?_ ?_ ?_ ?_ ?_ ?_ ?_).2.2.2.1 <;> simp(maxDischargeDepth:=6) only[aa,ab,Nat.reduceEqDiff]
     have p6:be H3 (dr H3 5 8) 70 6 (sg c.cs c.ru).2.length (lV H3 (dr H3 5 8))∧aS za (sg c.cs c.ru).2 (lV H3 (dr H3 5 8)):=by
      rw[←Ps];refine hAO _ _ _ ?_ ?_ ?_ ?_ ?_ ?_ ?_ ?_ ?_ <;> simp(maxDischargeDepth:=6) only[aa,ab,Nat.reduceEqDiff]
     generalize Lv:bK pE 138 eB _ _ _=H2
     have q1:aq H2 1=⟨1,.cells [.i .i64 c.rp,.i .i64 c.rl,.i .i64 c.cn,.i .i64 c.st,.i .i64 c.ly,.i .i64 c.nf,.i .i64 c.nt,a7,a8,a9,a10,bf,ba,.i .i64 c.gu] 0 true⟩:=by
      rw[←Lv];refine(rk _ _ _ ?_ ?_ ?_ ?_ ?_ ?_ ?_ ?_ ?_).2.1 <;> simp(maxDischargeDepth:=6) only[ae,aa,ab,Nat.reduceShiftRight,Nat.reduceMod,Nat.reduceEqDiff,eI,p1,p2,p5]
     have q2:aq H2 2=⟨1,.cells [.i .i64 0,.i .i64 0,.i .i64 0,.i .i64 0,.i .i64 0,.i .i64 0,.i .i64 0,.nilsl,.nilsl,.nilsl,.nilsl,.nilsl,.nilsl,.i .i64 0] 0 true⟩:=by
      rw[←Lv];refine(rk _ _ _ ?_ ?_ ?_ ?_ ?_ ?_ ?_ ?_ ?_).2.2.1 <;> simp(maxDischargeDepth:=6) only[ae,aa,ab,Nat.reduceShiftRight,Nat.reduceMod,Nat.reduceEqDiff,eI,p1,p2,p5]
     have q5:aq H2 5=⟨1,.cells [.i .i64 c.rp,.i .i64 c.rl,.i .i64 c.cn,.i .i64 c.st,.i .i64 c.ly,.i .i64 c.nf,.i .i64 c.nt,.nilsl,dr H3 5 8,dr H2 5 9,.nilsl,t11,t12,.i .i64 c.gu] 0 true⟩:=by
      rw[←Lv];refine(hB _ _ _ ?_ ?_ ?_ ?_ ?_ ?_ ?_ ?_ ?_).2.2.2.1 <;> simp(maxDischargeDepth:=6) only[ae,aa,ab,Nat.reduceShiftRight,Nat.reduceMod,Nat.reduceEqDiff,eI,p1,p2,p5]
     have q6:be H2 (dr H2 5 9) 109 5 (si c.cs c.co).2.length (lV H2 (dr H2 5 9))∧aS BB (si c.cs c.co).2 (lV H2 (dr H2 5 9)):=by
      rw[←Lv];refine hBO _ _ _ ?_ ?_ ?_ ?_ ?_ ?_ ?_ ?_ ?_ <;> simp(maxDischargeDepth:=6) only[ae,aa,ab,Nat.reduceShiftRight,Nat.reduceMod,Nat.reduceEqDiff,eI,p1,p2,p5]
     have q7:aq H2 70=aq H3 70:=by
      rw[←Lv];refine(rk _ _ _ ?_ ?_ ?_ ?_ ?_ ?_ ?_ ?_ ?_).2.2.2.2.2 <;> simp(maxDischargeDepth:=6) only[ae,aa,ab,Nat.reduceShiftRight,Nat.reduceMod,Nat.reduceEqDiff,eI,p1,p2,p5]
     have q8:dr H2 5 8=dr H3 5 8:=lB q5
     generalize Uy:bK pE 138 eV _ _ _=H1
     have r6:be H1 (dr H1 5 10) 134 4 (ta c.cs c.cr).2.length (lV H1 (dr H1 5 10))∧aK (ta c.cs c.cr).2 (lV H1 (dr H1 5 10)):=by
      rw[←Uy];refine hCO _ _ _ ?_ ?_ ?_ ?_ ?_ ?_ ?_ ?_ ?_ <;> simp(maxDischargeDepth:=6) only[ae,aa,ab,Nat.reduceShiftRight,Nat.reduceMod,Nat.reduceEqDiff,eI,lX,q1,q2,q5,q8]
     have r7:aq H1 70=aq H2 70:=by
      rw[←Uy];refine(tE _ _ _ ?_ ?_ ?_ ?_ ?_ ?_ ?_ ?_ ?_).2.2.2.2.2.1 <;> simp(maxDischargeDepth:=6) only[ae,aa,ab,Nat.reduceShiftRight,Nat.reduceMod,Nat.reduceEqDiff,eI,lX,q1,q2,q5,q8]
     have r8:aq H1 109=aq H2 109:=by
      rw[←Uy];refine(tE _ _ _ ?_ ?_ ?_ ?_ ?_ ?_ ?_ ?_ ?_).2.2.2.2.2.2 <;> simp(maxDischargeDepth:=6) only[ae,aa,ab,Nat.reduceShiftRight,Nat.reduceMod,Nat.reduceEqDiff,eI,lX,q1,q2,q5,q8]
     have z8:=fun m keep sh E=>be.fzW (m:=m) (keep:=keep) (sh:=sh) (p6.1.congr (bp:=cM H1 2 E) (by rw[aO _ _ (by decide),r7,q7]))
     have z9:=fun m keep sh E=>be.fzW (m:=m) (keep:=keep) (sh:=sh) (q6.1.congr (bp:=cM H1 2 E) (by rw[aO _ _ (by decide),r8]))
     have z10:=fun m keep sh E=>be.fzW (m:=m) (keep:=keep) (sh:=sh) (r6.1.congr (bp:=cM H1 2 E) (aO _ _ (by decide)))
     simp(maxDischargeDepth:=6) only[ab,z8,z9,z10,GK]
     exact⟨_,_,rfl,.nilsl,_,_,_,_,_,rfl,⟨⟨[],cp,rfl⟩,⟨_,p6.1.isl,p6.2⟩,⟨_,q6.1.isl,q6.2⟩,⟨_,r6.1.isl,r6.2⟩,⟨_,tC,ju⟩,⟨_,tD,jy⟩⟩⟩
    ·rw[if_pos e3]
     simp only[e3,if_false,ne_eq,not_false_eq_true,forall_const,false_implies,true_and]at tE
     simp(maxDischargeDepth:=6) only[qF,ae,ah,aa,aj,ab,an,Nat.reduceShiftRight,Nat.reduceMod,aF,splice,aH,Nat.reduceAdd,Nat.reduceLT,Nat.reduceLeDiff,Nat.reduceEqDiff,HD,zQ,lX,eI,i7.froz1,i8.froz1,i9.froz1,i10.froz1,i11.froz1,i12.froz1,i11.froz,i12.froz,i8.lenI,i9.lenI,i10.lenI,tC.cells,tD.cells,tC.noTup,tD.noTup,cN,FL,Pq,Pr,Mb,Mc,hA,hB,Y3,tE]
     exact⟨_,_,rfl,lW⟩
   ·rw[if_pos e2]
    simp only[e2,if_false,ne_eq,not_false_eq_true,forall_const,false_implies,true_and]at rk
    simp(maxDischargeDepth:=6) only[qF,ae,ah,aa,aj,ab,an,Nat.reduceShiftRight,Nat.reduceMod,aF,splice,aH,Nat.reduceAdd,Nat.reduceLT,Nat.reduceLeDiff,Nat.reduceEqDiff,HD,lX,eI,i7.froz1,i8.froz1,i9.froz1,i10.froz1,i11.froz1,i12.froz1,i11.froz,i12.froz,i8.lenI,i9.lenI,tC.cells,tD.cells,tC.noTup,tD.noTup,cN,FL,Pq,Pr,Mb,Mc,hA,rk]
    exact⟨_,_,rfl,lW⟩
  ·rw[if_pos e1]
   simp only[e1,if_false,ne_eq,not_false_eq_true,forall_const,false_implies,true_and]at rq
   simp(maxDischargeDepth:=6) only[qF,ae,ah,aa,aj,ab,an,Nat.reduceShiftRight,Nat.reduceMod,aF,splice,aH,Nat.reduceAdd,Nat.reduceLT,Nat.reduceLeDiff,Nat.reduceEqDiff,HD,eI,i7.froz1,i8.froz1,i9.froz1,i10.froz1,i11.froz1,i12.froz1,i11.froz,i12.froz,i8.lenI,tC.cells,tD.cells,tC.noTup,tD.noTup,cN,FL,Pq,Pr,Mb,Mc,rq]
   exact⟨_,_,rfl,lW⟩
 ·rw[if_pos e0]
  generalize lb c=e at*
  unfold bG at cN ⊢
  simp(maxDischargeDepth:=6) only[qF,ae,ah,aa,aj,ab,an,aF,splice,aH,Nat.reduceAdd,Nat.reduceLT,Nat.reduceEqDiff,HD,i7.froz1,i8.froz1,i9.froz1,i10.froz1,i11.froz1,i12.froz1,cN,FL,e0]
  exact⟨_,_,rfl,lW⟩
theorem Uz: ∃cells s,ai pE 25 [.agg (bG c a7 a8 a9 a10 bf ba)] []=some (.tup [.agg cells,.i .i64 (lf c).2],s)∧DE (lf c).1 cells:=by
 have Dw:=hT
 have cN:=Hg c a7 a8 a9 a10 bf ba hT hS
 obtain⟨⟨c7,i7,j7⟩,⟨c8,i8,j8⟩,⟨c9,i9,j9⟩,⟨kQ,i10,jz⟩,⟨j2,i11,ju⟩,⟨ki,i12,jy⟩⟩:=hT
 obtain⟨t11,aef⟩: ∃t,t=bf:=⟨_,rfl⟩
 obtain⟨t12,aeg⟩: ∃t,t=ba:=⟨_,rfl⟩
 have tC:=i11
 have tD:=i12
 rw[←aef]at tC
 rw[←aeg]at tD
 rw[aG Se (by simp[HE])]
 unfold lf
 by_cases e0:lb c=0
 ·rw[if_neg (by simp[e0])]
  skip
  rw[e0]at cN
  have rq:=fun fr lh sh h1 h2 h5 hi o1 o2 o5=>ad5 c a7 a8 a9 a10 bf ba Dw hS bf ba _ rfl _ rfl fr lh sh h1 h2 h5 hi o1 o2 o5
  have rk:=fun fr lh sh h1 h2 h5 hi o1 o2 o5=>ad6 c a7 a8 a9 a10 bf ba Dw hS bf ba (dr lh 5 8) (aq lh 65) _ rfl _ rfl fr lh sh h1 h2 h5 hi o1 o2 o5 rfl
  have tE:=fun fr lh sh h1 h2 h5 hi o1 o2 o5=>ad8 c a7 a8 a9 a10 bf ba Dw hS bf ba (dr lh 5 8) (dr lh 5 9) (aq lh 65) (aq lh 110) _ rfl _ rfl fr lh sh h1 h2 h5 hi o1 o2 o5 rfl rfl
  unfold bG at rq rk tE cN ⊢
  by_cases e1:(sg c.cs c.ru).1=0
  ·rw[if_neg (by simp[e1])]
   simp only[e1,if_true,ne_eq,not_true_eq_false,false_implies,true_and,forall_const]at rq
   have hA:=fun fr lh sh h1 h2 h5 hi o1 o2 o5=>And.intro (rq fr lh sh h1 h2 h5 hi o1 o2 o5).1 (And.intro (rq fr lh sh h1 h2 h5 hi o1 o2 o5).2.1 (And.intro (rq fr lh sh h1 h2 h5 hi o1 o2 o5).2.2.1 (And.intro (iD (i:=8) (fun v=>rfl) (rq fr lh sh h1 h2 h5 hi o1 o2 o5).2.2.2.1).1 (rq fr lh sh h1 h2 h5 hi o1 o2 o5).2.2.2.2)))
   have hAO:=fun fr lh sh h1 h2 h5 hi o1 o2 o5=>(iD (i:=8) (fun v=>rfl) (rq fr lh sh h1 h2 h5 hi o1 o2 o5).2.2.2.1).2
   by_cases e2:(si c.cs c.co).1=0
   ·rw[if_neg (by simp[e2])]
    simp only[e2,if_true,ne_eq,not_true_eq_false,false_implies,true_and,forall_const]at rk
    have hB:=fun fr lh sh h1 h2 h5 hi o1 o2 o5=>And.intro (rk fr lh sh h1 h2 h5 hi o1 o2 o5).1 (And.intro (rk fr lh sh h1 h2 h5 hi o1 o2 o5).2.1 (And.intro (rk fr lh sh h1 h2 h5 hi o1 o2 o5).2.2.1 (And.intro (iD (i:=9) (fun v=>rfl) (rk fr lh sh h1 h2 h5 hi o1 o2 o5).2.2.2.1).1 (rk fr lh sh h1 h2 h5 hi o1 o2 o5).2.2.2.2)))
    have hBO:=fun fr lh sh h1 h2 h5 hi o1 o2 o5=>(iD (i:=9) (fun v=>rfl) (rk fr lh sh h1 h2 h5 hi o1 o2 o5).2.2.2.1).2
    have Y3:=fun fr lh sh h1 h2 h5 hi o1 o2 o5=>(lB (i:=8) (iD (i:=9) (fun v=>rfl) (rk fr lh sh h1 h2 h5 hi o1 o2 o5).2.2.2.1).1).trans (rfl:_=dr lh 5 8)
    by_cases e3:(ta c.cs c.cr).1=0
    ·rw[if_neg (by simp[e3])]
     simp only[e3,if_true,ne_eq,not_true_eq_false,false_implies,true_and,forall_const]at tE
     have hC:=fun fr lh sh h1 h2 h5 hi o1 o2 o5=>And.intro (tE fr lh sh h1 h2 h5 hi o1 o2 o5).1 (And.intro (tE fr lh sh h1 h2 h5 hi o1 o2 o5).2.1 (And.intro (tE fr lh sh h1 h2 h5 hi o1 o2 o5).2.2.1 (And.intro (iD (i:=10) (fun v=>rfl) (tE fr lh sh h1 h2 h5 hi o1 o2 o5).2.2.2.1).1 (tE fr lh sh h1 h2 h5 hi o1 o2 o5).2.2.2.2)))
     have hCO:=fun fr lh sh h1 h2 h5 hi o1 o2 o5=>(iD (i:=10) (fun v=>rfl) (tE fr lh sh h1 h2 h5 hi o1 o2 o5).2.2.2.1).2
     simp(maxDischargeDepth:=6) only[qF,ae,ah,aa,aj,ab,an,Nat.reduceShiftRight,Nat.reduceMod,aF,splice,aH,Nat.reduceAdd,Nat.reduceLT,Nat.reduceLeDiff,Nat.reduceEqDiff,HE,zR,lY,eJ,i7.froz1,i8.froz1,i9.froz1,i10.froz1,i11.froz1,i12.froz1,cN,FJ,hA,hB,Y3,hC]
     generalize Ps:bK pE 141 fv _ _ _=H3
     have p1:aq H3 1=⟨1,.cells [.i .i64 c.rp,.i .i64 c.rl,.i .i64 c.cn,.i .i64 c.st,.i .i64 c.ly,.i .i64 c.nf,.i .i64 c.nt,a7,a8,a9,a10,bf,ba,.i .i64 c.gu] 0 true⟩:=by
      rw[←Ps];refine(rq _ _ _ ?_ ?_ ?_ ?_ ?_ ?_ ?_).2.1 <;> simp(maxDischargeDepth:=6) only[aa,ab,Nat.reduceEqDiff]
     have p2:aq H3 2=⟨1,.cells [.i .i64 0,.i .i64 0,.i .i64 0,.i .i64 0,.i .i64 0,.i .i64 0,.i .i64 0,.nilsl,.nilsl,.nilsl,.nilsl,.nilsl,.nilsl,.i .i64 0] 0 true⟩:=by
      rw[←Ps];refine(rq _ _ _ ?_ ?_ ?_ ?_ ?_ ?_ ?_).2.2.1 <;> simp(maxDischargeDepth:=6) only[aa,ab,Nat.reduceEqDiff]
     have p5:aq H3 5=⟨1,.cells [.i .i64 c.rp,.i .i64 c.rl,.i .i64 c.cn,.i .i64 c.st,.i .i64 c.ly,.i .i64 c.nf,.i .i64 c.nt,.nilsl,dr H3 5 8,.nilsl,.nilsl,bf,ba,.i .i64 c.gu] 0 true⟩:=by
      rw[←Ps];refine(hA _ _ _ ?_ ?_ ?_ ?_ ?_ ?_ ?_).2.2.2.1 <;> simp(maxDischargeDepth:=6) only[aa,ab,Nat.reduceEqDiff]
     have p6:be H3 (dr H3 5 8) 65 6 (sg c.cs c.ru).2.length (lV H3 (dr H3 5 8))∧aS za (sg c.cs c.ru).2 (lV H3 (dr H3 5 8)):=by
      rw[←Ps];refine hAO _ _ _ ?_ ?_ ?_ ?_ ?_ ?_ ?_ <;> simp(maxDischargeDepth:=6) only[aa,ab,Nat.reduceEqDiff]
     generalize Lv:bK pE 141 eX _ _ _=H2
     have q1:aq H2 1=⟨1,.cells [.i .i64 c.rp,.i .i64 c.rl,.i .i64 c.cn,.i .i64 c.st,.i .i64 c.ly,.i .i64 c.nf,.i .i64 c.nt,a7,a8,a9,a10,bf,ba,.i .i64 c.gu] 0 true⟩:=by
      rw[←Lv];refine(rk _ _ _ ?_ ?_ ?_ ?_ ?_ ?_ ?_).2.1 <;> simp(maxDischargeDepth:=6) only[ae,aa,ab,Nat.reduceShiftRight,Nat.reduceMod,Nat.reduceEqDiff,eJ,p1,p2,p5]
     have q2:aq H2 2=⟨1,.cells [.i .i64 0,.i .i64 0,.i .i64 0,.i .i64 0,.i .i64 0,.i .i64 0,.i .i64 0,.nilsl,.nilsl,.nilsl,.nilsl,.nilsl,.nilsl,.i .i64 0] 0 true⟩:=by
      rw[←Lv];refine(rk _ _ _ ?_ ?_ ?_ ?_ ?_ ?_ ?_).2.2.1 <;> simp(maxDischargeDepth:=6) only[ae,aa,ab,Nat.reduceShiftRight,Nat.reduceMod,Nat.reduceEqDiff,eJ,p1,p2,p5]
     have q5:aq H2 5=⟨1,.cells [.i .i64 c.rp,.i .i64 c.rl,.i .i64 c.cn,.i .i64 c.st,.i .i64 c.ly,.i .i64 c.nf,.i .i64 c.nt,.nilsl,dr H3 5 8,dr H2 5 9,.nilsl,bf,ba,.i .i64 c.gu] 0 true⟩:=by
      rw[←Lv];refine(hB _ _ _ ?_ ?_ ?_ ?_ ?_ ?_ ?_).2.2.2.1 <;> simp(maxDischargeDepth:=6) only[ae,aa,ab,Nat.reduceShiftRight,Nat.reduceMod,Nat.reduceEqDiff,eJ,p1,p2,p5]
     have q6:be H2 (dr H2 5 9) 110 5 (si c.cs c.co).2.length (lV H2 (dr H2 5 9))∧aS BB (si c.cs c.co).2 (lV H2 (dr H2 5 9)):=by
      rw[←Lv];refine hBO _ _ _ ?_ ?_ ?_ ?_ ?_ ?_ ?_ <;> simp(maxDischargeDepth:=6) only[ae,aa,ab,Nat.reduceShiftRight,Nat.reduceMod,Nat.reduceEqDiff,eJ,p1,p2,p5]
     have q7:aq H2 65=aq H3 65:=by
      rw[←Lv];refine(rk _ _ _ ?_ ?_ ?_ ?_ ?_ ?_ ?_).2.2.2.2.2 <;> simp(maxDischargeDepth:=6) only[ae,aa,ab,Nat.reduceShiftRight,Nat.reduceMod,Nat.reduceEqDiff,eJ,p1,p2,p5]
     have q8:dr H2 5 8=dr H3 5 8:=lB q5
     generalize Uy:bK pE 141 eW _ _ _=H1
     have r6:be H1 (dr H1 5 10) 138 4 (ta c.cs c.cr).2.length (lV H1 (dr H1 5 10))∧aK (ta c.cs c.cr).2 (lV H1 (dr H1 5 10)):=by
      rw[←Uy];refine hCO _ _ _ ?_ ?_ ?_ ?_ ?_ ?_ ?_ <;> simp(maxDischargeDepth:=6) only[ae,aa,ab,Nat.reduceShiftRight,Nat.reduceMod,Nat.reduceEqDiff,eJ,lY,q1,q2,q5,q8]
     have r7:aq H1 65=aq H2 65:=by
      rw[←Uy];refine(tE _ _ _ ?_ ?_ ?_ ?_ ?_ ?_ ?_).2.2.2.2.2.1 <;> simp(maxDischargeDepth:=6) only[ae,aa,ab,Nat.reduceShiftRight,Nat.reduceMod,Nat.reduceEqDiff,eJ,lY,q1,q2,q5,q8]
     have r8:aq H1 110=aq H2 110:=by
      rw[←Uy];refine(tE _ _ _ ?_ ?_ ?_ ?_ ?_ ?_ ?_).2.2.2.2.2.2 <;> simp(maxDischargeDepth:=6) only[ae,aa,ab,Nat.reduceShiftRight,Nat.reduceMod,Nat.reduceEqDiff,eJ,lY,q1,q2,q5,q8]
     have z8:=fun m keep sh E=>be.fzW (m:=m) (keep:=keep) (sh:=sh) (p6.1.congr (bp:=cM H1 2 E) (by rw[aO _ _ (by decide),r7,q7]))
     have z9:=fun m keep sh E=>be.fzW (m:=m) (keep:=keep) (sh:=sh) (q6.1.congr (bp:=cM H1 2 E) (by rw[aO _ _ (by decide),r8]))
     have z10:=fun m keep sh E=>be.fzW (m:=m) (keep:=keep) (sh:=sh) (r6.1.congr (bp:=cM H1 2 E) (aO _ _ (by decide)))
     simp(maxDischargeDepth:=6) only[ab,z8,z9,z10,GK]
     exact⟨_,_,rfl,.nilsl,_,_,_,_,_,rfl,⟨⟨[],cp,rfl⟩,⟨_,p6.1.isl,p6.2⟩,⟨_,q6.1.isl,q6.2⟩,⟨_,r6.1.isl,r6.2⟩,⟨_,i11,ju⟩,⟨_,i12,jy⟩⟩⟩
    ·rw[if_pos e3]
     simp only[e3,if_false,ne_eq,not_false_eq_true,forall_const,false_implies,true_and]at tE
     simp(maxDischargeDepth:=6) only[qF,ae,ah,aa,aj,ab,an,Nat.reduceShiftRight,Nat.reduceMod,aF,splice,aH,Nat.reduceAdd,Nat.reduceLT,Nat.reduceLeDiff,Nat.reduceEqDiff,HE,zR,lY,eJ,i7.froz1,i8.froz1,i9.froz1,i10.froz1,i11.froz1,i12.froz1,cN,FJ,hA,hB,Y3,tE]
     exact⟨_,_,rfl,lW⟩
   ·rw[if_pos e2]
    simp only[e2,if_false,ne_eq,not_false_eq_true,forall_const,false_implies,true_and]at rk
    simp(maxDischargeDepth:=6) only[qF,ae,ah,aa,aj,ab,an,Nat.reduceShiftRight,Nat.reduceMod,aF,splice,aH,Nat.reduceAdd,Nat.reduceLT,Nat.reduceLeDiff,Nat.reduceEqDiff,HE,lY,eJ,i7.froz1,i8.froz1,i9.froz1,i10.froz1,i11.froz1,i12.froz1,cN,FJ,hA,rk]
    exact⟨_,_,rfl,lW⟩
  ·rw[if_pos e1]
   simp only[e1,if_false,ne_eq,not_false_eq_true,forall_const,false_implies,true_and]at rq
   simp(maxDischargeDepth:=6) only[qF,ae,ah,aa,aj,ab,an,Nat.reduceShiftRight,Nat.reduceMod,aF,splice,aH,Nat.reduceAdd,Nat.reduceLT,Nat.reduceLeDiff,Nat.reduceEqDiff,HE,eJ,i7.froz1,i8.froz1,i9.froz1,i10.froz1,i11.froz1,i12.froz1,cN,FJ,rq]
   exact⟨_,_,rfl,lW⟩
 ·rw[if_pos e0]
  generalize lb c=e at*
  unfold bG at cN ⊢
  simp(maxDischargeDepth:=6) only[qF,ae,ah,aa,aj,ab,an,aF,splice,aH,Nat.reduceAdd,Nat.reduceLT,Nat.reduceEqDiff,HE,i7.froz1,i8.froz1,i9.froz1,i10.froz1,i11.froz1,i12.froz1,cN,FJ,e0]
  exact⟨_,_,rfl,lW⟩
end
end Go.Proofs.YtfenhjpkomldcaaGreat
namespace Go.Proofs.YtfenhjpkomldcaaGreat
open Go Go.Ev
theorem UA(u:Li):mN (.flat [.str,.str,.int,.int]) (.agg [.s u.nm,.s u.me,.i .i64 u.mo,.i .i64 u.da]) (.agg [.s u.nm,.s u.me,.i .i64 u.mo,.i .i64 u.da])=some true:=by
 simp[mN,cK,dE]
theorem UB(u:Of):mN (.flat [.str,.int,.int]) (.agg [.s u.nm,.i .i64 u.ct,.i .i64 u.da]) (.agg [.s u.nm,.i .i64 u.ct,.i .i64 u.da])=some true:=by
 simp[mN,cK,dE]
structure Z7 (c:Ct):Prop where
 b7:c.cs= []
 b8:(∀u∈c.ru,u.x.nodes≤100000)∧c.ru.length≤eG
 b9:(∀u∈c.co,u.x.nodes≤100000)∧c.co.length≤eG
 b10:(∀x∈c.cr,x.nodes≤100000)∧c.cr.length≤eG
 b11:c.li.length≤eG
 b12:c.fs.length≤eG
section
variable(c:Ct)(a7 a8 a9 a10 bf ba:T)(hT:zH c a7 a8 a9 a10 bf ba)(d7 d8 d9 d10 d11 d12:T)(hD:zH c d7 d8 d9 d10 d11 d12)(hB:Z7 c)
include hT hD hB
theorem aeh(fr:Fr)(lh:aQ aB)(sh:List aB)(h2:ak fr 2= .ptr .L 2 1 0)(h3:ak fr 3= .ptr .L 3 1 0)(hi:ak fr 5= .i .i64 0)(o2:aq lh 2=⟨1,.cells (bG c a7 a8 a9 a10 bf ba) 0 true⟩)(o3:aq lh 3=⟨1,.cells (bG c d7 d8 d9 d10 d11 d12) 0 true⟩):
  DC pE 295 (.loop mK) ⟨fr,lh,sh⟩=some (.ext 0,⟨cz pE 295 mK fr lh sh,bK pE 295 mK fr lh sh,cw pE 295 mK fr lh sh⟩)∧(bK pE 295 mK fr lh sh=lh∧cw pE 295 mK fr lh sh=sh):=by
 have _:=hD
 obtain⟨⟨c7,i7,j7⟩,⟨c8,i8,j8⟩,⟨c9,i9,j9⟩,⟨kQ,i10,jz⟩,⟨j2,i11,ju⟩,⟨ki,i12,jy⟩⟩:=hT
 have hl:=i7.lenI
 rw[hB.b7]at hl
 unfold bG at o2 o3
 refine aD (P:=fun cO bp br=>bp=lh∧br=sh) (aI (fun k st=> ∃(fr:Fr),st=⟨fr,lh,sh⟩∧ak fr 2= .ptr .L 2 1 0∧ak fr 5= .i .i64 0) _ 0 ?_ ?_ 0 _ (Nat.zero_le _) ⟨fr,rfl,h2,hi⟩)
 ·intro k st hk;omega
 ·rintro _ ⟨fr,rfl,h2,hi⟩
  simp(maxDischargeDepth:=6) only[ae,ah,aa,aj,ab,an,Nat.reduceLT,Nat.reduceEqDiff,mK,h2,hi,o2,hl,Int.lt_irrefl]
  exact⟨_,_,(by simp:Out.ext 0≠ .nrm),rfl,rfl,rfl,rfl⟩
theorem aei(fr:Fr)(lh:aQ aB)(sh:List aB)(h2:ak fr 2= .ptr .L 2 1 0)(h3:ak fr 3= .ptr .L 3 1 0)(hi:ak fr 6= .i .i64 0)(o2:aq lh 2=⟨1,.cells (bG c a7 a8 a9 a10 bf ba) 0 true⟩)(o3:aq lh 3=⟨1,.cells (bG c d7 d8 d9 d10 d11 d12) 0 true⟩):
  DC pE 295 (.loop lL) ⟨fr,lh,sh⟩=some (.ext 2,⟨cz pE 295 lL fr lh sh,bK pE 295 lL fr lh sh,cw pE 295 lL fr lh sh⟩)∧(bK pE 295 lL fr lh sh=lh∧cw pE 295 lL fr lh sh=sh):=by
 obtain⟨⟨c7,i7,j7⟩,⟨c8,i8,j8⟩,⟨c9,i9,j9⟩,⟨kQ,i10,jz⟩,⟨j2,i11,ju⟩,⟨ki,i12,jy⟩⟩:=hT
 obtain⟨⟨e7,k7,l7⟩,⟨e8,k8,l8⟩,⟨e9,k9,l9⟩,⟨KD,Pt,RK⟩,⟨OE,Pu,RL⟩,⟨OF,E7,RM⟩⟩:=hD
 have hlen:c.ru.length≤eG:=hB.b8.2
 unfold bG at o2 o3
 refine aD (P:=fun cO bp br=>bp=lh∧br=sh)
  (aI (fun k st=> ∃(fr:Fr),st=⟨fr,lh,sh⟩∧ak fr 2= .ptr .L 2 1 0∧ak fr 3= .ptr .L 3 1 0∧ak fr 6= .i .i64 (k:Int)) _ c.ru.length ?_ ?_ 0 _ (Nat.zero_le _) ⟨fr,rfl,h2,h3,hi⟩)
 ·rintro k _ hk ⟨fr,rfl,h2,h3,hi⟩
  left
  have bt:(k:Int)<c.ru.length:=by omega
  have hw:=aJ (k:=k) (by omega)
  obtain⟨b,cb,rr,bh,cH,hb⟩:=pD i8 j8 k hk
  obtain⟨b',RB,Vb,pj,Dr,xf⟩:=pD k8 l8 k hk
  have az:=y7 c.ru[k].x _ _ hb xf (hB.b8.1 _ (List.getElem_mem hk))
  simp(maxDischargeDepth:=6) only[qF,ae,ah,aa,aj,ab,an,Nat.reduceLT,Nat.reduceLeDiff,Nat.reduceEqDiff,cq,aZ,lL,h2,h3,hi,o2,o3,i8.lenI,bt,bh,pj,hw,az,L9,Ma,cH.froz1,Dr.froz1]
  refine⟨_,rfl,_,rfl, ?_, ?_, ?_⟩
  all_goals (simp(maxDischargeDepth:=6) only[aa,ab,Nat.reduceEqDiff,h2,h3])
 ·rintro _ ⟨fr,rfl,h2,h3,hi⟩
  simp(maxDischargeDepth:=6) only[ae,ah,aa,aj,ab,an,Nat.reduceLT,Nat.reduceEqDiff,lL,h2,hi,o2,i8.lenI,Int.lt_irrefl]
  exact⟨_,_,(by simp:Out.ext 2≠ .nrm),rfl,rfl,rfl,rfl⟩
theorem aej(fr:Fr)(lh:aQ aB)(sh:List aB)(h2:ak fr 2= .ptr .L 2 1 0)(h3:ak fr 3= .ptr .L 3 1 0)(hi:ak fr 7= .i .i64 0)(o2:aq lh 2=⟨1,.cells (bG c a7 a8 a9 a10 bf ba) 0 true⟩)(o3:aq lh 3=⟨1,.cells (bG c d7 d8 d9 d10 d11 d12) 0 true⟩):
  DC pE 295 (.loop lK) ⟨fr,lh,sh⟩=some (.ext 4,⟨cz pE 295 lK fr lh sh,bK pE 295 lK fr lh sh,cw pE 295 lK fr lh sh⟩)∧(bK pE 295 lK fr lh sh=lh∧cw pE 295 lK fr lh sh=sh):=by
 obtain⟨⟨c7,i7,j7⟩,⟨c8,i8,j8⟩,⟨c9,i9,j9⟩,⟨kQ,i10,jz⟩,⟨j2,i11,ju⟩,⟨ki,i12,jy⟩⟩:=hT
 obtain⟨⟨e7,k7,l7⟩,⟨e8,k8,l8⟩,⟨e9,k9,l9⟩,⟨KD,Pt,RK⟩,⟨OE,Pu,RL⟩,⟨OF,E7,RM⟩⟩:=hD
 have hlen:c.co.length≤eG:=hB.b9.2
 unfold bG at o2 o3
 refine aD (P:=fun cO bp br=>bp=lh∧br=sh)
  (aI (fun k st=> ∃(fr:Fr),st=⟨fr,lh,sh⟩∧ak fr 2= .ptr .L 2 1 0∧ak fr 3= .ptr .L 3 1 0∧ak fr 7= .i .i64 (k:Int)) _ c.co.length ?_ ?_ 0 _ (Nat.zero_le _) ⟨fr,rfl,h2,h3,hi⟩)
 ·rintro k _ hk ⟨fr,rfl,h2,h3,hi⟩
  left
  have bt:(k:Int)<c.co.length:=by omega
  have hw:=aJ (k:=k) (by omega)
  obtain⟨b,cb,rr,bh,cH,hb⟩:=ri i9 j9 k hk
  obtain⟨b',RB,Vb,pj,Dr,xf⟩:=ri k9 l9 k hk
  have az:=y7 c.co[k].x _ _ hb xf (hB.b9.1 _ (List.getElem_mem hk))
  simp(maxDischargeDepth:=6) only[qF,ae,ah,aa,aj,ab,an,Nat.reduceLT,Nat.reduceLeDiff,Nat.reduceEqDiff,cq,aZ,lK,h2,h3,hi,o2,o3,i9.lenI,bt,bh,pj,hw,az,L9,Ma,cH.froz1,Dr.froz1]
  refine⟨_,rfl,_,rfl, ?_, ?_, ?_⟩
  all_goals (simp(maxDischargeDepth:=6) only[aa,ab,Nat.reduceEqDiff,h2,h3])
 ·rintro _ ⟨fr,rfl,h2,h3,hi⟩
  simp(maxDischargeDepth:=6) only[ae,ah,aa,aj,ab,an,Nat.reduceLT,Nat.reduceEqDiff,lK,h2,hi,o2,i9.lenI,Int.lt_irrefl]
  exact⟨_,_,(by simp:Out.ext 4≠ .nrm),rfl,rfl,rfl,rfl⟩
theorem aek(fr:Fr)(lh:aQ aB)(sh:List aB)(h2:ak fr 2= .ptr .L 2 1 0)(h3:ak fr 3= .ptr .L 3 1 0)(hi:ak fr 8= .i .i64 0)(o2:aq lh 2=⟨1,.cells (bG c a7 a8 a9 a10 bf ba) 0 true⟩)(o3:aq lh 3=⟨1,.cells (bG c d7 d8 d9 d10 d11 d12) 0 true⟩):
  DC pE 295 (.loop lJ) ⟨fr,lh,sh⟩=some (.ext 6,⟨cz pE 295 lJ fr lh sh,bK pE 295 lJ fr lh sh,cw pE 295 lJ fr lh sh⟩)∧(bK pE 295 lJ fr lh sh=lh∧cw pE 295 lJ fr lh sh=sh):=by
 obtain⟨⟨c7,i7,j7⟩,⟨c8,i8,j8⟩,⟨c9,i9,j9⟩,⟨kQ,i10,jz⟩,⟨j2,i11,ju⟩,⟨ki,i12,jy⟩⟩:=hT
 obtain⟨⟨e7,k7,l7⟩,⟨e8,k8,l8⟩,⟨e9,k9,l9⟩,⟨KD,Pt,RK⟩,⟨OE,Pu,RL⟩,⟨OF,E7,RM⟩⟩:=hD
 have hlen:c.cr.length≤eG:=hB.b10.2
 unfold bG at o2 o3
 refine aD (P:=fun cO bp br=>bp=lh∧br=sh)
  (aI (fun k st=> ∃(fr:Fr),st=⟨fr,lh,sh⟩∧ak fr 2= .ptr .L 2 1 0∧ak fr 3= .ptr .L 3 1 0∧ak fr 8= .i .i64 (k:Int)) _ c.cr.length ?_ ?_ 0 _ (Nat.zero_le _) ⟨fr,rfl,h2,h3,hi⟩)
 ·rintro k _ hk ⟨fr,rfl,h2,h3,hi⟩
  left
  have bt:(k:Int)<c.cr.length:=by omega
  have hw:=aJ (k:=k) (by omega)
  obtain⟨b,cb,rr,bh,cH,nA,hb⟩:=dm i10 jz k hk
  obtain⟨b',RB,Vb,pj,Dr,adq,xf⟩:=dm Pt RK k hk
  have az:=y7 c.cr[k] _ _ hb xf (hB.b10.1 _ (List.getElem_mem hk))
  simp(maxDischargeDepth:=6) only[qF,ae,ah,aa,aj,ab,Nat.reduceLT,Nat.reduceLeDiff,Nat.reduceEqDiff,cq,aZ,lJ,h2,h3,hi,o2,o3,i10.lenI,bt,bh,pj,hw,az,L9,Ma,cH.froz1,Dr.froz1]
  refine⟨_,rfl,_,rfl, ?_, ?_, ?_⟩
  all_goals (simp(maxDischargeDepth:=6) only[aa,ab,Nat.reduceEqDiff,h2,h3])
 ·rintro _ ⟨fr,rfl,h2,h3,hi⟩
  simp(maxDischargeDepth:=6) only[ae,ah,aa,aj,ab,an,Nat.reduceLT,Nat.reduceEqDiff,lJ,h2,hi,o2,i10.lenI,Int.lt_irrefl]
  exact⟨_,_,(by simp:Out.ext 6≠ .nrm),rfl,rfl,rfl,rfl⟩
theorem ael(fr:Fr)(lh:aQ aB)(sh:List aB)(h2:ak fr 2= .ptr .L 2 1 0)(h3:ak fr 3= .ptr .L 3 1 0)(hi:ak fr 9= .i .i64 0)(o2:aq lh 2=⟨1,.cells (bG c a7 a8 a9 a10 bf ba) 0 true⟩)(o3:aq lh 3=⟨1,.cells (bG c d7 d8 d9 d10 d11 d12) 0 true⟩):
  DC pE 295 (.loop lI) ⟨fr,lh,sh⟩=some (.ext 8,⟨cz pE 295 lI fr lh sh,bK pE 295 lI fr lh sh,cw pE 295 lI fr lh sh⟩)∧(bK pE 295 lI fr lh sh=lh∧cw pE 295 lI fr lh sh=sh):=by
 obtain⟨⟨c7,i7,j7⟩,⟨c8,i8,j8⟩,⟨c9,i9,j9⟩,⟨kQ,i10,jz⟩,⟨j2,i11,ju⟩,⟨ki,i12,jy⟩⟩:=hT
 obtain⟨⟨e7,k7,l7⟩,⟨e8,k8,l8⟩,⟨e9,k9,l9⟩,⟨KD,Pt,RK⟩,⟨OE,Pu,RL⟩,⟨OF,E7,RM⟩⟩:=hD
 have hlen:c.li.length≤eG:=hB.b11
 unfold bG at o2 o3
 refine aD (P:=fun cO bp br=>bp=lh∧br=sh)
  (aI (fun k st=> ∃(fr:Fr),st=⟨fr,lh,sh⟩∧ak fr 2= .ptr .L 2 1 0∧ak fr 3= .ptr .L 3 1 0∧ak fr 9= .i .i64 (k:Int)) _ c.li.length ?_ ?_ 0 _ (Nat.zero_le _) ⟨fr,rfl,h2,h3,hi⟩)
 ·rintro k _ hk ⟨fr,rfl,h2,h3,hi⟩
  left
  have bt:(k:Int)<c.li.length:=by omega
  have hw:=aJ (k:=k) (by omega)
  obtain⟨rr,bh⟩:=xH i11 ju k hk
  obtain⟨Vb,pj⟩:=xH Pu RL k hk
  have heq:=UA c.li[k]
  simp(maxDischargeDepth:=6) only[ae,ah,aa,aj,ab,bn,aP,Nat.reduceAdd,Nat.reduceLT,Nat.reduceLeDiff,Nat.reduceEqDiff,lI,h2,h3,hi,o2,o3,i11.lenI,bt,bh,pj,hw,heq,bne_self_eq_false]
  refine⟨_,rfl,_,rfl, ?_, ?_, ?_⟩
  all_goals (simp(maxDischargeDepth:=6) only[aa,ab,Nat.reduceEqDiff,h2,h3])
 ·rintro _ ⟨fr,rfl,h2,h3,hi⟩
  simp(maxDischargeDepth:=6) only[ae,ah,aa,aj,ab,an,Nat.reduceLT,Nat.reduceEqDiff,lI,h2,hi,o2,i11.lenI,Int.lt_irrefl]
  exact⟨_,_,(by simp:Out.ext 8≠ .nrm),rfl,rfl,rfl,rfl⟩
theorem aem(fr:Fr)(lh:aQ aB)(sh:List aB)(h2:ak fr 2= .ptr .L 2 1 0)(h3:ak fr 3= .ptr .L 3 1 0)(hi:ak fr 10= .i .i64 0)(o2:aq lh 2=⟨1,.cells (bG c a7 a8 a9 a10 bf ba) 0 true⟩)(o3:aq lh 3=⟨1,.cells (bG c d7 d8 d9 d10 d11 d12) 0 true⟩):
  DC pE 295 (.loop mJ) ⟨fr,lh,sh⟩=some (.ext 10,⟨cz pE 295 mJ fr lh sh,bK pE 295 mJ fr lh sh,cw pE 295 mJ fr lh sh⟩)∧(bK pE 295 mJ fr lh sh=lh∧cw pE 295 mJ fr lh sh=sh):=by
 obtain⟨⟨c7,i7,j7⟩,⟨c8,i8,j8⟩,⟨c9,i9,j9⟩,⟨kQ,i10,jz⟩,⟨j2,i11,ju⟩,⟨ki,i12,jy⟩⟩:=hT
 obtain⟨⟨e7,k7,l7⟩,⟨e8,k8,l8⟩,⟨e9,k9,l9⟩,⟨KD,Pt,RK⟩,⟨OE,Pu,RL⟩,⟨OF,E7,RM⟩⟩:=hD
 have hlen:c.fs.length≤eG:=hB.b12
 unfold bG at o2 o3
 refine aD (P:=fun cO bp br=>bp=lh∧br=sh)
  (aI (fun k st=> ∃(fr:Fr),st=⟨fr,lh,sh⟩∧ak fr 2= .ptr .L 2 1 0∧ak fr 3= .ptr .L 3 1 0∧ak fr 10= .i .i64 (k:Int)) _ c.fs.length ?_ ?_ 0 _ (Nat.zero_le _) ⟨fr,rfl,h2,h3,hi⟩)
 ·rintro k _ hk ⟨fr,rfl,h2,h3,hi⟩
  left
  have bt:(k:Int)<c.fs.length:=by omega
  have hw:=aJ (k:=k) (by omega)
  obtain⟨rr,bh⟩:=BC i12 jy k hk
  obtain⟨Vb,pj⟩:=BC E7 RM k hk
  have heq:=UB c.fs[k]
  simp(maxDischargeDepth:=6) only[ae,ah,aa,aj,ab,bn,aP,Nat.reduceAdd,Nat.reduceLT,Nat.reduceLeDiff,Nat.reduceEqDiff,mJ,h2,h3,hi,o2,o3,i12.lenI,bt,bh,pj,hw,heq,bne_self_eq_false]
  refine⟨_,rfl,_,rfl, ?_, ?_, ?_⟩
  all_goals (simp(maxDischargeDepth:=6) only[aa,ab,Nat.reduceEqDiff,h2,h3])
 ·rintro _ ⟨fr,rfl,h2,h3,hi⟩
  simp(maxDischargeDepth:=6) only[ae,ah,aa,aj,ab,an,Nat.reduceLT,Nat.reduceEqDiff,mJ,h2,hi,o2,i12.lenI,Int.lt_irrefl]
  exact⟨_,_,(by simp:Out.ext 10≠ .nrm),rfl,rfl,rfl,rfl⟩
theorem Lw:ai pE 26 [.agg (bG c a7 a8 a9 a10 bf ba),.agg (bG c d7 d8 d9 d10 d11 d12)] []=some (.b true,[]):=by
 have h1:=fun fr lh sh h2 h3 hi o2 o3=>aeh c a7 a8 a9 a10 bf ba hT d7 d8 d9 d10 d11 d12 hD hB fr lh sh h2 h3 hi o2 o3
 have h2:=fun fr lh sh h2 h3 hi o2 o3=>aei c a7 a8 a9 a10 bf ba hT d7 d8 d9 d10 d11 d12 hD hB fr lh sh h2 h3 hi o2 o3
 have h3:=fun fr lh sh h2 h3 hi o2 o3=>aej c a7 a8 a9 a10 bf ba hT d7 d8 d9 d10 d11 d12 hD hB fr lh sh h2 h3 hi o2 o3
 have h4:=fun fr lh sh h2 h3 hi o2 o3=>aek c a7 a8 a9 a10 bf ba hT d7 d8 d9 d10 d11 d12 hD hB fr lh sh h2 h3 hi o2 o3
 have h5:=fun fr lh sh h2 h3 hi o2 o3=>ael c a7 a8 a9 a10 bf ba hT d7 d8 d9 d10 d11 d12 hD hB fr lh sh h2 h3 hi o2 o3
 have h6:=fun fr lh sh h2 h3 hi o2 o3=>aem c a7 a8 a9 a10 bf ba hT d7 d8 d9 d10 d11 d12 hD hB fr lh sh h2 h3 hi o2 o3
 obtain⟨⟨c7,i7,j7⟩,⟨c8,i8,j8⟩,⟨c9,i9,j9⟩,⟨kQ,i10,jz⟩,⟨j2,i11,ju⟩,⟨ki,i12,jy⟩⟩:=hT
 obtain⟨⟨e7,k7,l7⟩,⟨e8,k8,l8⟩,⟨e9,k9,l9⟩,⟨KD,Pt,RK⟩,⟨OE,Pu,RL⟩,⟨OF,E7,RM⟩⟩:=hD
 unfold bG at h1 h2 h3 h4 h5 h6 ⊢
 rw[aG VI (by simp[Vq])]
 simp(maxDischargeDepth:=6) only[qF,ae,ah,aa,aj,ab,an,Nat.reduceShiftRight,Nat.reduceMod,reduceCtorEq,Nat.reduceLT,Nat.reduceEqDiff,Vq,HF,HG,HH,HI,HJ,i7.lenI,i8.lenI,i9.lenI,i10.lenI,i11.lenI,i12.lenI,k7.lenI,k8.lenI,k9.lenI,Pt.lenI,Pu.lenI,E7.lenI,h1,h2,h3,h4,h5,h6]
end
end Go.Proofs.YtfenhjpkomldcaaGreat
