/- ZO: the loops of SimplifyContract, the program. Conditions: the theorems' own. -/
import Derived.Test.YtfenhjpkomldcaaGreatM17
import Derived.KernelRfl
set_option maxRecDepth 100000
set_option linter.unusedSimpArgs false
set_option linter.unusedVariables false
set_option maxHeartbeats 16000000
namespace Go.Proofs.YtfenhjpkomldcaaGreat
open Go Go.Ev
theorem FK.op2{scope k:Int}{y:Ex}(h:FK scope k y)(h2:y.op=2):k=2:=by
 obtain⟨ts,_,hr,_⟩:=h.arg (by omega)
 rw[h2]at hr;exact hr.symm
section
variable(c:Ct)(a7 a8 a9 a10 bf ba:T)(hT:zH c a7 a8 a9 a10 bf ba)(hS:tz c)
include hT hS
theorem adX(t11 t12:T)(R:Int×List Ru)(hR:R=sg c.cs c.ru)(o:Out)(ho:o=if R.1=0 then .ext 0 else .ret)(fr:Fr)(lh:aQ aB)(sh:List aB)
  (h1:ak fr 1= .ptr .L 1 1 0) (h2:ak fr 2= .ptr .L 2 1 0) (h5:ak fr 5= .ptr .L 5 1 0) (zI:ak fr 38=a8) (zf:ak fr 39= .i .i64 (c.ru.length:Int)) (hi:ak fr 40= .i .i64 0) (o1:aq lh 1=⟨1,.cells (bG c a7 a8 a9 a10 bf ba) 0 true⟩) (o2:aq lh 2=⟨1,.cells [.i .i64 0,.i .i64 0,.i .i64 0,.i .i64 0,.i .i64 0,.i .i64 0,.i .i64 0,.nilsl,.nilsl,.nilsl,.nilsl,.nilsl,.nilsl,.i .i64 0] 0 true⟩) (o5:aq lh 5=⟨1,.cells [.i .i64 c.rp,.i .i64 c.rl,.i .i64 c.cn,.i .i64 c.st,.i .i64 c.ly,.i .i64 c.nf,.i .i64 c.nt,.nilsl,.nilsl,.nilsl,.nilsl,t11,t12,.i .i64 c.gu] 0 true⟩):
  DC pE 138 (.loop fu) ⟨fr,lh,sh⟩=some (o,⟨cz pE 138 fu fr lh sh,bK pE 138 fu fr lh sh,cw pE 138 fu fr lh sh⟩)∧
  (aq (bK pE 138 fu fr lh sh) 1=⟨1,.cells (bG c a7 a8 a9 a10 bf ba) 0 true⟩∧aq (bK pE 138 fu fr lh sh) 2=⟨1,.cells [.i .i64 0,.i .i64 0,.i .i64 0,.i .i64 0,.i .i64 0,.i .i64 0,.i .i64 0,.nilsl,.nilsl,.nilsl,.nilsl,.nilsl,.nilsl,.i .i64 0] 0 true⟩∧(R.1≠0→ak (cz pE 138 fu fr lh sh) 3= .i .i64 R.1)∧(R.1=0→ ∃v,aq (bK pE 138 fu fr lh sh) 5=⟨1,.cells [.i .i64 c.rp,.i .i64 c.rl,.i .i64 c.cn,.i .i64 c.st,.i .i64 c.ly,.i .i64 c.nf,.i .i64 c.nt,.nilsl,v,.nilsl,.nilsl,t11,t12,.i .i64 c.gu] 0 true⟩∧ ∃ce,be (bK pE 138 fu fr lh sh) v 70 6 R.2.length ce∧aS za R.2 ce)∧cw pE 138 fu fr lh sh=sh):=by
 obtain⟨⟨c7,i7,j7⟩,⟨c8,i8,j8⟩,⟨c9,i9,j9⟩,⟨kQ,i10,jz⟩,⟨j2,i11,ju⟩,⟨ki,i12,jy⟩⟩:=hT
 have hlen:=hS.s8.2
 refine aD (P:=fun cO bp br=>aq bp 1=⟨1,.cells (bG c a7 a8 a9 a10 bf ba) 0 true⟩∧aq bp 2=⟨1,.cells [.i .i64 0,.i .i64 0,.i .i64 0,.i .i64 0,.i .i64 0,.i .i64 0,.i .i64 0,.nilsl,.nilsl,.nilsl,.nilsl,.nilsl,.nilsl,.i .i64 0] 0 true⟩∧(R.1≠0→ak cO 3= .i .i64 R.1)∧(R.1=0→ ∃v,aq bp 5=⟨1,.cells [.i .i64 c.rp,.i .i64 c.rl,.i .i64 c.cn,.i .i64 c.st,.i .i64 c.ly,.i .i64 c.nf,.i .i64 c.nt,.nilsl,v,.nilsl,.nilsl,t11,t12,.i .i64 c.gu] 0 true⟩∧ ∃ce,be bp v 70 6 R.2.length ce∧aS za R.2 ce)∧br=sh)
  (aI (fun k st=> ∃(fr:Fr) (aX:aQ aB) (v:T) (ce:List T) (dn:List Ru),st=⟨fr,aX,sh⟩∧ak fr 1= .ptr .L 1 1 0∧ak fr 2= .ptr .L 2 1 0∧ak fr 5= .ptr .L 5 1 0∧ak fr 38=a8∧ak fr 39= .i .i64 (c.ru.length:Int)∧ak fr 40= .i .i64 (k:Int)∧aq aX 1=⟨1,.cells (bG c a7 a8 a9 a10 bf ba) 0 true⟩∧aq aX 2=⟨1,.cells [.i .i64 0,.i .i64 0,.i .i64 0,.i .i64 0,.i .i64 0,.i .i64 0,.i .i64 0,.nilsl,.nilsl,.nilsl,.nilsl,.nilsl,.nilsl,.i .i64 0] 0 true⟩∧aq aX 5=⟨1,.cells [.i .i64 c.rp,.i .i64 c.rl,.i .i64 c.cn,.i .i64 c.st,.i .i64 c.ly,.i .i64 c.nf,.i .i64 c.nt,.nilsl,v,.nilsl,.nilsl,t11,t12,.i .i64 c.gu] 0 true⟩∧be aX v 70 6 dn.length ce∧aS za dn ce∧dn.length≤k∧R.1=(sg c.cs (c.ru.drop k)).1∧R.2=dn++(sg c.cs (c.ru.drop k)).2) _ c.ru.length ?_ ?_ 0 _ (Nat.zero_le _) ⟨fr,lh,.nilsl,[],[],rfl,h1,h2,h5,zI,zf,hi,o1,o2,o5,be.nil,rfl,Nat.le_refl _,by rw[hR];rfl,by rw[hR];rfl⟩)
 ·rintro k _ hk ⟨fr,aX,v,ce,dn,rfl,h1,h2,h5,zI,zf,hi,o1,o2,o5,hO,pk,wa,dA,eO⟩
  have bt:(k:Int)<c.ru.length:=by omega
  have hw:=aJ (k:=k) (by omega)
  rw[List.drop_eq_getElem_cons hk,sg]at dA eO
  have leave:R.1≠0→o= .ret:=fun h=>by rw[ho,if_neg h]
  obtain⟨b,cb,rr,bh,cH,hb⟩:=pD i8 j8 k hk
  have kR:=hS.s8.1 c.ru[k] (List.getElem_mem hk)
  generalize c.ru[k]=u at*
  obtain⟨cf,s0,az,hy⟩:=y8 c.cs a7 c7 i7 j7 hS.s7.2 hS.s7.1 u.sc u.x _ hb kR.1 kR.2
  have nO:(eH c.cs u.sc u.x).2=0→True:=fun _=>trivial
  generalize hq:eH c.cs u.sc u.x=q at*
  obtain⟨y,er⟩:=q
  simp only at az hy dA eO
  obtain⟨fa,fc,rfl,fD,yT⟩:=hy.cells
  unfold bG at o1 ⊢
  generalize Uj:(aq aX 7).g+1=G7
  generalize Lj:cM (cM aX 7 ⟨G7,.cells [.i .i64 0,.s [],.i .i64 0,.i .i64 0,.s [],.nilsl] 0 true⟩) 7 ⟨G7,.cells [.i .i64 u.sc,.s u.nm,.i .i64 u.x.op,.i .i64 u.x.num,.s u.x.name,b] 0 true⟩=mI
  have g7: ∀j,j≠7→aq mI j=aq aX j:=fun j hj=>by rw[←Lj,aO _ _ hj,aO _ _ hj]
  have b7:aq mI 7=⟨G7,.cells [.i .i64 u.sc,.s u.nm,.i .i64 u.x.op,.i .i64 u.x.num,.s u.x.name,b] 0 true⟩:=by rw[←Lj,bV]
  generalize Uk:(aq aX 8).g+1=G8
  generalize Lk:cM (cM mI 8 ⟨G8,.cells [.i .i64 0,.i .i64 0,.s [],.nilsl] 0 true⟩) 8 ⟨G8,.cells [.i .i64 y.op,.i .i64 y.num,.s y.name,fa] 0 true⟩=rf
  have g8: ∀j,j≠8→aq rf j=aq mI j:=fun j hj=>by rw[←Lk,aO _ _ hj,aO _ _ hj]
  have b8:aq rf 8=⟨G8,.cells [.i .i64 y.op,.i .i64 y.num,.s y.name,fa] 0 true⟩:=by rw[←Lk,bV]
  have x1:=(g8 1 (by decide)).trans ((g7 1 (by decide)).trans (o1))
  have x2:=(g8 2 (by decide)).trans ((g7 2 (by decide)).trans (o2))
  have x5:=(g8 5 (by decide)).trans ((g7 5 (by decide)).trans (o5))
  have xa:aq rf 70=aq aX 70:=by rw[g8 70 (by decide),g7 70 (by decide)]
  have bb:=(g8 7 (by decide)).trans b7
  have Dy:=(g7 1 (by decide)).trans o1
  have bg:=g7 8 (by decide)
  by_cases hv:er=0
  ·subst hv
   simp only[ne_eq,not_true_eq_false,if_false]at dA eO
   left
   by_cases h4:y.op=4
   ·simp only[h4,if_true]at eO
    have d4:=decide_eq_true h4
    simp(maxDischargeDepth:=6) only[qF,ae,ah,aa,aj,ab,an,aF,dq,dw,splice,aH,repl,Nat.reduceAdd,Nat.reduceLT,Nat.reduceLeDiff,Nat.reduceEqDiff,fu,h1,h2,h5,zI,zf,hi,bt,bh,i7.froz,cH.froz1,az,xZ,fD.froz1,Uj,Lj,b7,Uk,Lk,b8,bb,Dy,bg,x2,x5,hw,d4]
    refine⟨_,rfl,_,_,v,ce,dn,rfl, ?_, ?_, ?_, ?_, ?_, ?_,x1,x2,x5,hO.congr xa,pk,Nat.le_succ_of_le wa,dA, ?_⟩
    all_goals first|(simp(maxDischargeDepth:=6) only[aa,ab,Nat.reduceEqDiff,h1,h2,h5,zI,zf];done)|skip
    exact eO
   ·simp only[h4,if_false]at eO
    have kP:=kS (sh:=sh) (hO.congr xa) (bytes:=80) (vH (by omega) (by decide)) (ps:= [.i .i64 u.sc,.s u.nm,.i .i64 y.op,.i .i64 y.num,.s y.name,fa]) rfl true
    generalize hN:pA rf sh 70 6 80 v (.sl [.i .i64 u.sc,.s u.nm,.i .i64 y.op,.i .i64 y.num,.s y.name,fa] 1 true)=xL at kP
    generalize hV:vS rf sh 70 6 80 v (.sl [.i .i64 u.sc,.s u.nm,.i .i64 y.op,.i .i64 y.num,.s y.name,fa] 1 true)=v' at kP
    obtain⟨pa,pb,pc⟩:=kP
    have y5:=(pc 5 (by decide)).trans x5
    generalize oV:cM xL 5 ⟨1,.cells [.i .i64 c.rp,.i .i64 c.rl,.i .i64 c.cn,.i .i64 c.st,.i .i64 c.ly,.i .i64 c.nf,.i .i64 c.nt,.nilsl,v',.nilsl,.nilsl,t11,t12,.i .i64 c.gu] 0 true⟩=sj
    have q9: ∀j,j≠5→aq sj j=aq xL j:=fun j hj=>by rw[←oV,aO _ _ hj]
    have z1:=(q9 1 (by decide)).trans ((pc 1 (by decide)).trans x1)
    have z2:=(q9 2 (by decide)).trans ((pc 2 (by decide)).trans x2)
    have z5:aq sj 5=⟨1,.cells [.i .i64 c.rp,.i .i64 c.rl,.i .i64 c.cn,.i .i64 c.st,.i .i64 c.ly,.i .i64 c.nf,.i .i64 c.nt,.nilsl,v',.nilsl,.nilsl,t11,t12,.i .i64 c.gu] 0 true⟩:=by rw[←oV];exact bV _ _ _
    have zE:=pb.congr (bp:=sj) (by rw[←oV,aO _ _ (by decide)])
    simp(maxDischargeDepth:=6) only[qF,ae,ah,aa,aj,ab,an,aF,dq,dw,splice,aH,repl,Nat.reduceAdd,Nat.reduceLT,Nat.reduceLeDiff,Nat.reduceEqDiff,fu,h1,h2,h5,zI,zf,hi,bt,bh,i7.froz,cH.froz1,az,xZ,fD.froz1,Uj,Lj,b7,Uk,Lk,b8,bb,Dy,bg,x2,x5,hw,h4,hO.notS,pa,pb.cells,pb.noTup,y5,oV]
    refine⟨_,rfl,_,_,v',_,dn++ [⟨u.sc,u.nm,y⟩],rfl, ?_, ?_, ?_, ?_, ?_, ?_,z1,z2,z5,by rw[List.length_append];exact zE,aS.append pk (aS.one (Lh (u:=⟨u.sc,u.nm,y⟩) fD yT)),by rw[List.length_append];exact Nat.succ_le_succ wa,dA, ?_⟩
    all_goals first|(simp(maxDischargeDepth:=6) only[aa,ab,Nat.reduceEqDiff,h1,h2,h5,zI,zf];done)|skip
    rw[eO,List.append_assoc];rfl
  ·right
   simp only[hv,ne_eq,not_false_eq_true,if_true]at dA eO
   have yh:R.1≠0:=by rw[dA];exact hv
   simp(maxDischargeDepth:=6) only[qF,ae,ah,aa,aj,ab,an,aF,splice,aH,Nat.reduceAdd,Nat.reduceLT,Nat.reduceLeDiff,Nat.reduceEqDiff,fu,h1,h2,zI,zf,hi,bt,bh,i7.froz,cH.froz1,az,xZ,Uj,Lj,b7,Uk,Lk,Dy,bg,x2,hv]
   refine⟨_,_,(by simp:Out.ret≠ .nrm),rfl,(leave yh).symm, ?_, ?_,fun _=> ?_,fun h=>absurd h yh,rfl⟩
   all_goals (simp(maxDischargeDepth:=6) only[aa,ab,Nat.reduceEqDiff,dA,x1])
 ·rintro _ ⟨fr,aX,v,ce,dn,rfl,h1,h2,h5,zI,zf,hi,o1,o2,o5,hO,pk,wa,dA,eO⟩
  rw[List.drop_length,sg]at dA eO
  rw[List.append_nil]at eO
  simp only at dA
  skip
  simp(maxDischargeDepth:=6) only[ae,ah,aa,ab,an,Nat.reduceLT,fu,zf,hi,Int.lt_irrefl]
  exact⟨_,_,(by simp:Out.ext 0≠ .nrm),rfl,by rw[ho,dA];rfl,o1,o2,fun h=>absurd dA h,fun _=>⟨v,o5,ce,by rw[eO];exact⟨hO,pk⟩⟩,rfl⟩
theorem adY(t11 t12:T)(v8:T)(Pc:aB)(gJ: ∀u∈c.co,(eH c.cs u.sc u.x).2=0→(eH c.cs u.sc u.x).1.op≠2)(R:Int×List Co)(hR:R=si c.cs c.co)(o:Out)(ho:o=if R.1=0 then .ext 2 else .ret)(fr:Fr)(lh:aQ aB)(sh:List aB)
  (h1:ak fr 1= .ptr .L 1 1 0) (h2:ak fr 2= .ptr .L 2 1 0) (h5:ak fr 5= .ptr .L 5 1 0) (wb:ak fr 74=a9) (vI:ak fr 75= .i .i64 (c.co.length:Int)) (hi:ak fr 76= .i .i64 0) (o1:aq lh 1=⟨1,.cells (bG c a7 a8 a9 a10 bf ba) 0 true⟩) (o2:aq lh 2=⟨1,.cells [.i .i64 0,.i .i64 0,.i .i64 0,.i .i64 0,.i .i64 0,.i .i64 0,.i .i64 0,.nilsl,.nilsl,.nilsl,.nilsl,.nilsl,.nilsl,.i .i64 0] 0 true⟩) (o5:aq lh 5=⟨1,.cells [.i .i64 c.rp,.i .i64 c.rl,.i .i64 c.cn,.i .i64 c.st,.i .i64 c.ly,.i .i64 c.nf,.i .i64 c.nt,.nilsl,v8,.nilsl,.nilsl,t11,t12,.i .i64 c.gu] 0 true⟩) (Ll:aq lh 70=Pc):
  DC pE 138 (.loop eB) ⟨fr,lh,sh⟩=some (o,⟨cz pE 138 eB fr lh sh,bK pE 138 eB fr lh sh,cw pE 138 eB fr lh sh⟩)∧
  (aq (bK pE 138 eB fr lh sh) 1=⟨1,.cells (bG c a7 a8 a9 a10 bf ba) 0 true⟩∧aq (bK pE 138 eB fr lh sh) 2=⟨1,.cells [.i .i64 0,.i .i64 0,.i .i64 0,.i .i64 0,.i .i64 0,.i .i64 0,.i .i64 0,.nilsl,.nilsl,.nilsl,.nilsl,.nilsl,.nilsl,.i .i64 0] 0 true⟩∧(R.1≠0→ak (cz pE 138 eB fr lh sh) 3= .i .i64 R.1)∧(R.1=0→ ∃v,aq (bK pE 138 eB fr lh sh) 5=⟨1,.cells [.i .i64 c.rp,.i .i64 c.rl,.i .i64 c.cn,.i .i64 c.st,.i .i64 c.ly,.i .i64 c.nf,.i .i64 c.nt,.nilsl,v8,v,.nilsl,t11,t12,.i .i64 c.gu] 0 true⟩∧ ∃ce,be (bK pE 138 eB fr lh sh) v 109 5 R.2.length ce∧aS BB R.2 ce)∧cw pE 138 eB fr lh sh=sh∧aq (bK pE 138 eB fr lh sh) 70=Pc):=by
 obtain⟨⟨c7,i7,j7⟩,⟨c8,i8,j8⟩,⟨c9,i9,j9⟩,⟨kQ,i10,jz⟩,⟨j2,i11,ju⟩,⟨ki,i12,jy⟩⟩:=hT
 have hlen:=hS.s9.2
 refine aD (P:=fun cO bp br=>aq bp 1=⟨1,.cells (bG c a7 a8 a9 a10 bf ba) 0 true⟩∧aq bp 2=⟨1,.cells [.i .i64 0,.i .i64 0,.i .i64 0,.i .i64 0,.i .i64 0,.i .i64 0,.i .i64 0,.nilsl,.nilsl,.nilsl,.nilsl,.nilsl,.nilsl,.i .i64 0] 0 true⟩∧(R.1≠0→ak cO 3= .i .i64 R.1)∧(R.1=0→ ∃v,aq bp 5=⟨1,.cells [.i .i64 c.rp,.i .i64 c.rl,.i .i64 c.cn,.i .i64 c.st,.i .i64 c.ly,.i .i64 c.nf,.i .i64 c.nt,.nilsl,v8,v,.nilsl,t11,t12,.i .i64 c.gu] 0 true⟩∧ ∃ce,be bp v 109 5 R.2.length ce∧aS BB R.2 ce)∧br=sh∧aq bp 70=Pc)
  (aI (fun k st=> ∃(fr:Fr) (aX:aQ aB) (v:T) (ce:List T) (dn:List Co),st=⟨fr,aX,sh⟩∧ak fr 1= .ptr .L 1 1 0∧ak fr 2= .ptr .L 2 1 0∧ak fr 5= .ptr .L 5 1 0∧ak fr 74=a9∧ak fr 75= .i .i64 (c.co.length:Int)∧ak fr 76= .i .i64 (k:Int)∧aq aX 1=⟨1,.cells (bG c a7 a8 a9 a10 bf ba) 0 true⟩∧aq aX 2=⟨1,.cells [.i .i64 0,.i .i64 0,.i .i64 0,.i .i64 0,.i .i64 0,.i .i64 0,.i .i64 0,.nilsl,.nilsl,.nilsl,.nilsl,.nilsl,.nilsl,.i .i64 0] 0 true⟩∧aq aX 5=⟨1,.cells [.i .i64 c.rp,.i .i64 c.rl,.i .i64 c.cn,.i .i64 c.st,.i .i64 c.ly,.i .i64 c.nf,.i .i64 c.nt,.nilsl,v8,v,.nilsl,t11,t12,.i .i64 c.gu] 0 true⟩∧aq aX 70=Pc∧be aX v 109 5 dn.length ce∧aS BB dn ce∧dn.length≤k∧R.1=(si c.cs (c.co.drop k)).1∧R.2=dn++(si c.cs (c.co.drop k)).2) _ c.co.length ?_ ?_ 0 _ (Nat.zero_le _) ⟨fr,lh,.nilsl,[],[],rfl,h1,h2,h5,wb,vI,hi,o1,o2,o5,Ll,be.nil,rfl,Nat.le_refl _,by rw[hR];rfl,by rw[hR];rfl⟩)
 ·rintro k _ hk ⟨fr,aX,v,ce,dn,rfl,h1,h2,h5,wb,vI,hi,o1,o2,o5,Ll,hO,pk,wa,dA,eO⟩
  have bt:(k:Int)<c.co.length:=by omega
  have hw:=aJ (k:=k) (by omega)
  rw[List.drop_eq_getElem_cons hk,si]at dA eO
  have leave:R.1≠0→o= .ret:=fun h=>by rw[ho,if_neg h]
  obtain⟨b,cb,rr,bh,cH,hb⟩:=ri i9 j9 k hk
  have kR:=hS.s9.1 c.co[k] (List.getElem_mem hk)
  have Hy:=gJ c.co[k] (List.getElem_mem hk)
  generalize c.co[k]=u at*
  obtain⟨cf,s0,az,hy⟩:=y8 c.cs a7 c7 i7 j7 hS.s7.2 hS.s7.1 u.sc u.x _ hb kR.1 kR.2
  have nO:(eH c.cs u.sc u.x).2=0→True:=fun _=>trivial
  generalize hq:eH c.cs u.sc u.x=q at*
  obtain⟨y,er⟩:=q
  simp only at az hy dA eO Hy
  obtain⟨fa,fc,rfl,fD,yT⟩:=hy.cells
  unfold bG at o1 ⊢
  generalize BM:(aq aX 11).g+1=Ul
  generalize tB:cM (cM aX 11 ⟨Ul,.cells [.i .i64 0,.i .i64 0,.i .i64 0,.s [],.nilsl] 0 true⟩) 11 ⟨Ul,.cells [.i .i64 u.sc,.i .i64 u.x.op,.i .i64 u.x.num,.s u.x.name,b] 0 true⟩=mI
  have Hh: ∀j,j≠11→aq mI j=aq aX j:=fun j hj=>by rw[←tB,aO _ _ hj,aO _ _ hj]
  have b11:aq mI 11=⟨Ul,.cells [.i .i64 u.sc,.i .i64 u.x.op,.i .i64 u.x.num,.s u.x.name,b] 0 true⟩:=by rw[←tB,bV]
  generalize Pd:(aq aX 12).g+1=G12
  generalize Hi:cM (cM mI 12 ⟨G12,.cells [.i .i64 0,.i .i64 0,.s [],.nilsl] 0 true⟩) 12 ⟨G12,.cells [.i .i64 y.op,.i .i64 y.num,.s y.name,fa] 0 true⟩=rf
  have Ve: ∀j,j≠12→aq rf j=aq mI j:=fun j hj=>by rw[←Hi,aO _ _ hj,aO _ _ hj]
  have b12:aq rf 12=⟨G12,.cells [.i .i64 y.op,.i .i64 y.num,.s y.name,fa] 0 true⟩:=by rw[←Hi,bV]
  have x1:=(Ve 1 (by decide)).trans ((Hh 1 (by decide)).trans (o1))
  have x2:=(Ve 2 (by decide)).trans ((Hh 2 (by decide)).trans (o2))
  have x5:=(Ve 5 (by decide)).trans ((Hh 5 (by decide)).trans (o5))
  have Um:=(Ve 70 (by decide)).trans ((Hh 70 (by decide)).trans (Ll))
  have xa:aq rf 109=aq aX 109:=by rw[Ve 109 (by decide),Hh 109 (by decide)]
  have bb:=(Ve 11 (by decide)).trans b11
  have Dy:=(Hh 1 (by decide)).trans o1
  have bg:=Hh 12 (by decide)
  by_cases hv:er=0
  ·subst hv
   simp only[ne_eq,not_true_eq_false,if_false]at dA eO
   left
   have Hy:=Hy rfl
   by_cases hz:y.op=1∧y.num=0
   ·have RH:gn y=true:=by unfold gn;simp[hz.1,hz.2]
    simp only[RH,if_true]at eO
    have d1:=decide_eq_true hz.1
    have d2:=decide_eq_true hz.2
    simp(maxDischargeDepth:=6) only[qF,ae,ah,aa,aj,ab,an,aF,dq,dw,splice,aH,repl,Nat.reduceAdd,Nat.reduceLT,Nat.reduceLeDiff,Nat.reduceEqDiff,eB,h1,h2,h5,wb,vI,hi,bt,bh,i7.froz,cH.froz1,az,xZ,fD.froz1,BM,tB,b11,Pd,Hi,b12,bb,Dy,bg,x2,x5,hw,d1,d2]
    refine⟨_,rfl,_,_,v,ce,dn,rfl, ?_, ?_, ?_, ?_, ?_, ?_,x1,x2,x5,Um,hO.congr xa,pk,Nat.le_succ_of_le wa,dA, ?_⟩
    all_goals first|(simp(maxDischargeDepth:=6) only[aa,ab,Nat.reduceEqDiff,h1,h2,h5,wb,vI];done)|skip
    exact eO
   ·have RH:gn y=false:=by
     unfold gn
     by_cases e1:y.op=1
     ·have e2: ¬y.num=0:=fun h=>hz ⟨e1,h⟩
      simp[e1,e2]
     ·simp[e1,Hy]
    simp only[RH,Bool.false_eq_true,if_false]at eO
    have hpk: ∀(a:Bool),y.op=1→decide (y.num=0)=false:=fun _ h=>decide_eq_false fun h'=>hz ⟨h,h'⟩
    by_cases e1:y.op=1
    ·have e2: ¬y.num=0:=fun h=>hz ⟨e1,h⟩
     have d1:=decide_eq_true e1
     have kP:=kS (sh:=sh) (hO.congr xa) (bytes:=64) (vH (by omega) (by decide)) (ps:= [.i .i64 u.sc,.i .i64 y.op,.i .i64 y.num,.s y.name,fa]) rfl true
     generalize hN:pA rf sh 109 5 64 v (.sl [.i .i64 u.sc,.i .i64 y.op,.i .i64 y.num,.s y.name,fa] 1 true)=xL at kP
     generalize hV:vS rf sh 109 5 64 v (.sl [.i .i64 u.sc,.i .i64 y.op,.i .i64 y.num,.s y.name,fa] 1 true)=v' at kP
     obtain⟨pa,pb,pc⟩:=kP
     have y5:=(pc 5 (by decide)).trans x5
     generalize oV:cM xL 5 ⟨1,.cells [.i .i64 c.rp,.i .i64 c.rl,.i .i64 c.cn,.i .i64 c.st,.i .i64 c.ly,.i .i64 c.nf,.i .i64 c.nt,.nilsl,v8,v',.nilsl,t11,t12,.i .i64 c.gu] 0 true⟩=sj
     have q9: ∀j,j≠5→aq sj j=aq xL j:=fun j hj=>by rw[←oV,aO _ _ hj]
     have z1:=(q9 1 (by decide)).trans ((pc 1 (by decide)).trans x1)
     have z2:=(q9 2 (by decide)).trans ((pc 2 (by decide)).trans x2)
     have z5:aq sj 5=⟨1,.cells [.i .i64 c.rp,.i .i64 c.rl,.i .i64 c.cn,.i .i64 c.st,.i .i64 c.ly,.i .i64 c.nf,.i .i64 c.nt,.nilsl,v8,v',.nilsl,t11,t12,.i .i64 c.gu] 0 true⟩:=by rw[←oV];exact bV _ _ _
     have YR:=(q9 70 (by decide)).trans ((pc 70 (by decide)).trans Um)
     have zE:=pb.congr (bp:=sj) (by rw[←oV,aO _ _ (by decide)])
     simp(maxDischargeDepth:=6) only[qF,ae,ah,aa,aj,ab,an,aF,dq,dw,splice,aH,repl,Nat.reduceAdd,Nat.reduceLT,Nat.reduceLeDiff,Nat.reduceEqDiff,eB,h1,h2,h5,wb,vI,hi,bt,bh,i7.froz,cH.froz1,az,xZ,fD.froz1,BM,tB,b11,Pd,Hi,b12,bb,Dy,bg,x2,x5,hw,d1,e2,hO.notS,pa,pb.cells,pb.noTup,y5,oV]
     refine⟨_,rfl,_,_,v',_,dn++ [⟨u.sc,y⟩],rfl, ?_, ?_, ?_, ?_, ?_, ?_,z1,z2,z5,YR,by rw[List.length_append];exact zE,aS.append pk (aS.one (Dx (u:=⟨u.sc,y⟩) fD yT)),by rw[List.length_append];exact Nat.succ_le_succ wa,dA, ?_⟩
     all_goals first|(simp(maxDischargeDepth:=6) only[aa,ab,Nat.reduceEqDiff,h1,h2,h5,wb,vI];done)|skip
     rw[eO,List.append_assoc];rfl
    ·skip
     have kP:=kS (sh:=sh) (hO.congr xa) (bytes:=64) (vH (by omega) (by decide)) (ps:= [.i .i64 u.sc,.i .i64 y.op,.i .i64 y.num,.s y.name,fa]) rfl true
     generalize hN:pA rf sh 109 5 64 v (.sl [.i .i64 u.sc,.i .i64 y.op,.i .i64 y.num,.s y.name,fa] 1 true)=xL at kP
     generalize hV:vS rf sh 109 5 64 v (.sl [.i .i64 u.sc,.i .i64 y.op,.i .i64 y.num,.s y.name,fa] 1 true)=v' at kP
     obtain⟨pa,pb,pc⟩:=kP
     have y5:=(pc 5 (by decide)).trans x5
     generalize oV:cM xL 5 ⟨1,.cells [.i .i64 c.rp,.i .i64 c.rl,.i .i64 c.cn,.i .i64 c.st,.i .i64 c.ly,.i .i64 c.nf,.i .i64 c.nt,.nilsl,v8,v',.nilsl,t11,t12,.i .i64 c.gu] 0 true⟩=sj
     have q9: ∀j,j≠5→aq sj j=aq xL j:=fun j hj=>by rw[←oV,aO _ _ hj]
     have z1:=(q9 1 (by decide)).trans ((pc 1 (by decide)).trans x1)
     have z2:=(q9 2 (by decide)).trans ((pc 2 (by decide)).trans x2)
     have z5:aq sj 5=⟨1,.cells [.i .i64 c.rp,.i .i64 c.rl,.i .i64 c.cn,.i .i64 c.st,.i .i64 c.ly,.i .i64 c.nf,.i .i64 c.nt,.nilsl,v8,v',.nilsl,t11,t12,.i .i64 c.gu] 0 true⟩:=by rw[←oV];exact bV _ _ _
     have YR:=(q9 70 (by decide)).trans ((pc 70 (by decide)).trans Um)
     have zE:=pb.congr (bp:=sj) (by rw[←oV,aO _ _ (by decide)])
     simp(maxDischargeDepth:=6) only[qF,ae,ah,aa,aj,ab,an,aF,dq,dw,splice,aH,repl,Nat.reduceAdd,Nat.reduceLT,Nat.reduceLeDiff,Nat.reduceEqDiff,eB,h1,h2,h5,wb,vI,hi,bt,bh,i7.froz,cH.froz1,az,xZ,fD.froz1,BM,tB,b11,Pd,Hi,b12,bb,Dy,bg,x2,x5,hw,e1,hO.notS,pa,pb.cells,pb.noTup,y5,oV]
     refine⟨_,rfl,_,_,v',_,dn++ [⟨u.sc,y⟩],rfl, ?_, ?_, ?_, ?_, ?_, ?_,z1,z2,z5,YR,by rw[List.length_append];exact zE,aS.append pk (aS.one (Dx (u:=⟨u.sc,y⟩) fD yT)),by rw[List.length_append];exact Nat.succ_le_succ wa,dA, ?_⟩
     all_goals first|(simp(maxDischargeDepth:=6) only[aa,ab,Nat.reduceEqDiff,h1,h2,h5,wb,vI];done)|skip
     rw[eO,List.append_assoc];rfl
  ·right
   simp only[hv,ne_eq,not_false_eq_true,if_true]at dA eO
   have yh:R.1≠0:=by rw[dA];exact hv
   simp(maxDischargeDepth:=6) only[qF,ae,ah,aa,aj,ab,an,aF,splice,aH,Nat.reduceAdd,Nat.reduceLT,Nat.reduceLeDiff,Nat.reduceEqDiff,eB,h1,h2,wb,vI,hi,bt,bh,i7.froz,cH.froz1,az,xZ,BM,tB,b11,Pd,Hi,Dy,bg,x2,hv]
   refine⟨_,_,(by simp:Out.ret≠ .nrm),rfl,(leave yh).symm, ?_, ?_,fun _=> ?_,fun h=>absurd h yh,rfl, ?_⟩
   all_goals (simp(maxDischargeDepth:=6) only[aa,ab,Nat.reduceEqDiff,dA,x1,Um])
 ·rintro _ ⟨fr,aX,v,ce,dn,rfl,h1,h2,h5,wb,vI,hi,o1,o2,o5,Ll,hO,pk,wa,dA,eO⟩
  rw[List.drop_length,si]at dA eO
  rw[List.append_nil]at eO
  simp only at dA
  skip
  simp(maxDischargeDepth:=6) only[ae,ah,aa,ab,an,Nat.reduceLT,eB,vI,hi,Int.lt_irrefl]
  exact⟨_,_,(by simp:Out.ext 2≠ .nrm),rfl,by rw[ho,dA];rfl,o1,o2,fun h=>absurd dA h,fun _=>⟨v,o5,ce,by rw[eO];exact⟨hO,pk⟩⟩,rfl,Ll⟩
theorem ad0(t11 t12:T)(v8 v9:T)(Pc:aB)(Pe:aB)(R:Int×List Ex)(hR:R=ta c.cs c.cr)(o:Out)(ho:o=if R.1=0 then .ext 4 else .ret)(fr:Fr)(lh:aQ aB)(sh:List aB)
  (h1:ak fr 1= .ptr .L 1 1 0) (h2:ak fr 2= .ptr .L 2 1 0) (h5:ak fr 5= .ptr .L 5 1 0) (pn:ak fr 113=a10) (ou:ak fr 114= .i .i64 (c.cr.length:Int)) (hi:ak fr 115= .i .i64 0) (o1:aq lh 1=⟨1,.cells (bG c a7 a8 a9 a10 bf ba) 0 true⟩) (o2:aq lh 2=⟨1,.cells [.i .i64 0,.i .i64 0,.i .i64 0,.i .i64 0,.i .i64 0,.i .i64 0,.i .i64 0,.nilsl,.nilsl,.nilsl,.nilsl,.nilsl,.nilsl,.i .i64 0] 0 true⟩) (o5:aq lh 5=⟨1,.cells [.i .i64 c.rp,.i .i64 c.rl,.i .i64 c.cn,.i .i64 c.st,.i .i64 c.ly,.i .i64 c.nf,.i .i64 c.nt,.nilsl,v8,v9,.nilsl,t11,t12,.i .i64 c.gu] 0 true⟩) (Ll:aq lh 70=Pc) (Lm:aq lh 109=Pe):
  DC pE 138 (.loop eV) ⟨fr,lh,sh⟩=some (o,⟨cz pE 138 eV fr lh sh,bK pE 138 eV fr lh sh,cw pE 138 eV fr lh sh⟩)∧
  (aq (bK pE 138 eV fr lh sh) 1=⟨1,.cells (bG c a7 a8 a9 a10 bf ba) 0 true⟩∧aq (bK pE 138 eV fr lh sh) 2=⟨1,.cells [.i .i64 0,.i .i64 0,.i .i64 0,.i .i64 0,.i .i64 0,.i .i64 0,.i .i64 0,.nilsl,.nilsl,.nilsl,.nilsl,.nilsl,.nilsl,.i .i64 0] 0 true⟩∧(R.1≠0→ak (cz pE 138 eV fr lh sh) 3= .i .i64 R.1)∧(R.1=0→ ∃v,aq (bK pE 138 eV fr lh sh) 5=⟨1,.cells [.i .i64 c.rp,.i .i64 c.rl,.i .i64 c.cn,.i .i64 c.st,.i .i64 c.ly,.i .i64 c.nf,.i .i64 c.nt,.nilsl,v8,v9,v,t11,t12,.i .i64 c.gu] 0 true⟩∧ ∃ce,be (bK pE 138 eV fr lh sh) v 134 4 R.2.length ce∧aK R.2 ce)∧cw pE 138 eV fr lh sh=sh∧aq (bK pE 138 eV fr lh sh) 70=Pc∧aq (bK pE 138 eV fr lh sh) 109=Pe):=by
 obtain⟨⟨c7,i7,j7⟩,⟨c8,i8,j8⟩,⟨c9,i9,j9⟩,⟨kQ,i10,jz⟩,⟨j2,i11,ju⟩,⟨ki,i12,jy⟩⟩:=hT
 have hlen:=hS.s10.2
 refine aD (P:=fun cO bp br=>aq bp 1=⟨1,.cells (bG c a7 a8 a9 a10 bf ba) 0 true⟩∧aq bp 2=⟨1,.cells [.i .i64 0,.i .i64 0,.i .i64 0,.i .i64 0,.i .i64 0,.i .i64 0,.i .i64 0,.nilsl,.nilsl,.nilsl,.nilsl,.nilsl,.nilsl,.i .i64 0] 0 true⟩∧(R.1≠0→ak cO 3= .i .i64 R.1)∧(R.1=0→ ∃v,aq bp 5=⟨1,.cells [.i .i64 c.rp,.i .i64 c.rl,.i .i64 c.cn,.i .i64 c.st,.i .i64 c.ly,.i .i64 c.nf,.i .i64 c.nt,.nilsl,v8,v9,v,t11,t12,.i .i64 c.gu] 0 true⟩∧ ∃ce,be bp v 134 4 R.2.length ce∧aK R.2 ce)∧br=sh∧aq bp 70=Pc∧aq bp 109=Pe)
  (aI (fun k st=> ∃(fr:Fr) (aX:aQ aB) (v:T) (ce:List T) (dn:List Ex),st=⟨fr,aX,sh⟩∧ak fr 1= .ptr .L 1 1 0∧ak fr 2= .ptr .L 2 1 0∧ak fr 5= .ptr .L 5 1 0∧ak fr 113=a10∧ak fr 114= .i .i64 (c.cr.length:Int)∧ak fr 115= .i .i64 (k:Int)∧aq aX 1=⟨1,.cells (bG c a7 a8 a9 a10 bf ba) 0 true⟩∧aq aX 2=⟨1,.cells [.i .i64 0,.i .i64 0,.i .i64 0,.i .i64 0,.i .i64 0,.i .i64 0,.i .i64 0,.nilsl,.nilsl,.nilsl,.nilsl,.nilsl,.nilsl,.i .i64 0] 0 true⟩∧aq aX 5=⟨1,.cells [.i .i64 c.rp,.i .i64 c.rl,.i .i64 c.cn,.i .i64 c.st,.i .i64 c.ly,.i .i64 c.nf,.i .i64 c.nt,.nilsl,v8,v9,v,t11,t12,.i .i64 c.gu] 0 true⟩∧aq aX 70=Pc∧aq aX 109=Pe∧be aX v 134 4 dn.length ce∧aK dn ce∧dn.length≤k∧R.1=(ta c.cs (c.cr.drop k)).1∧R.2=dn++(ta c.cs (c.cr.drop k)).2) _ c.cr.length ?_ ?_ 0 _ (Nat.zero_le _) ⟨fr,lh,.nilsl,[],[],rfl,h1,h2,h5,pn,ou,hi,o1,o2,o5,Ll,Lm,be.nil,aK.nil,Nat.le_refl _,by rw[hR];rfl,by rw[hR];rfl⟩)
 ·rintro k _ hk ⟨fr,aX,v,ce,dn,rfl,h1,h2,h5,pn,ou,hi,o1,o2,o5,Ll,Lm,hO,pk,wa,dA,eO⟩
  have bt:(k:Int)<c.cr.length:=by omega
  have hw:=aJ (k:=k) (by omega)
  rw[List.drop_eq_getElem_cons hk,ta]at dA eO
  have leave:R.1≠0→o= .ret:=fun h=>by rw[ho,if_neg h]
  obtain⟨b,cb,rr,bh,cH,nA,hb⟩:=dm i10 jz k hk
  have kR:=hS.s10.1 c.cr[k] (List.getElem_mem hk)
  generalize c.cr[k]=u at*
  obtain⟨cf,s0,az,hy⟩:=y8 c.cs a7 c7 i7 j7 hS.s7.2 hS.s7.1 1 u _ hb kR.1 kR.2
  have nO:(eH c.cs 1 u).2=0→True:=fun _=>trivial
  generalize hq:eH c.cs 1 u=q at*
  obtain⟨y,er⟩:=q
  simp only at az hy dA eO
  obtain⟨fa,fc,rfl,fD,yT⟩:=hy.cells
  unfold bG at o1 ⊢
  generalize YS:(aq aX 15).g+1=G15
  generalize Pf:cM (cM aX 15 ⟨G15,.cells [.i .i64 0,.i .i64 0,.s [],.nilsl] 0 true⟩) 15 ⟨G15,.cells [.i .i64 u.op,.i .i64 u.num,.s u.name,b] 0 true⟩=mI
  have RI: ∀j,j≠15→aq mI j=aq aX j:=fun j hj=>by rw[←Pf,aO _ _ hj,aO _ _ hj]
  have b15:aq mI 15=⟨G15,.cells [.i .i64 u.op,.i .i64 u.num,.s u.name,b] 0 true⟩:=by rw[←Pf,bV]
  generalize YT:(aq aX 16).g+1=G16
  generalize Pg:cM (cM mI 16 ⟨G16,.cells [.i .i64 0,.i .i64 0,.s [],.nilsl] 0 true⟩) 16 ⟨G16,.cells [.i .i64 y.op,.i .i64 y.num,.s y.name,fa] 0 true⟩=rf
  have zF: ∀j,j≠16→aq rf j=aq mI j:=fun j hj=>by rw[←Pg,aO _ _ hj,aO _ _ hj]
  have b16:aq rf 16=⟨G16,.cells [.i .i64 y.op,.i .i64 y.num,.s y.name,fa] 0 true⟩:=by rw[←Pg,bV]
  have x1:=(zF 1 (by decide)).trans ((RI 1 (by decide)).trans (o1))
  have x2:=(zF 2 (by decide)).trans ((RI 2 (by decide)).trans (o2))
  have x5:=(zF 5 (by decide)).trans ((RI 5 (by decide)).trans (o5))
  have Um:=(zF 70 (by decide)).trans ((RI 70 (by decide)).trans (Ll))
  have YU:=(zF 109 (by decide)).trans ((RI 109 (by decide)).trans (Lm))
  have xa:aq rf 134=aq aX 134:=by rw[zF 134 (by decide),RI 134 (by decide)]
  have bb:=(zF 15 (by decide)).trans b15
  have Dy:=(RI 1 (by decide)).trans o1
  have bg:=RI 16 (by decide)
  by_cases hv:er=0
  ·subst hv
   simp only[ne_eq,not_true_eq_false,if_false]at dA eO
   left
   have kP:=kS (sh:=sh) (hO.congr xa) (bytes:=56) (vH (by omega) (by decide)) (ps:= [.i .i64 y.op,.i .i64 y.num,.s y.name,fa]) rfl true
   generalize hN:pA rf sh 134 4 56 v (.sl [.i .i64 y.op,.i .i64 y.num,.s y.name,fa] 1 true)=xL at kP
   generalize hV:vS rf sh 134 4 56 v (.sl [.i .i64 y.op,.i .i64 y.num,.s y.name,fa] 1 true)=v' at kP
   obtain⟨pa,pb,pc⟩:=kP
   have y5:=(pc 5 (by decide)).trans x5
   generalize oV:cM xL 5 ⟨1,.cells [.i .i64 c.rp,.i .i64 c.rl,.i .i64 c.cn,.i .i64 c.st,.i .i64 c.ly,.i .i64 c.nf,.i .i64 c.nt,.nilsl,v8,v9,v',t11,t12,.i .i64 c.gu] 0 true⟩=sj
   have q9: ∀j,j≠5→aq sj j=aq xL j:=fun j hj=>by rw[←oV,aO _ _ hj]
   have z1:=(q9 1 (by decide)).trans ((pc 1 (by decide)).trans x1)
   have z2:=(q9 2 (by decide)).trans ((pc 2 (by decide)).trans x2)
   have z5:aq sj 5=⟨1,.cells [.i .i64 c.rp,.i .i64 c.rl,.i .i64 c.cn,.i .i64 c.st,.i .i64 c.ly,.i .i64 c.nf,.i .i64 c.nt,.nilsl,v8,v9,v',t11,t12,.i .i64 c.gu] 0 true⟩:=by rw[←oV];exact bV _ _ _
   have YR:=(q9 70 (by decide)).trans ((pc 70 (by decide)).trans Um)
   have ad4:=(q9 109 (by decide)).trans ((pc 109 (by decide)).trans YU)
   have zE:=pb.congr (bp:=sj) (by rw[←oV,aO _ _ (by decide)])
   simp(maxDischargeDepth:=6) only[qF,ae,ah,aa,aj,ab,an,aF,dq,dw,splice,aH,repl,Nat.reduceAdd,Nat.reduceLT,Nat.reduceLeDiff,Nat.reduceEqDiff,eV,h1,h2,h5,pn,ou,hi,bt,bh,i7.froz,cH.froz1,az,xZ,fD.froz1,YS,Pf,b15,YT,Pg,b16,Dy,bg,x2,x5,hw,hO.notS,pa,pb.cells,pb.noTup,y5,oV]
   refine⟨_,rfl,_,_,v',_,dn++ [y],rfl, ?_, ?_, ?_, ?_, ?_, ?_,z1,z2,z5,YR,ad4,by rw[List.length_append];exact zE,aK.append pk (aK.one hy),by rw[List.length_append];exact Nat.succ_le_succ wa,dA, ?_⟩
   all_goals first|(simp(maxDischargeDepth:=6) only[aa,ab,Nat.reduceEqDiff,h1,h2,h5,pn,ou];done)|skip
   rw[eO,List.append_assoc];rfl
  ·right
   simp only[hv,ne_eq,not_false_eq_true,if_true]at dA eO
   have yh:R.1≠0:=by rw[dA];exact hv
   simp(maxDischargeDepth:=6) only[qF,ae,ah,aa,aj,ab,an,aF,splice,aH,Nat.reduceAdd,Nat.reduceLT,Nat.reduceLeDiff,Nat.reduceEqDiff,eV,h1,h2,pn,ou,hi,bt,bh,i7.froz,cH.froz1,az,xZ,YS,Pf,b15,YT,Pg,Dy,bg,x2,hv]
   refine⟨_,_,(by simp:Out.ret≠ .nrm),rfl,(leave yh).symm, ?_, ?_,fun _=> ?_,fun h=>absurd h yh,rfl, ?_, ?_⟩
   all_goals (simp(maxDischargeDepth:=6) only[aa,ab,Nat.reduceEqDiff,dA,x1,Um,YU])
 ·rintro _ ⟨fr,aX,v,ce,dn,rfl,h1,h2,h5,pn,ou,hi,o1,o2,o5,Ll,Lm,hO,pk,wa,dA,eO⟩
  rw[List.drop_length,ta]at dA eO
  rw[List.append_nil]at eO
  simp only at dA
  skip
  simp(maxDischargeDepth:=6) only[ae,ah,aa,ab,an,Nat.reduceLT,eV,ou,hi,Int.lt_irrefl]
  exact⟨_,_,(by simp:Out.ext 4≠ .nrm),rfl,by rw[ho,dA];rfl,o1,o2,fun h=>absurd dA h,fun _=>⟨v,o5,ce,by rw[eO];exact⟨hO,pk⟩⟩,rfl,Ll,Lm⟩
end
end Go.Proofs.YtfenhjpkomldcaaGreat
