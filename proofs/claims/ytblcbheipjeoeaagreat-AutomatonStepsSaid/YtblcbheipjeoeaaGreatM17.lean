/- The coin in setting.New's loop over costs, both ways. The loop over costs in setting.New. The loop over credit in setting.New. Formulas of shared rows, read; the two loops over uses in setting.New. Conditions: the theorems' own. -/
import Derived.Test.YtblcbheipjeoeaaGreatM16
import Derived.KernelRfl
set_option maxRecDepth 100000
set_option linter.unusedSimpArgs false
set_option linter.unusedVariables false
set_option maxHeartbeats 16000000
namespace Go.Proofs.YtblcbheipjeoeaaGreat
open Go Go.Ev
theorem vJ:40≤roomy:=by unfold roomy;omega
theorem zB{n:Nat}(h:n≤1000):(n+1)*40≤roomy:=by unfold roomy;omega
theorem sR{a b c x y z:T}:splice [a,b,c] 0 [x,y,z]= [x,y,z]:=rfl
theorem lD{a b c x y z:T}: ∀(cs:List T),splice (cs++ [a,b,c]) cs.length [x,y,z]=cs++ [x,y,z]
 | []=>rfl
 |u::cs=>by rw[List.cons_append,List.cons_append,List.length_cons,splice,lD cs]
theorem sS{cs:List T}{a b c:T}:(cs++ [a,b,c]).length=cs.length+3:=by simp
theorem VG{a b c:T}:(cellsOf (.agg [a,b,c])).length=3:=rfl
theorem abb{a b c:T}:noTup (.agg [a,b,c])=true:=rfl
theorem aip(c:Ct)(a7 a8 a9 a10 fB fA zT aT fT nb r1 r2 r3 c2 c3:T)(m:List (List Nat×Nat))(kn hJ:List (Nat×Int))(R:List fg)(x:Ex)(b:T)(y:Fm)(fa:T)(yQ:Nat)(fr:Fr)(lh:fC fg)
  (NF:froz1 b=true) (zC:kept1 b=true) (hfz:froz1 fa=true) (Kf:kept1 fa=true)
  (fu:fj pE 89 [.ptr .S 2 1 0,.i .i64 1,.agg [.i .i64 x.op,.i .i64 x.num,.s x.name,b]] (jA a7 m kn R)=some (.agg [.i .i64 y.op,.i .i64 y.num,fa],jA a7 m hJ R))
  (h8:an fr 8= .ptr .L 37 1 0) (iM:an fr 14= .ptr .S 2 1 0) (oT:an fr 18= .ptr .L 18 yQ 0) (zD:be lh 18=⟨yQ,.cells [.i .i64 1,.i .i64 x.op,.i .i64 x.num,.s x.name,b] 0 true⟩) (im:be lh 37=⟨1,.cells (ky zT aT fT c a7 a8 a9 a10 fB fA (lb r1 r2 r3 (.nilsl) c2 c3 .nilsl nb)) 0 true⟩) (cc:fm) (j6:cc=qU gB∨cc=qV gB):
  ∃f1 l1,DC pE 232 cc ⟨fr,lh,jA a7 m kn R⟩=some (.nrm,⟨f1,l1,jA a7 m hJ (il R R.length ⟨1,.cells [.i .i64 y.op,.i .i64 y.num,fa] 0 false⟩)⟩)∧(∀k,(gY gB).contains k=false→k≠37→be l1 k=be lh k)∧be l1 37=⟨1,.cells (ky zT aT fT c a7 a8 a9 a10 fB fA (lb r1 r2 r3 (.isl .S (R.length+7) 1 0 1 3) c2 c3 .nilsl nb)) 0 true⟩:=by
 have GX:=vJ
 unfold ky fX lb at im ⊢
 simp only[List.cons_append,List.nil_append]at im ⊢
 rcases j6 with rfl|rfl
 ·
  simp(maxDischargeDepth:=6) only[qA,seval,jz,repl,gW,fU,nM,oM,iP,gB,qU,h8,iM,oT,zD,im,fu,qE,rj,zC,hfz,j3,j4,gQ,kI,gM,lB,Db,rZ,Dc,GX,ic,iE,sR,Nat.lt_succ_self]
  refine⟨_,_,rfl, ?_, ?_⟩
  ·intro k hk xg
   have qx:k≠111:=by rintro rfl;exact absurd hk (by decide)
   repeat (first|rw[gO _ _ xg]|rw[gO _ _ qx])
  ·simp(maxDischargeDepth:=6) only[qA,seval]
 ·
  simp(maxDischargeDepth:=6) only[qA,seval,jz,repl,gW,fU,nM,oM,iP,gB,qV,h8,iM,oT,zD,im,fu,qE,rj,zC,hfz,j3,j4,gQ,kI,gM,lB,Db,rZ,Dc,GX,ic,iE,sR,Nat.lt_succ_self]
  refine⟨_,_,rfl, ?_, ?_⟩
  ·intro k hk xg
   have qx:k≠111:=by rintro rfl;exact absurd hk (by decide)
   repeat (first|rw[gO _ _ xg]|rw[gO _ _ qx])
  ·simp(maxDischargeDepth:=6) only[qA,seval]
theorem aiq(c:Ct)(a7 a8 a9 a10 fB fA zT aT fT nb r1 r2 r3 c2 c3:T)(m:List (List Nat×Nat))(kn hJ:List (Nat×Int))(R:List fg)(x:Ex)(b:T)(y:Fm)(fa:T)(yQ:Nat)(i g n:Nat)(cs:List T)(hE:gC R i=⟨g,.cells cs 0 false⟩)(hn:n*3=cs.length)(hn1:n≤1000)(fr:Fr)(lh:fC fg)
  (NF:froz1 b=true) (zC:kept1 b=true) (hfz:froz1 fa=true) (Kf:kept1 fa=true)
  (fu:fj pE 89 [.ptr .S 2 1 0,.i .i64 1,.agg [.i .i64 x.op,.i .i64 x.num,.s x.name,b]] (jA a7 m kn R)=some (.agg [.i .i64 y.op,.i .i64 y.num,fa],jA a7 m hJ R))
  (h8:an fr 8= .ptr .L 37 1 0) (iM:an fr 14= .ptr .S 2 1 0) (oT:an fr 18= .ptr .L 18 yQ 0) (zD:be lh 18=⟨yQ,.cells [.i .i64 1,.i .i64 x.op,.i .i64 x.num,.s x.name,b] 0 true⟩) (im:be lh 37=⟨1,.cells (ky zT aT fT c a7 a8 a9 a10 fB fA (lb r1 r2 r3 (.isl .S (i+7) g 0 n 3) c2 c3 .nilsl nb)) 0 true⟩) (cc:fm) (j6:cc=qU gB∨cc=qV gB):
  ∃f1 l1,DC pE 232 cc ⟨fr,lh,jA a7 m kn R⟩=some (.nrm,⟨f1,l1,jA a7 m hJ (il R i ⟨g+1,.cells (cs++ [.i .i64 y.op,.i .i64 y.num,fa]) 0 false⟩)⟩)∧(∀k,(gY gB).contains k=false→k≠37→be l1 k=be lh k)∧be l1 37=⟨1,.cells (ky zT aT fT c a7 a8 a9 a10 fB fA (lb r1 r2 r3 (.isl .S (i+7) (g+1) 0 (n+1) 3) c2 c3 .nilsl nb)) 0 true⟩:=by
 have GX:=vJ
 have uO:(n+1)*40≤roomy:=zB hn1
 unfold ky fX lb at im ⊢
 simp only[List.cons_append,List.nil_append]at im ⊢
 rcases j6 with rfl|rfl
 ·
  simp(maxDischargeDepth:=6) only[qA,seval,jz,repl,gW,fU,nM,oM,iP,gB,qU,h8,iM,oT,zD,im,fu,qE,rj,zC,hfz,j3,j4,gQ,kJ,gM,lC,ji,Db,rZ,Dc,ic,iE,lD,sS,Nat.lt_succ_self,hE,hn,uO]
  refine⟨_,_,rfl, ?_, ?_⟩
  ·intro k hk xg
   have qx:k≠111:=by rintro rfl;exact absurd hk (by decide)
   repeat (first|rw[gO _ _ xg]|rw[gO _ _ qx])
  ·simp(maxDischargeDepth:=6) only[qA,seval]
 ·
  simp(maxDischargeDepth:=6) only[qA,seval,jz,repl,gW,fU,nM,oM,iP,gB,qV,h8,iM,oT,zD,im,fu,qE,rj,zC,hfz,j3,j4,gQ,kJ,gM,lC,ji,Db,rZ,Dc,ic,iE,lD,sS,Nat.lt_succ_self,hE,hn,uO]
  refine⟨_,_,rfl, ?_, ?_⟩
  ·intro k hk xg
   have qx:k≠111:=by rintro rfl;exact absurd hk (by decide)
   repeat (first|rw[gO _ _ xg]|rw[gO _ _ qx])
  ·simp(maxDischargeDepth:=6) only[qA,seval]
theorem air(c:Ct)(a7 a8 a9 a10 fB fA zT aT fT nb r1 r2 r3 c1 c3:T)(m:List (List Nat×Nat))(kn hJ:List (Nat×Int))(R:List fg)(x:Ex)(b:T)(y:Fm)(fa:T)(yQ:Nat)(fr:Fr)(lh:fC fg)
  (NF:froz1 b=true) (zC:kept1 b=true) (hfz:froz1 fa=true) (Kf:kept1 fa=true)
  (fu:fj pE 89 [.ptr .S 2 1 0,.i .i64 2,.agg [.i .i64 x.op,.i .i64 x.num,.s x.name,b]] (jA a7 m kn R)=some (.agg [.i .i64 y.op,.i .i64 y.num,fa],jA a7 m hJ R))
  (h8:an fr 8= .ptr .L 37 1 0) (iM:an fr 14= .ptr .S 2 1 0) (oT:an fr 18= .ptr .L 18 yQ 0) (zD:be lh 18=⟨yQ,.cells [.i .i64 2,.i .i64 x.op,.i .i64 x.num,.s x.name,b] 0 true⟩) (im:be lh 37=⟨1,.cells (ky zT aT fT c a7 a8 a9 a10 fB fA (lb r1 r2 r3 c1 (.nilsl) c3 .nilsl nb)) 0 true⟩) (cc:fm) (j6:cc=qU gB∨cc=qV gB):
  ∃f1 l1,DC pE 232 cc ⟨fr,lh,jA a7 m kn R⟩=some (.nrm,⟨f1,l1,jA a7 m hJ (il R R.length ⟨1,.cells [.i .i64 y.op,.i .i64 y.num,fa] 0 false⟩)⟩)∧(∀k,(gY gB).contains k=false→k≠37→be l1 k=be lh k)∧be l1 37=⟨1,.cells (ky zT aT fT c a7 a8 a9 a10 fB fA (lb r1 r2 r3 c1 (.isl .S (R.length+7) 1 0 1 3) c3 .nilsl nb)) 0 true⟩:=by
 have GX:=vJ
 unfold ky fX lb at im ⊢
 simp only[List.cons_append,List.nil_append]at im ⊢
 rcases j6 with rfl|rfl
 ·
  simp(maxDischargeDepth:=6) only[qA,seval,jz,repl,gW,fU,nM,oM,iP,gB,qU,h8,iM,oT,zD,im,fu,qE,rj,zC,hfz,j3,j4,gQ,kI,gM,lB,Db,rZ,Dc,GX,ic,iE,sR,Nat.lt_succ_self]
  refine⟨_,_,rfl, ?_, ?_⟩
  ·intro k hk xg
   have qx:k≠111:=by rintro rfl;exact absurd hk (by decide)
   repeat (first|rw[gO _ _ xg]|rw[gO _ _ qx])
  ·simp(maxDischargeDepth:=6) only[qA,seval]
 ·
  simp(maxDischargeDepth:=6) only[qA,seval,jz,repl,gW,fU,nM,oM,iP,gB,qV,h8,iM,oT,zD,im,fu,qE,rj,zC,hfz,j3,j4,gQ,kI,gM,lB,Db,rZ,Dc,GX,ic,iE,sR,Nat.lt_succ_self]
  refine⟨_,_,rfl, ?_, ?_⟩
  ·intro k hk xg
   have qx:k≠111:=by rintro rfl;exact absurd hk (by decide)
   repeat (first|rw[gO _ _ xg]|rw[gO _ _ qx])
  ·simp(maxDischargeDepth:=6) only[qA,seval]
theorem ais(c:Ct)(a7 a8 a9 a10 fB fA zT aT fT nb r1 r2 r3 c1 c3:T)(m:List (List Nat×Nat))(kn hJ:List (Nat×Int))(R:List fg)(x:Ex)(b:T)(y:Fm)(fa:T)(yQ:Nat)(i g n:Nat)(cs:List T)(hE:gC R i=⟨g,.cells cs 0 false⟩)(hn:n*3=cs.length)(hn1:n≤1000)(fr:Fr)(lh:fC fg)
  (NF:froz1 b=true) (zC:kept1 b=true) (hfz:froz1 fa=true) (Kf:kept1 fa=true)
  (fu:fj pE 89 [.ptr .S 2 1 0,.i .i64 2,.agg [.i .i64 x.op,.i .i64 x.num,.s x.name,b]] (jA a7 m kn R)=some (.agg [.i .i64 y.op,.i .i64 y.num,fa],jA a7 m hJ R))
  (h8:an fr 8= .ptr .L 37 1 0) (iM:an fr 14= .ptr .S 2 1 0) (oT:an fr 18= .ptr .L 18 yQ 0) (zD:be lh 18=⟨yQ,.cells [.i .i64 2,.i .i64 x.op,.i .i64 x.num,.s x.name,b] 0 true⟩) (im:be lh 37=⟨1,.cells (ky zT aT fT c a7 a8 a9 a10 fB fA (lb r1 r2 r3 c1 (.isl .S (i+7) g 0 n 3) c3 .nilsl nb)) 0 true⟩) (cc:fm) (j6:cc=qU gB∨cc=qV gB):
  ∃f1 l1,DC pE 232 cc ⟨fr,lh,jA a7 m kn R⟩=some (.nrm,⟨f1,l1,jA a7 m hJ (il R i ⟨g+1,.cells (cs++ [.i .i64 y.op,.i .i64 y.num,fa]) 0 false⟩)⟩)∧(∀k,(gY gB).contains k=false→k≠37→be l1 k=be lh k)∧be l1 37=⟨1,.cells (ky zT aT fT c a7 a8 a9 a10 fB fA (lb r1 r2 r3 c1 (.isl .S (i+7) (g+1) 0 (n+1) 3) c3 .nilsl nb)) 0 true⟩:=by
 have GX:=vJ
 have uO:(n+1)*40≤roomy:=zB hn1
 unfold ky fX lb at im ⊢
 simp only[List.cons_append,List.nil_append]at im ⊢
 rcases j6 with rfl|rfl
 ·
  simp(maxDischargeDepth:=6) only[qA,seval,jz,repl,gW,fU,nM,oM,iP,gB,qU,h8,iM,oT,zD,im,fu,qE,rj,zC,hfz,j3,j4,gQ,kJ,gM,lC,ji,Db,rZ,Dc,ic,iE,lD,sS,Nat.lt_succ_self,hE,hn,uO]
  refine⟨_,_,rfl, ?_, ?_⟩
  ·intro k hk xg
   have qx:k≠111:=by rintro rfl;exact absurd hk (by decide)
   repeat (first|rw[gO _ _ xg]|rw[gO _ _ qx])
  ·simp(maxDischargeDepth:=6) only[qA,seval]
 ·
  simp(maxDischargeDepth:=6) only[qA,seval,jz,repl,gW,fU,nM,oM,iP,gB,qV,h8,iM,oT,zD,im,fu,qE,rj,zC,hfz,j3,j4,gQ,kJ,gM,lC,ji,Db,rZ,Dc,ic,iE,lD,sS,Nat.lt_succ_self,hE,hn,uO]
  refine⟨_,_,rfl, ?_, ?_⟩
  ·intro k hk xg
   have qx:k≠111:=by rintro rfl;exact absurd hk (by decide)
   repeat (first|rw[gO _ _ xg]|rw[gO _ _ qx])
  ·simp(maxDischargeDepth:=6) only[qA,seval]
theorem ait(c:Ct)(a7 a8 a9 a10 fB fA zT aT fT nb r1 r2 r3 c1 c2:T)(m:List (List Nat×Nat))(kn hJ:List (Nat×Int))(R:List fg)(x:Ex)(b:T)(y:Fm)(fa:T)(yQ:Nat)(fr:Fr)(lh:fC fg)
  (NF:froz1 b=true) (zC:kept1 b=true) (hfz:froz1 fa=true) (Kf:kept1 fa=true)
  (fu:fj pE 89 [.ptr .S 2 1 0,.i .i64 3,.agg [.i .i64 x.op,.i .i64 x.num,.s x.name,b]] (jA a7 m kn R)=some (.agg [.i .i64 y.op,.i .i64 y.num,fa],jA a7 m hJ R))
  (h8:an fr 8= .ptr .L 37 1 0) (iM:an fr 14= .ptr .S 2 1 0) (oT:an fr 18= .ptr .L 18 yQ 0) (zD:be lh 18=⟨yQ,.cells [.i .i64 3,.i .i64 x.op,.i .i64 x.num,.s x.name,b] 0 true⟩) (im:be lh 37=⟨1,.cells (ky zT aT fT c a7 a8 a9 a10 fB fA (lb r1 r2 r3 c1 c2 (.nilsl) .nilsl nb)) 0 true⟩) (cc:fm) (j6:cc=qU gB∨cc=qV gB):
  ∃f1 l1,DC pE 232 cc ⟨fr,lh,jA a7 m kn R⟩=some (.nrm,⟨f1,l1,jA a7 m hJ (il R R.length ⟨1,.cells [.i .i64 y.op,.i .i64 y.num,fa] 0 false⟩)⟩)∧(∀k,(gY gB).contains k=false→k≠37→be l1 k=be lh k)∧be l1 37=⟨1,.cells (ky zT aT fT c a7 a8 a9 a10 fB fA (lb r1 r2 r3 c1 c2 (.isl .S (R.length+7) 1 0 1 3) .nilsl nb)) 0 true⟩:=by
 have GX:=vJ
 unfold ky fX lb at im ⊢
 simp only[List.cons_append,List.nil_append]at im ⊢
 rcases j6 with rfl|rfl
 ·
  simp(maxDischargeDepth:=6) only[qA,seval,jz,repl,gW,fU,nM,oM,iP,gB,qU,h8,iM,oT,zD,im,fu,qE,rj,zC,hfz,j3,j4,gQ,kI,gM,lB,Db,rZ,Dc,GX,ic,iE,sR,Nat.lt_succ_self]
  refine⟨_,_,rfl, ?_, ?_⟩
  ·intro k hk xg
   have qx:k≠111:=by rintro rfl;exact absurd hk (by decide)
   repeat (first|rw[gO _ _ xg]|rw[gO _ _ qx])
  ·simp(maxDischargeDepth:=6) only[qA,seval]
 ·
  simp(maxDischargeDepth:=6) only[qA,seval,jz,repl,gW,fU,nM,oM,iP,gB,qV,h8,iM,oT,zD,im,fu,qE,rj,zC,hfz,j3,j4,gQ,kI,gM,lB,Db,rZ,Dc,GX,ic,iE,sR,Nat.lt_succ_self]
  refine⟨_,_,rfl, ?_, ?_⟩
  ·intro k hk xg
   have qx:k≠111:=by rintro rfl;exact absurd hk (by decide)
   repeat (first|rw[gO _ _ xg]|rw[gO _ _ qx])
  ·simp(maxDischargeDepth:=6) only[qA,seval]
theorem aiu(c:Ct)(a7 a8 a9 a10 fB fA zT aT fT nb r1 r2 r3 c1 c2:T)(m:List (List Nat×Nat))(kn hJ:List (Nat×Int))(R:List fg)(x:Ex)(b:T)(y:Fm)(fa:T)(yQ:Nat)(i g n:Nat)(cs:List T)(hE:gC R i=⟨g,.cells cs 0 false⟩)(hn:n*3=cs.length)(hn1:n≤1000)(fr:Fr)(lh:fC fg)
  (NF:froz1 b=true) (zC:kept1 b=true) (hfz:froz1 fa=true) (Kf:kept1 fa=true)
  (fu:fj pE 89 [.ptr .S 2 1 0,.i .i64 3,.agg [.i .i64 x.op,.i .i64 x.num,.s x.name,b]] (jA a7 m kn R)=some (.agg [.i .i64 y.op,.i .i64 y.num,fa],jA a7 m hJ R))
  (h8:an fr 8= .ptr .L 37 1 0) (iM:an fr 14= .ptr .S 2 1 0) (oT:an fr 18= .ptr .L 18 yQ 0) (zD:be lh 18=⟨yQ,.cells [.i .i64 3,.i .i64 x.op,.i .i64 x.num,.s x.name,b] 0 true⟩) (im:be lh 37=⟨1,.cells (ky zT aT fT c a7 a8 a9 a10 fB fA (lb r1 r2 r3 c1 c2 (.isl .S (i+7) g 0 n 3) .nilsl nb)) 0 true⟩) (cc:fm) (j6:cc=qU gB∨cc=qV gB):
  ∃f1 l1,DC pE 232 cc ⟨fr,lh,jA a7 m kn R⟩=some (.nrm,⟨f1,l1,jA a7 m hJ (il R i ⟨g+1,.cells (cs++ [.i .i64 y.op,.i .i64 y.num,fa]) 0 false⟩)⟩)∧(∀k,(gY gB).contains k=false→k≠37→be l1 k=be lh k)∧be l1 37=⟨1,.cells (ky zT aT fT c a7 a8 a9 a10 fB fA (lb r1 r2 r3 c1 c2 (.isl .S (i+7) (g+1) 0 (n+1) 3) .nilsl nb)) 0 true⟩:=by
 have GX:=vJ
 have uO:(n+1)*40≤roomy:=zB hn1
 unfold ky fX lb at im ⊢
 simp only[List.cons_append,List.nil_append]at im ⊢
 rcases j6 with rfl|rfl
 ·
  simp(maxDischargeDepth:=6) only[qA,seval,jz,repl,gW,fU,nM,oM,iP,gB,qU,h8,iM,oT,zD,im,fu,qE,rj,zC,hfz,j3,j4,gQ,kJ,gM,lC,ji,Db,rZ,Dc,ic,iE,lD,sS,Nat.lt_succ_self,hE,hn,uO]
  refine⟨_,_,rfl, ?_, ?_⟩
  ·intro k hk xg
   have qx:k≠111:=by rintro rfl;exact absurd hk (by decide)
   repeat (first|rw[gO _ _ xg]|rw[gO _ _ qx])
  ·simp(maxDischargeDepth:=6) only[qA,seval]
 ·
  simp(maxDischargeDepth:=6) only[qA,seval,jz,repl,gW,fU,nM,oM,iP,gB,qV,h8,iM,oT,zD,im,fu,qE,rj,zC,hfz,j3,j4,gQ,kJ,gM,lC,ji,Db,rZ,Dc,ic,iE,lD,sS,Nat.lt_succ_self,hE,hn,uO]
  refine⟨_,_,rfl, ?_, ?_⟩
  ·intro k hk xg
   have qx:k≠111:=by rintro rfl;exact absurd hk (by decide)
   repeat (first|rw[gO _ _ xg]|rw[gO _ _ qx])
  ·simp(maxDischargeDepth:=6) only[qA,seval]
end Go.Proofs.YtblcbheipjeoeaaGreat
namespace Go.Proofs.YtblcbheipjeoeaaGreat
open Go Go.Ev
theorem sb{fr:Fr}{lh:fC fg}{sh SH:List fg}{X:fg}(A: ∀cc,(cc=qU gB∨cc=qV gB)→ ∃f1 l1,DC pE 232 cc ⟨fr,lh,sh⟩=some (.nrm,⟨f1,l1,SH⟩)∧(∀k,(gY gB).contains k=false→k≠37→be l1 k=be lh k)∧be l1 37=X):
  ∃fR fH,DC pE 232 gB ⟨fr,lh,sh⟩=some (.nrm,⟨fR,fH,SH⟩)∧(∀k,(gY gB).contains k=false→an fR k=an fr k)∧(∀k,(gY gB).contains k=false→k≠37→be fH k=be lh k)∧be fH 37=X:=by
 obtain⟨f1,l1,g1,p1,x1⟩:=A _ (.inl rfl)
 obtain⟨f2,l2,g2,p2,x2⟩:=A _ (.inr rfl)
 obtain⟨fR,fH,q1,q2,q3⟩:=Vj (by rfl) g1 g2 (fun k hk=>by
  by_cases h:k=37
  ·subst h;rw[x1,x2]
  ·rw[p1 k hk h,p2 k hk h])
 exact⟨fR,fH,q1,q2,fun j hj h=>(q3 j hj).trans (p1 j hj h),(q3 37 (by decide)).trans x1⟩
theorem anR{fr:Fr}{lh:fC fg}{D:Option (Out×St)}(c:Ct)(a7 a8 a9 a10 fB fA zT aT fT nb r1 r2 r3 c1 c2 c3:T)(m:List (List Nat×Nat))(kn hJ:List (Nat×Int))(R:List fg)(x:Ex)(b:T)(y:Fm)(fa:T)(yQ:Nat)(sc:Int)(k:Nat)(k6:sc=1∨sc=2∨sc=3)(hk:k≤900)(pP:jB R k (mh r1 r2 r3 c1 c2 c3 .nilsl))(hy:nC y [.i .i64 y.op,.i .i64 y.num,fa])(nL:y.sz≤1000)
  (NF:froz1 b=true) (zC:kept1 b=true) (hfz:froz1 fa=true) (Kf:kept1 fa=true)
  (fu:fj pE 89 [.ptr .S 2 1 0,.i .i64 sc,.agg [.i .i64 x.op,.i .i64 x.num,.s x.name,b]] (jA a7 m kn R)=some (.agg [.i .i64 y.op,.i .i64 y.num,fa],jA a7 m hJ R))
  (hD:DC pE 232 gB ⟨fr,lh,jA a7 m kn R⟩=D)
  (h8:an fr 8= .ptr .L 37 1 0) (iM:an fr 14= .ptr .S 2 1 0) (oT:an fr 18= .ptr .L 18 yQ 0) (zD:be lh 18=⟨yQ,.cells [.i .i64 sc,.i .i64 x.op,.i .i64 x.num,.s x.name,b] 0 true⟩) (im:be lh 37=⟨1,.cells (ky zT aT fT c a7 a8 a9 a10 fB fA (lb r1 r2 r3 c1 c2 c3 .nilsl nb)) 0 true⟩):
  ∃fR fH R' SE c2' c3',D=some (.nrm,⟨fR,fH,jA a7 m hJ R'⟩)∧jB R' (k+1) (mh r1 r2 r3 SE c2' c3' .nilsl)∧(∀k,(gY gB).contains k=false→an fR k=an fr k)∧(∀k,(gY gB).contains k=false→k≠37→be fH k=be lh k)∧be fH 37=⟨1,.cells (ky zT aT fT c a7 a8 a9 a10 fB fA (lb r1 r2 r3 SE c2' c3' .nilsl nb)) 0 true⟩:=by
 have xf:vQ 3 [.i .i64 y.op,.i .i64 y.num,fa]:=by
  have:=(vQ.nil 3).app3 y _ hy nL
  simpa using this
 rcases k6 with rfl|rfl|rfl
 ·rcases pP.1 (3,c1) (by simp[mh])with jW|⟨i,g,n,cs,hv,hE,hi,hn,hB,Rs⟩
  ·simp only at jW
   subst jW
   have kN:=(pP.mono (Nat.le_succ k)).new (by omega) 3 (by simp[mh]) (sz:=3) rfl [.i .i64 y.op,.i .i64 y.num,fa] rfl xf
   obtain⟨fR,fH,q1,q2,q3,q4⟩:=sb (aip c a7 a8 a9 a10 fB fA zT aT fT nb r1 r2 r3 c2 c3 m kn hJ R x b y fa yQ fr lh NF zC hfz Kf fu h8 iM oT zD im)
   exact⟨fR,fH,_,_,c2,c3,hD.symm.trans q1,kN,q2,q3,q4⟩
  ·simp only at hv
   subst hv
   have xU:=pP.app 3 (by simp[mh]) (sz:=3) rfl rfl hE hi hn hB [.i .i64 y.op,.i .i64 y.num,fa] rfl (Rs.app3 y _ hy nL) (g+1)
   obtain⟨fR,fH,q1,q2,q3,q4⟩:=sb (aiq c a7 a8 a9 a10 fB fA zT aT fT nb r1 r2 r3 c2 c3 m kn hJ R x b y fa yQ i g n cs hE hn (by omega) fr lh NF zC hfz Kf fu h8 iM oT zD im)
   exact⟨fR,fH,_,_,c2,c3,hD.symm.trans q1,xU,q2,q3,q4⟩
 ·rcases pP.1 (3,c2) (by simp[mh])with jW|⟨i,g,n,cs,hv,hE,hi,hn,hB,Rs⟩
  ·simp only at jW
   subst jW
   have kN:=(pP.mono (Nat.le_succ k)).new (by omega) 4 (by simp[mh]) (sz:=3) rfl [.i .i64 y.op,.i .i64 y.num,fa] rfl xf
   obtain⟨fR,fH,q1,q2,q3,q4⟩:=sb (air c a7 a8 a9 a10 fB fA zT aT fT nb r1 r2 r3 c1 c3 m kn hJ R x b y fa yQ fr lh NF zC hfz Kf fu h8 iM oT zD im)
   exact⟨fR,fH,_,c1,_,c3,hD.symm.trans q1,kN,q2,q3,q4⟩
  ·simp only at hv
   subst hv
   have xU:=pP.app 4 (by simp[mh]) (sz:=3) rfl rfl hE hi hn hB [.i .i64 y.op,.i .i64 y.num,fa] rfl (Rs.app3 y _ hy nL) (g+1)
   obtain⟨fR,fH,q1,q2,q3,q4⟩:=sb (ais c a7 a8 a9 a10 fB fA zT aT fT nb r1 r2 r3 c1 c3 m kn hJ R x b y fa yQ i g n cs hE hn (by omega) fr lh NF zC hfz Kf fu h8 iM oT zD im)
   exact⟨fR,fH,_,c1,_,c3,hD.symm.trans q1,xU,q2,q3,q4⟩
 ·rcases pP.1 (3,c3) (by simp[mh])with jW|⟨i,g,n,cs,hv,hE,hi,hn,hB,Rs⟩
  ·simp only at jW
   subst jW
   have kN:=(pP.mono (Nat.le_succ k)).new (by omega) 5 (by simp[mh]) (sz:=3) rfl [.i .i64 y.op,.i .i64 y.num,fa] rfl xf
   obtain⟨fR,fH,q1,q2,q3,q4⟩:=sb (ait c a7 a8 a9 a10 fB fA zT aT fT nb r1 r2 r3 c1 c2 m kn hJ R x b y fa yQ fr lh NF zC hfz Kf fu h8 iM oT zD im)
   exact⟨fR,fH,_,c1,c2,_,hD.symm.trans q1,kN,q2,q3,q4⟩
  ·simp only at hv
   subst hv
   have xU:=pP.app 5 (by simp[mh]) (sz:=3) rfl rfl hE hi hn hB [.i .i64 y.op,.i .i64 y.num,fa] rfl (Rs.app3 y _ hy nL) (g+1)
   obtain⟨fR,fH,q1,q2,q3,q4⟩:=sb (aiu c a7 a8 a9 a10 fB fA zT aT fT nb r1 r2 r3 c1 c2 m kn hJ R x b y fa yQ i g n cs hE hn (by omega) fr lh NF zC hfz Kf fu h8 iM oT zD im)
   exact⟨fR,fH,_,c1,c2,_,hD.symm.trans q1,xU,q2,q3,q4⟩
theorem nwc(c:Ct)(a7 a9:T)(c7 c9:List T)(i7:fD a7 c.cs.length c7)(j7:iR c.cs c7)(i9:fD a9 c.co.length c9)(j9:fy SU c.co c9)(hlen:c.co.length≤40)(vR: ∀u∈c.co,ND c.cs u.sc u.x)(zT aT fT a8 a10 fB fA nb r1 r2 r3:T)(k2 k3 tw:fg)(Bl:List (Nat×Int))(xT:nN c.cs Bl)(R0:List fg)(I6:jB R0 40 (mh r1 r2 r3 .nilsl .nilsl .nilsl .nilsl))(fr:Fr)(lh:fC fg)(sh:List fg)(jh:sh=jA a7 (gG c.cs c.cs.length) Bl R0)
  (h8:an fr 8= .ptr .L 37 1 0) (iM:an fr 14= .ptr .S 2 1 0) (I7:an fr 105=a9) (GY:an fr 106= .i .i64 (c.co.length:Int)) (GZ:an fr 107= .i .i64 0) (o2:be lh 2=k2) (o3:be lh 3=k3) (kE:be lh 35=tw) (im:be lh 37=⟨1,.cells (ky zT aT fT c a7 a8 a9 a10 fB fA (lb r1 r2 r3 .nilsl .nilsl .nilsl .nilsl nb)) 0 true⟩):
  DC pE 232 (.loop lO) ⟨fr,lh,sh⟩=some (.ext 6,⟨gr pE 232 lO fr lh sh,gp pE 232 lO fr lh sh,gn pE 232 lO fr lh sh⟩)∧
  (be (gp pE 232 lO fr lh sh) 2=k2∧be (gp pE 232 lO fr lh sh) 3=k3∧be (gp pE 232 lO fr lh sh) 35=tw∧ ∃(R:List fg) (kn:List (Nat×Int)) (c1 c2 c3:T),gn pE 232 lO fr lh sh=jA a7 (gG c.cs c.cs.length) kn R∧nN c.cs kn∧jB R 80 (mh r1 r2 r3 c1 c2 c3 .nilsl)∧be (gp pE 232 lO fr lh sh) 37=⟨1,.cells (ky zT aT fT c a7 a8 a9 a10 fB fA (lb r1 r2 r3 c1 c2 c3 .nilsl nb)) 0 true⟩):=by
 refine fq (P:=fun fR fH fL=>be fH 2=k2∧be fH 3=k3∧be fH 35=tw∧ ∃(R:List fg) (kn:List (Nat×Int)) (c1 c2 c3:T),fL=jA a7 (gG c.cs c.cs.length) kn R∧nN c.cs kn∧jB R 80 (mh r1 r2 r3 c1 c2 c3 .nilsl)∧be fH 37=⟨1,.cells (ky zT aT fT c a7 a8 a9 a10 fB fA (lb r1 r2 r3 c1 c2 c3 .nilsl nb)) 0 true⟩)
  (fw (fun k st=> ∃(fr:Fr) (fG:fC fg) (R:List fg) (kn:List (Nat×Int)) (c1 c2 c3:T),st=⟨fr,fG,jA a7 (gG c.cs c.cs.length) kn R⟩∧nN c.cs kn∧jB R (40+k) (mh r1 r2 r3 c1 c2 c3 .nilsl)∧an fr 8= .ptr .L 37 1 0∧an fr 14= .ptr .S 2 1 0∧an fr 105=a9∧an fr 106= .i .i64 (c.co.length:Int)∧an fr 107= .i .i64 (k:Int)∧be fG 2=k2∧be fG 3=k3∧be fG 35=tw∧be fG 37=⟨1,.cells (ky zT aT fT c a7 a8 a9 a10 fB fA (lb r1 r2 r3 c1 c2 c3 .nilsl nb)) 0 true⟩) _ c.co.length ?_ ?_ 0 _ (Nat.zero_le _) ⟨fr,lh,R0,Bl,.nilsl,.nilsl,.nilsl,by rw[jh],xT,I6,h8,iM,I7,GY,GZ,o2,o3,kE,im⟩)
 ·rintro k _ hk ⟨fr,fG,R,kn,c1,c2,c3,rfl,nz,pP,h8,iM,I7,GY,GZ,o2,o3,kE,im⟩
  left
  have fK:(k:Int)<c.co.length:=by omega
  have hw:=gl (k:=k) (by omega)
  obtain⟨b,cb,rr,fF,iK,hb⟩:=C2 i9 j9 k hk
  obtain⟨k6,hval,t,lN⟩:=vR c.co[k] (List.getElem_mem hk)
  have Bn:=(qw hval).1
  obtain⟨cf,hJ,fu,uW,mY,_⟩:=Es c.cs a7 R c.cs.length (Nat.le_refl _) (Et c.cs a7 R c7 i7 j7) c.co[k].sc (.inr k6) c.co[k].x t kn _ nz hb Bn (oP hval) (by rw[Bo];exact lN)
  have nL:=zA (sa c.cs) c.co[k].sc c.co[k].x
  generalize c.co[k]=u at*
  generalize comp (sa c.cs) u.sc u.x=y at*
  obtain⟨fa,fc,rfl,AX,hf2⟩:=uW.cells
  simp(maxDischargeDepth:=6) only[qA,seval,lO,I7,GY,GZ,fK,fF]
  generalize hD:DC pE 232 gB _=D
  obtain⟨fR,fH,R',SE,c2',c3',rfl,hR',q2,q3,q4⟩:=anR c a7 a8 a9 a10 fB fA zT aT fT nb r1 r2 r3 c1 c2 c3 _ kn hJ R u.x b y fa ((be fG 18).g+1) u.sc (40+k) k6 (by omega) pP uW (by omega) iK.froz1 iK.kept1 AX.froz1 AX.kept1 fu hD (by simp(maxDischargeDepth:=6) only[qA,seval,h8]) (by simp(maxDischargeDepth:=6) only[qA,seval,iM]) (by simp(maxDischargeDepth:=6) only[qA,seval]) (by simp(maxDischargeDepth:=6) only[qA,seval]) (by simp(maxDischargeDepth:=6) only[qA,seval,im])
  have f8:an fR 8= .ptr .L 37 1 0:=by rw[q2 8 (by decide)];simp(maxDischargeDepth:=6) only[qA,seval,h8]
  have f14:an fR 14= .ptr .S 2 1 0:=by rw[q2 14 (by decide)];simp(maxDischargeDepth:=6) only[qA,seval,iM]
  have f105:an fR 105=a9:=by rw[q2 105 (by decide)];simp(maxDischargeDepth:=6) only[qA,seval,I7]
  have f106:an fR 106= .i .i64 (c.co.length:Int):=by rw[q2 106 (by decide)];simp(maxDischargeDepth:=6) only[qA,seval,GY]
  have f107:an fR 107= .i .i64 (k:Int):=by rw[q2 107 (by decide)];simp(maxDischargeDepth:=6) only[qA,seval,GZ]
  have p2:be fH 2=k2:=by rw[q3 2 (by decide) (by decide)];simp(maxDischargeDepth:=6) only[qA,seval,o2]
  have p3:be fH 3=k3:=by rw[q3 3 (by decide) (by decide)];simp(maxDischargeDepth:=6) only[qA,seval,o3]
  have p35:be fH 35=tw:=by rw[q3 35 (by decide) (by decide)];simp(maxDischargeDepth:=6) only[qA,seval,kE]
  simp(maxDischargeDepth:=6) only[qA,seval,f107,hw]
  refine⟨_,rfl,_,_,R',hJ,SE,c2',c3',rfl,mY,hR', ?_, ?_, ?_, ?_, ?_, ?_, ?_, ?_, ?_⟩
  all_goals (simp(maxDischargeDepth:=6) only[qA,seval,f8,f14,f105,f106,p2,p3,p35,q4])
 ·rintro _ ⟨fr,fG,R,kn,c1,c2,c3,rfl,nz,pP,h8,iM,I7,GY,GZ,o2,o3,kE,im⟩
  simp(maxDischargeDepth:=6) only[qA,seval,lO,GY,GZ,Int.lt_irrefl]
  exact⟨_,_,(by simp:Out.ext 6≠ .nrm),rfl,rfl,o2,o3,kE,R,kn,c1,c2,c3,rfl,nz,pP.mono (by omega),im⟩
end Go.Proofs.YtblcbheipjeoeaaGreat
namespace Go.Proofs.YtblcbheipjeoeaaGreat
open Go Go.Ev
def VH:T→Bool
 | .ptr .S .. =>true
 |_=>false
theorem G0{k g off:Nat}:VH (.ptr .S k g off)=true:=nr rfl
def abc:T→FP
 | .ptr .S k _ _=>⟨false,[(.S,k)],[(.S,k)]⟩
 |_=>mL
section
variable{E:Env}{call:qz}{n:Nat}{fr:Fr}{lh:fC fg}{sh:List fg}{ds:List (List Nat×fe)}{g8:List FP}{u:List Nat}
theorem Yv{x v:fM}{m:Nat}(hx:VH (rd fr x)=true)(hz:froz (rd fr v)=true):fN E call n ((u,⟨none,.st x v m,none⟩)::ds) g8 ⟨fr,lh,sh⟩=
  if meets u g8 (abc (rd fr x))=true then ke E call n ds (g8++ [abc (rd fr x)]) (fi E call n [⟨none,.st x v m,none⟩] ⟨fr,lh,sh⟩)else none:=by
 refine tn fun jC=> ?_
 cases vf:rd fr x with
 |ptr sp k g off=>
  cases sp with
  |L=>rw[vf]at hx;simp[VH]at hx
  |S=>
   by_cases hb:(decide ((cellsOf (rd fr v)).length≠m)|| !noTup (rd fr v))=true
   ·obtain⟨w,ups,hr,iJ⟩:=vD (q:= .fail) (by rfl) (by rw[jE];simp only[gA,sr,vf];rw[if_pos hb]) jC
    simp[Q.run]at hr
   ·obtain⟨w,ups,hr,iJ⟩:=vD (q:= .rd .S k (ME k g off m (rd fr v))) (by rfl) (by rw[jE];simp only[gA,sr,vf];rw[if_neg hb];rfl) jC
    simp only[Q.run,Q.log,Q.asks]at hr iJ
    generalize he:(St.mk fr lh sh).get .S k=e at hr iJ
    obtain⟨g',ob⟩:=e
    unfold ME at hr iJ
    by_cases hg:g'=g
    ·cases ob with
     |none=>simp[hg,Q.run]at hr
     |map ks vs z=>simp[hg,Q.run]at hr
     |cells cs wm bx=>
      simp only[hg,if_true]at hr iJ
      split at hr
      ·rename_i hc
       rw[if_pos hc]at iJ
       have hs:(bx&&(Sp.S==Sp.L))=false:=by cases bx <;> rfl
       rw[hs]at hr iJ
       simp only[Bool.false_eq_true,if_false]at hr iJ
       unfold fJ at hr iJ
       rw[oC hz]at hr iJ
       simp only[Q.bind]at hr iJ
       split at hr
       ·simp[Q.run]at hr
       ·rename_i hd
        rw[if_neg hd]at iJ
        simp[Q.run]at hr
        obtain⟨rfl,rfl⟩:=hr
        rw[iJ (by simp[uk,Ab,he])]
        rfl
      ·simp[Q.run]at hr
    ·simp only[hg,if_false,Q.run]at hr
     cases hr
 |_=>rw[vf]at hx;simp[VH]at hx
theorem G2{k g off:Nat}:abc (.ptr .S k g off)=⟨false,[(.S,k)],[(.S,k)]⟩:=nr rfl
end
theorem nwd(c:Ct)(a7 a10:T)(c7 pw:List T)(i7:fD a7 c.cs.length c7)(j7:iR c.cs c7)(i10:fD a10 c.cr.length pw)(rY:hH c.cr pw)(hlen:c.cr.length≤40)(vR: ∀u∈c.cr,ND c.cs 1 u)(zT aT fT a8 a9 fB fA nb r1 r2 r3 c1 c2 c3:T)(k2 k3 tw:fg)(Bl:List (Nat×Int))(xT:nN c.cs Bl)(R0:List fg)(I6:jB R0 80 (mh r1 r2 r3 c1 c2 c3 .nilsl))(fr:Fr)(lh:fC fg)(sh:List fg)(jh:sh=jA a7 (gG c.cs c.cs.length) Bl R0)
  (h8:an fr 8= .ptr .L 37 1 0) (iM:an fr 14= .ptr .S 2 1 0) (Eu:an fr 156=a10) (Cd:an fr 157= .i .i64 (c.cr.length:Int)) (G3:an fr 158= .i .i64 0) (o2:be lh 2=k2) (o3:be lh 3=k3) (kE:be lh 35=tw) (im:be lh 37=⟨1,.cells (ky zT aT fT c a7 a8 a9 a10 fB fA (lb r1 r2 r3 c1 c2 c3 .nilsl nb)) 0 true⟩):
  DC pE 232 (.loop ln) ⟨fr,lh,sh⟩=some (.ext 8,⟨gr pE 232 ln fr lh sh,gp pE 232 ln fr lh sh,gn pE 232 ln fr lh sh⟩)∧
  (be (gp pE 232 ln fr lh sh) 2=k2∧be (gp pE 232 ln fr lh sh) 3=k3∧be (gp pE 232 ln fr lh sh) 35=tw∧ ∃(R:List fg) (kn:List (Nat×Int)) (cr:T),gn pE 232 ln fr lh sh=jA a7 (gG c.cs c.cs.length) kn R∧nN c.cs kn∧jB R 120 (mh r1 r2 r3 c1 c2 c3 cr)∧be (gp pE 232 ln fr lh sh) 37=⟨1,.cells (ky zT aT fT c a7 a8 a9 a10 fB fA (lb r1 r2 r3 c1 c2 c3 cr nb)) 0 true⟩):=by
 refine fq (P:=fun fR fH fL=>be fH 2=k2∧be fH 3=k3∧be fH 35=tw∧ ∃(R:List fg) (kn:List (Nat×Int)) (cr:T),fL=jA a7 (gG c.cs c.cs.length) kn R∧nN c.cs kn∧jB R 120 (mh r1 r2 r3 c1 c2 c3 cr)∧be fH 37=⟨1,.cells (ky zT aT fT c a7 a8 a9 a10 fB fA (lb r1 r2 r3 c1 c2 c3 cr nb)) 0 true⟩)
  (fw (fun k st=> ∃(fr:Fr) (fG:fC fg) (R:List fg) (kn:List (Nat×Int)) (cr:T),st=⟨fr,fG,jA a7 (gG c.cs c.cs.length) kn R⟩∧nN c.cs kn∧jB R (80+k) (mh r1 r2 r3 c1 c2 c3 cr)∧an fr 8= .ptr .L 37 1 0∧an fr 14= .ptr .S 2 1 0∧an fr 156=a10∧an fr 157= .i .i64 (c.cr.length:Int)∧an fr 158= .i .i64 (k:Int)∧be fG 2=k2∧be fG 3=k3∧be fG 35=tw∧be fG 37=⟨1,.cells (ky zT aT fT c a7 a8 a9 a10 fB fA (lb r1 r2 r3 c1 c2 c3 cr nb)) 0 true⟩) _ c.cr.length ?_ ?_ 0 _ (Nat.zero_le _) ⟨fr,lh,R0,Bl,.nilsl,by rw[jh],xT,I6,h8,iM,Eu,Cd,G3,o2,o3,kE,im⟩)
 ·rintro k _ hk ⟨fr,fG,R,kn,cr,rfl,nz,pP,h8,iM,Eu,Cd,G3,o2,o3,kE,im⟩
  left
  have fK:(k:Int)<c.cr.length:=by omega
  have hw:=gl (k:=k) (by omega)
  obtain⟨b,cb,rr,fF,iK,oS,hb⟩:=nw i10 rY k hk
  obtain⟨k6,hval,t,lN⟩:=vR c.cr[k] (List.getElem_mem hk)
  have Bn:=(qw hval).1
  obtain⟨cf,hJ,fu,uW,mY,_⟩:=Es c.cs a7 R c.cs.length (Nat.le_refl _) (Et c.cs a7 R c7 i7 j7) 1 (.inr k6) c.cr[k] t kn _ nz hb Bn (oP hval) (by rw[Bo];exact lN)
  have nL:=zA (sa c.cs) 1 c.cr[k]
  generalize c.cr[k]=u at*
  generalize comp (sa c.cs) 1 u=y at*
  obtain⟨fa,fc,rfl,AX,hf2⟩:=uW.cells
  have xf:vQ 3 [.i .i64 y.op,.i .i64 y.num,fa]:=by
   have:=(vQ.nil 3).app3 y _ uW (by omega)
   simpa using this
  have GX:=vJ
  unfold ky fX lb at im ⊢
  simp only[List.cons_append,List.nil_append]at im ⊢
  rcases pP.1 (3,cr) (by simp[mh])with jW|⟨i,g,n,cs,hv,hE,hi,hn,hB,hfz⟩
  ·simp only at jW
   subst jW
   have kN:=(pP.mono (Nat.le_succ (80+k))).new (by omega) 6 (by simp[mh]) (sz:=3) rfl [.i .i64 y.op,.i .i64 y.num,fa] rfl xf
   simp(maxDischargeDepth:=6) only[qA,seval,repl,gW,AZ,fU,nM,oM,iP,ln,h8,iM,Eu,Cd,G3,im,fK,fF,hw,fu,qE,rj,iK.kept1,AX.froz1,j3,j4,gQ,kI,lB,Db,rZ,Dc,GX,ic,iE,sR,Nat.lt_succ_self,Yv,G0,G2]
   refine⟨_,rfl,_,_,il R R.length ⟨1,.cells [.i .i64 y.op,.i .i64 y.num,fa] 0 false⟩,hJ,.isl .S (R.length+7) 1 0 1 3,rfl,mY,kN, ?_, ?_, ?_, ?_, ?_, ?_, ?_, ?_, ?_⟩
   all_goals (simp(maxDischargeDepth:=6) only[qA,seval,h8,iM,Eu,Cd,o2,o3,kE])
  ·simp only at hv
   subst hv
   have xU:=pP.app 6 (by simp[mh]) (sz:=3) rfl rfl hE hi hn hB [.i .i64 y.op,.i .i64 y.num,fa] rfl (hfz.app3 y _ uW (by omega)) (g+1)
   have uO:(n+1)*40≤roomy:=zB (by omega)
   simp(maxDischargeDepth:=6) only[qA,seval,repl,gW,AZ,fU,nM,oM,iP,ln,h8,iM,Eu,Cd,G3,im,fK,fF,hw,fu,qE,rj,iK.kept1,AX.froz1,j3,j4,gQ,kJ,lC,ji,Db,rZ,Dc,ic,iE,lD,sS,Nat.lt_succ_self,Yv,G0,G2,hE,hn,uO]
   refine⟨_,rfl,_,_,il R i ⟨g+1,.cells (cs++ [.i .i64 y.op,.i .i64 y.num,fa]) 0 false⟩,hJ,.isl .S (i+7) (g+1) 0 (n+1) 3,rfl,mY,xU, ?_, ?_, ?_, ?_, ?_, ?_, ?_, ?_, ?_⟩
   all_goals (simp(maxDischargeDepth:=6) only[qA,seval,h8,iM,Eu,Cd,o2,o3,kE])
 ·rintro _ ⟨fr,fG,R,kn,cr,rfl,nz,pP,h8,iM,Eu,Cd,G3,o2,o3,kE,im⟩
  simp(maxDischargeDepth:=6) only[qA,seval,ln,Cd,G3,Int.lt_irrefl]
  exact⟨_,_,(by simp:Out.ext 8≠ .nrm),rfl,rfl,o2,o3,kE,R,kn,cr,rfl,nz,pP.mono (by omega),im⟩
end Go.Proofs.YtblcbheipjeoeaaGreat
namespace Go.Proofs.YtblcbheipjeoeaaGreat
open Go Go.Ev
theorem G5{lh:fC fg}{sh:List fg}{k g off wm:Nat}{cs:List T}(hg:gC sh k=⟨g,.cells cs wm false⟩)(hc:cs.all froz1=true):fzV lh sh false (.ptr .S k g off)=some (.vp (cs.drop off),[(.S,k,⟨g,.cells cs cs.length false⟩)]):=by
 have hd:(cs.drop off).all froz1=true:=by
  rw[List.all_eq_true]at hc ⊢
  exact fun x hx=>hc x (List.mem_of_mem_drop hx)
 have he:(St.mk .nil lh sh).get .S k=gC sh k:=rfl
 unfold fzV fJ
 rw[fz]
 simp only[Bool.false_and,Bool.false_eq_true,if_false,Q.run,he,hg,if_true]
 rw[oi _ hd]
 rfl
theorem aiv{f:Fm}{c:List T}(h:nC f c):c.all froz1=true:=by
 obtain⟨a,cc,rfl,h1,h2⟩:=h.cells
 simp[h1.froz1,wL]
theorem Yw: ∀{l:List Fm} {cs:List T},fZ l cs→cs.all froz1=true
 | [],cs,h=>by rw[fZ]at h;rw[h];rfl
 |f::l,cs,h=>by
  rw[fZ]at h
  obtain⟨c,r,h1,h2,h3⟩:=h
  rw[h1,List.all_append,aiv h2,Yw h3];rfl
theorem aiw: ∀{l:List (List Nat×Fm)} {cs:List T},fy Ys l cs→cs.all froz1=true
 | [],cs,h=>by rw[fy]at h;rw[h];rfl
 |u::l,cs,h=>by
  obtain⟨c,r,rfl,⟨fc,rfl,h2⟩,h3⟩:=h
  rw[List.all_append,aiw h3,List.all_cons,aiv h2];rfl
theorem vQ.froz{sz:Nat}{cs:List T}(h:vQ sz cs):cs.all froz1=true:=by
 unfold vQ at h
 split at h
 ·obtain⟨l,h1,_⟩:=h;exact aiw h1
 ·obtain⟨l,h1,_⟩:=h;exact Yw h1
theorem vQ.at4{cs:List T}(h:vQ 4 cs){n k:Nat}(hn:n*4=cs.length)(hk:k<n): ∃(f:Fm) (b:T) (cb r:List T),cs.drop (k*4+1)= .i .i64 f.op:: .i .i64 f.num::b::r∧fD b f.args.length cb∧fZ f.args cb∧f.sz≤1000:=by
 unfold vQ at h
 rw[if_pos rfl]at h
 obtain⟨l,h1,h2⟩:=h
 have hl:=fy.len Ys.len h1
 have pR:k<l.length:=by omega
 obtain⟨c,r,h3,fc,rfl,h4⟩:=fy.drop Ys.len k pR h1
 obtain⟨b,cb,rfl,h5,h6⟩:=h4.cells
 refine⟨l[k].2,b,cb,r, ?_,h5,h6,h2 _ (List.getElem_mem pR)⟩
 rw[←List.drop_drop,h3]
 rfl
theorem vQ.at3{cs:List T}(h:vQ 3 cs){n k:Nat}(hn:n*3=cs.length)(hk:k<n): ∃(f:Fm) (b:T) (cb r:List T),cs.drop (k*3)= .i .i64 f.op:: .i .i64 f.num::b::r∧fD b f.args.length cb∧fZ f.args cb∧f.sz≤1000:=by
 unfold vQ at h
 rw[if_neg (by decide)]at h
 obtain⟨l,h1,h2⟩:=h
 have hl:=fZ.len h1
 have pR:k<l.length:=by omega
 obtain⟨c,r,h3,h4,_⟩:=fZ.drop k pR h1
 obtain⟨b,cb,rfl,h5,h6⟩:=h4.cells
 exact⟨l[k],b,cb,r,h3,h5,h6,h2 _ (List.getElem_mem pR)⟩
def RwW(R:List fg)(p:Nat×T):Prop:=p.2= .nilsl∨ ∃i g n cs wm,p.2= .isl .S (i+7) g 0 n p.1∧gC R i=⟨g,.cells cs wm false⟩∧i<R.length∧n*p.1=cs.length∧n≤1000∧vQ p.1 cs
def vK(R:List fg)(vs:List (Nat×T)):Prop:= ∀p∈vs,RwW R p
theorem jB.toW{R:List fg}{B:Nat}{vs:List (Nat×T)}(h:jB R B vs)(hB:B≤1000):vK R vs:=fun p hp=>by
 rcases h.1 p hp with h|⟨i,g,n,cs,h1,h2,h3,h4,h5,h6⟩
 ·exact .inl h
 ·exact .inr ⟨i,g,n,cs,0,h1,h2,h3,h4,by omega,h6⟩
end Go.Proofs.YtblcbheipjeoeaaGreat
