/- The laws' measure of a contract: it answers. Contracts out of range or too large; FoldContracts. Conditions: the theorems' own. -/
import Derived.Test.YtfenhjpkomldcaaGreatM20
import Derived.KernelRfl
set_option maxRecDepth 100000
set_option linter.unusedSimpArgs false
set_option linter.unusedVariables false
set_option maxHeartbeats 16000000
namespace Go.Proofs.YtfenhjpkomldcaaGreat
open Go Go.Ev
mutual
def Ex.al:Ex→Prop
 | .mk _ _ _ args=>args.length≤j3∧UC args
def UC:List Ex→Prop
 | []=>True
 |x::xs=>x.al∧UC xs
end
theorem Ex.al_eq(x:Ex):x.al↔(x.args.length≤j3∧UC x.args):=by obtain⟨_,_,_,_⟩:=x;rw[Ex.al];rfl
theorem zh: ∀{xs:List Ex},UC xs↔ ∀x∈xs,x.al
 | []=>by simp[UC]
 |x::xs=>by rw[UC,zh (xs:=xs)];simp
def tS:T→Bool
 | .i .i64 _=>true
 |_=>false
theorem lG{n:Int}:tS (.i .i64 n)=true:=nr rfl
theorem pS{v:T}(h:tS v=true): ∃n,v= .i .i64 n:=by
 cases v with
 |i k n=>cases k <;> first|exact⟨n,rfl⟩|(simp[tS]at h)
 |_=>simp[tS]at h
def Y4(y:Ex):Prop:= ∀cs:List T,bE y cs→y.al→ ∃n:Int,ai pE 61 [.agg cs] []=some (.i .i64 n,[])
theorem aen(xs:List Ex)(ih: ∀y∈xs,Y4 y)(a:T)(cc:List T)(ha:aR a xs.length cc)(hx:aK xs cc)(hlen:xs.length≤j3)(uH:UC xs)(op num:Int)(s:List Nat)(fr:Fr)(lh:aQ aB)(sh:List aB)
  (h1:ak fr 1= .ptr .L 1 1 0) (h3:tS (ak fr 3)=true) (hi:ak fr 4= .i .i64 0) (o1:aq lh 1=⟨1,.cells [.i .i64 op,.i .i64 num,.s s,a] 0 true⟩):
  DC pE 25 (.loop ko) ⟨fr,lh,sh⟩=some (.ext 0,⟨cz pE 25 ko fr lh sh,bK pE 25 ko fr lh sh,cw pE 25 ko fr lh sh⟩)∧(tS (ak (cz pE 25 ko fr lh sh) 3)=true∧bK pE 25 ko fr lh sh=lh∧cw pE 25 ko fr lh sh=sh):=by
 refine aD (P:=fun cO bp br=>tS (ak cO 3)=true∧bp=lh∧br=sh)
  (aI (fun k st=> ∃(fr:Fr),st=⟨fr,lh,sh⟩∧ak fr 1= .ptr .L 1 1 0∧tS (ak fr 3)=true∧ak fr 4= .i .i64 (k:Int)) _ xs.length ?_ ?_ 0 _ (Nat.zero_le _) ⟨fr,rfl,h1,h3,hi⟩)
 ·rintro k _ hk ⟨fr,rfl,h1,h3,hi⟩
  have bt:(k:Int)<xs.length:=by omega
  have hw:=jw (k:=k) (by omega)
  obtain⟨b,cb,rr,bh,cH,nA,hb⟩:=dm ha hx k hk
  obtain⟨n,hn⟩:=pS h3
  obtain⟨m,az⟩:=ih xs[k] (List.getElem_mem hk) _ hb (zh.1 uH _ (List.getElem_mem hk))
  by_cases eo:n<1000
  ·left
   simp(maxDischargeDepth:=6) only[qF,ae,ah,aa,aj,ab,Nat.reduceLT,Nat.reduceLeDiff,Nat.reduceEqDiff,ko,h1,hn,hi,o1,ha.lenI,bt,eo,bh,hw,cH.froz1,az,Im]
   refine⟨_,rfl,_,rfl, ?_, ?_, ?_⟩
   ·simp(maxDischargeDepth:=6) only[aa,ab,Nat.reduceEqDiff,h1]
   ·simp(maxDischargeDepth:=6) only[aa,ab,Nat.reduceEqDiff,lG]
   ·simp(maxDischargeDepth:=6) only[aa]
  ·right
   simp(maxDischargeDepth:=6) only[ae,ah,aa,aj,ab,an,Nat.reduceLT,Nat.reduceEqDiff,ko,h1,hn,hi,o1,ha.lenI,bt,eo]
   refine⟨_,_,(by simp:Out.ext 0≠ .nrm),rfl,rfl, ?_,rfl,rfl⟩
   simp(maxDischargeDepth:=6) only[aa,ab,Nat.reduceEqDiff,hn,lG]
 ·rintro _ ⟨fr,rfl,h1,h3,hi⟩
  simp(maxDischargeDepth:=6) only[ae,ah,aa,aj,ab,an,Nat.reduceLT,Nat.reduceEqDiff,ko,h1,hi,o1,ha.lenI,Int.lt_irrefl]
  refine⟨_,_,(by simp:Out.ext 0≠ .nrm),rfl,rfl, ?_,rfl,rfl⟩
  simp(maxDischargeDepth:=6) only[aa,ab,Nat.reduceEqDiff,h3]
theorem zi(x:Ex):Y4 x:=by
 induction x using Ex.ind with
 |h x ih=>
  intro cs hx uH
  obtain⟨a,cc,rfl,ha,mH⟩:=hx.cells
  obtain⟨hlen,bl⟩:=(Ex.al_eq x).1 uH
  have hL:=fun fr lh sh h1 h3 hi o1=>aen x.args (fun y hy=>ih y hy) a cc ha mH hlen bl x.op x.num x.name fr lh sh h1 h3 hi o1
  rw[aG VQ (by simp[Vu])]
  simp(maxDischargeDepth:=6) only[qF,ae,ah,aa,aj,ab,Nat.reduceLT,Nat.reduceEqDiff,Vu,lG,hL]
  generalize hX:ak (cz _ _ _ _ _ _) 3=X
  obtain⟨n,hn⟩: ∃n,X= .i .i64 n:=by
   rw[←hX]
   refine pS (hL _ _ _ ?_ ?_ ?_ ?_).2.1 <;> simp(maxDischargeDepth:=6) only[aa,ab,Nat.reduceEqDiff,lG]
  rw[hn]
  simp(maxDischargeDepth:=6) only[aa,aj,ab]
  exact⟨n,rfl⟩
theorem aeo(xs:Cs)(a:T)(cc:List T)(ha:aR a xs.length cc)(hx:dK xs cc)(hlen:xs.length≤j3)(uH: ∀u∈xs,u.2.al)(c:Ct)(a8 a9 a10 bf ba:T)(fr:Fr)(lh:aQ aB)(sh:List aB)
  (h1:ak fr 1= .ptr .L 1 1 0) (h3:tS (ak fr 3)=true) (hi:ak fr 4= .i .i64 0) (o1:aq lh 1=⟨1,.cells [.i .i64 c.rp,.i .i64 c.rl,.i .i64 c.cn,.i .i64 c.st,.i .i64 c.ly,.i .i64 c.nf,.i .i64 c.nt,a,a8,a9,a10,bf,ba,.i .i64 c.gu] 0 true⟩):
  DC pE 96 (.loop jD) ⟨fr,lh,sh⟩=some (.ext 0,⟨cz pE 96 jD fr lh sh,bK pE 96 jD fr lh sh,cw pE 96 jD fr lh sh⟩)∧(tS (ak (cz pE 96 jD fr lh sh) 3)=true∧bK pE 96 jD fr lh sh=lh∧cw pE 96 jD fr lh sh=sh):=by
 refine aD (P:=fun cO bp br=>tS (ak cO 3)=true∧bp=lh∧br=sh)
  (aI (fun k st=> ∃(fr:Fr),st=⟨fr,lh,sh⟩∧ak fr 1= .ptr .L 1 1 0∧tS (ak fr 3)=true∧ak fr 4= .i .i64 (k:Int)) _ xs.length ?_ ?_ 0 _ (Nat.zero_le _) ⟨fr,rfl,h1,h3,hi⟩)
 ·rintro k _ hk ⟨fr,rfl,h1,h3,hi⟩
  have bt:(k:Int)<xs.length:=by omega
  have hw:=jw (k:=k) (by omega)
  obtain⟨b,cb,rr,bh,cH,nA,hb⟩:=dL ha hx k hk
  obtain⟨n,hn⟩:=pS h3
  obtain⟨m,az⟩:=zi xs[k].2 _ hb (uH _ (List.getElem_mem hk))
  by_cases eo:n<3000
  ·left
   simp(maxDischargeDepth:=6) only[qF,ae,ah,aa,aj,ab,Nat.reduceLT,Nat.reduceLeDiff,Nat.reduceEqDiff,jD,h1,hn,hi,o1,ha.lenI,bt,eo,bh,hw,cH.froz1,az,Im]
   refine⟨_,rfl,_,rfl, ?_, ?_, ?_⟩
   ·simp(maxDischargeDepth:=6) only[aa,ab,Nat.reduceEqDiff,h1]
   ·simp(maxDischargeDepth:=6) only[aa,ab,Nat.reduceEqDiff,lG]
   ·simp(maxDischargeDepth:=6) only[aa]
  ·right
   simp(maxDischargeDepth:=6) only[ae,ah,aa,aj,ab,an,Nat.reduceLT,Nat.reduceEqDiff,jD,h1,hn,hi,o1,ha.lenI,bt,eo]
   refine⟨_,_,(by simp:Out.ext 0≠ .nrm),rfl,rfl, ?_,rfl,rfl⟩
   simp(maxDischargeDepth:=6) only[aa,ab,Nat.reduceEqDiff,hn,lG]
 ·rintro _ ⟨fr,rfl,h1,h3,hi⟩
  simp(maxDischargeDepth:=6) only[ae,ah,aa,aj,ab,an,Nat.reduceLT,Nat.reduceEqDiff,jD,h1,hi,o1,ha.lenI,Int.lt_irrefl]
  refine⟨_,_,(by simp:Out.ext 0≠ .nrm),rfl,rfl, ?_,rfl,rfl⟩
  simp(maxDischargeDepth:=6) only[aa,ab,Nat.reduceEqDiff,h3]
theorem aep(xs:List Ru)(a:T)(cc:List T)(ha:aR a xs.length cc)(hx:aS za xs cc)(hlen:xs.length≤j3)(uH: ∀u∈xs,u.x.al)(c:Ct)(a7 a9 a10 bf ba:T)(fr:Fr)(lh:aQ aB)(sh:List aB)
  (h1:ak fr 1= .ptr .L 1 1 0) (h3:tS (ak fr 3)=true) (hi:ak fr 5= .i .i64 0) (o1:aq lh 1=⟨1,.cells [.i .i64 c.rp,.i .i64 c.rl,.i .i64 c.cn,.i .i64 c.st,.i .i64 c.ly,.i .i64 c.nf,.i .i64 c.nt,a7,a,a9,a10,bf,ba,.i .i64 c.gu] 0 true⟩):
  DC pE 96 (.loop jC) ⟨fr,lh,sh⟩=some (.ext 2,⟨cz pE 96 jC fr lh sh,bK pE 96 jC fr lh sh,cw pE 96 jC fr lh sh⟩)∧(tS (ak (cz pE 96 jC fr lh sh) 3)=true∧bK pE 96 jC fr lh sh=lh∧cw pE 96 jC fr lh sh=sh):=by
 refine aD (P:=fun cO bp br=>tS (ak cO 3)=true∧bp=lh∧br=sh)
  (aI (fun k st=> ∃(fr:Fr),st=⟨fr,lh,sh⟩∧ak fr 1= .ptr .L 1 1 0∧tS (ak fr 3)=true∧ak fr 5= .i .i64 (k:Int)) _ xs.length ?_ ?_ 0 _ (Nat.zero_le _) ⟨fr,rfl,h1,h3,hi⟩)
 ·rintro k _ hk ⟨fr,rfl,h1,h3,hi⟩
  have bt:(k:Int)<xs.length:=by omega
  have hw:=jw (k:=k) (by omega)
  obtain⟨b,cb,rr,bh,cH,hb⟩:=pD ha hx k hk
  obtain⟨n,hn⟩:=pS h3
  obtain⟨m,az⟩:=zi xs[k].x _ hb (uH _ (List.getElem_mem hk))
  by_cases eo:n<3000
  ·left
   simp(maxDischargeDepth:=6) only[qF,ae,ah,aa,aj,ab,Nat.reduceLT,Nat.reduceLeDiff,Nat.reduceEqDiff,jC,h1,hn,hi,o1,ha.lenI,bt,eo,bh,hw,cH.froz1,az,Im]
   refine⟨_,rfl,_,rfl, ?_, ?_, ?_⟩
   ·simp(maxDischargeDepth:=6) only[aa,ab,Nat.reduceEqDiff,h1]
   ·simp(maxDischargeDepth:=6) only[aa,ab,Nat.reduceEqDiff,lG]
   ·simp(maxDischargeDepth:=6) only[aa]
  ·right
   simp(maxDischargeDepth:=6) only[ae,ah,aa,aj,ab,an,Nat.reduceLT,Nat.reduceEqDiff,jC,h1,hn,hi,o1,ha.lenI,bt,eo]
   refine⟨_,_,(by simp:Out.ext 2≠ .nrm),rfl,rfl, ?_,rfl,rfl⟩
   simp(maxDischargeDepth:=6) only[aa,ab,Nat.reduceEqDiff,hn,lG]
 ·rintro _ ⟨fr,rfl,h1,h3,hi⟩
  simp(maxDischargeDepth:=6) only[ae,ah,aa,aj,ab,an,Nat.reduceLT,Nat.reduceEqDiff,jC,h1,hi,o1,ha.lenI,Int.lt_irrefl]
  refine⟨_,_,(by simp:Out.ext 2≠ .nrm),rfl,rfl, ?_,rfl,rfl⟩
  simp(maxDischargeDepth:=6) only[aa,ab,Nat.reduceEqDiff,h3]
theorem aeq(xs:List Co)(a:T)(cc:List T)(ha:aR a xs.length cc)(hx:aS BB xs cc)(hlen:xs.length≤j3)(uH: ∀u∈xs,u.x.al)(c:Ct)(a7 a8 a10 bf ba:T)(fr:Fr)(lh:aQ aB)(sh:List aB)
  (h1:ak fr 1= .ptr .L 1 1 0) (h3:tS (ak fr 3)=true) (hi:ak fr 6= .i .i64 0) (o1:aq lh 1=⟨1,.cells [.i .i64 c.rp,.i .i64 c.rl,.i .i64 c.cn,.i .i64 c.st,.i .i64 c.ly,.i .i64 c.nf,.i .i64 c.nt,a7,a8,a,a10,bf,ba,.i .i64 c.gu] 0 true⟩):
  DC pE 96 (.loop jB) ⟨fr,lh,sh⟩=some (.ext 4,⟨cz pE 96 jB fr lh sh,bK pE 96 jB fr lh sh,cw pE 96 jB fr lh sh⟩)∧(tS (ak (cz pE 96 jB fr lh sh) 3)=true∧bK pE 96 jB fr lh sh=lh∧cw pE 96 jB fr lh sh=sh):=by
 refine aD (P:=fun cO bp br=>tS (ak cO 3)=true∧bp=lh∧br=sh)
  (aI (fun k st=> ∃(fr:Fr),st=⟨fr,lh,sh⟩∧ak fr 1= .ptr .L 1 1 0∧tS (ak fr 3)=true∧ak fr 6= .i .i64 (k:Int)) _ xs.length ?_ ?_ 0 _ (Nat.zero_le _) ⟨fr,rfl,h1,h3,hi⟩)
 ·rintro k _ hk ⟨fr,rfl,h1,h3,hi⟩
  have bt:(k:Int)<xs.length:=by omega
  have hw:=jw (k:=k) (by omega)
  obtain⟨b,cb,rr,bh,cH,hb⟩:=ri ha hx k hk
  obtain⟨n,hn⟩:=pS h3
  obtain⟨m,az⟩:=zi xs[k].x _ hb (uH _ (List.getElem_mem hk))
  by_cases eo:n<3000
  ·left
   simp(maxDischargeDepth:=6) only[qF,ae,ah,aa,aj,ab,Nat.reduceLT,Nat.reduceLeDiff,Nat.reduceEqDiff,jB,h1,hn,hi,o1,ha.lenI,bt,eo,bh,hw,cH.froz1,az,Im]
   refine⟨_,rfl,_,rfl, ?_, ?_, ?_⟩
   ·simp(maxDischargeDepth:=6) only[aa,ab,Nat.reduceEqDiff,h1]
   ·simp(maxDischargeDepth:=6) only[aa,ab,Nat.reduceEqDiff,lG]
   ·simp(maxDischargeDepth:=6) only[aa]
  ·right
   simp(maxDischargeDepth:=6) only[ae,ah,aa,aj,ab,an,Nat.reduceLT,Nat.reduceEqDiff,jB,h1,hn,hi,o1,ha.lenI,bt,eo]
   refine⟨_,_,(by simp:Out.ext 4≠ .nrm),rfl,rfl, ?_,rfl,rfl⟩
   simp(maxDischargeDepth:=6) only[aa,ab,Nat.reduceEqDiff,hn,lG]
 ·rintro _ ⟨fr,rfl,h1,h3,hi⟩
  simp(maxDischargeDepth:=6) only[ae,ah,aa,aj,ab,an,Nat.reduceLT,Nat.reduceEqDiff,jB,h1,hi,o1,ha.lenI,Int.lt_irrefl]
  refine⟨_,_,(by simp:Out.ext 4≠ .nrm),rfl,rfl, ?_,rfl,rfl⟩
  simp(maxDischargeDepth:=6) only[aa,ab,Nat.reduceEqDiff,h3]
theorem aer(xs:List Ex)(a:T)(cc:List T)(ha:aR a xs.length cc)(hx:aK xs cc)(hlen:xs.length≤j3)(uH: ∀u∈xs,u.al)(c:Ct)(a7 a8 a9 bf ba:T)(fr:Fr)(lh:aQ aB)(sh:List aB)
  (h1:ak fr 1= .ptr .L 1 1 0) (h3:tS (ak fr 3)=true) (hi:ak fr 7= .i .i64 0) (o1:aq lh 1=⟨1,.cells [.i .i64 c.rp,.i .i64 c.rl,.i .i64 c.cn,.i .i64 c.st,.i .i64 c.ly,.i .i64 c.nf,.i .i64 c.nt,a7,a8,a9,a,bf,ba,.i .i64 c.gu] 0 true⟩):
  DC pE 96 (.loop jA) ⟨fr,lh,sh⟩=some (.ext 6,⟨cz pE 96 jA fr lh sh,bK pE 96 jA fr lh sh,cw pE 96 jA fr lh sh⟩)∧(tS (ak (cz pE 96 jA fr lh sh) 3)=true∧bK pE 96 jA fr lh sh=lh∧cw pE 96 jA fr lh sh=sh):=by
 refine aD (P:=fun cO bp br=>tS (ak cO 3)=true∧bp=lh∧br=sh)
  (aI (fun k st=> ∃(fr:Fr),st=⟨fr,lh,sh⟩∧ak fr 1= .ptr .L 1 1 0∧tS (ak fr 3)=true∧ak fr 7= .i .i64 (k:Int)) _ xs.length ?_ ?_ 0 _ (Nat.zero_le _) ⟨fr,rfl,h1,h3,hi⟩)
 ·rintro k _ hk ⟨fr,rfl,h1,h3,hi⟩
  have bt:(k:Int)<xs.length:=by omega
  have hw:=jw (k:=k) (by omega)
  obtain⟨b,cb,rr,bh,cH,nA,hb⟩:=dm ha hx k hk
  obtain⟨n,hn⟩:=pS h3
  obtain⟨m,az⟩:=zi xs[k] _ hb (uH _ (List.getElem_mem hk))
  by_cases eo:n<3000
  ·left
   simp(maxDischargeDepth:=6) only[qF,ae,ah,aa,aj,ab,Nat.reduceLT,Nat.reduceLeDiff,Nat.reduceEqDiff,jA,h1,hn,hi,o1,ha.lenI,bt,eo,bh,hw,cH.froz1,az,Im]
   refine⟨_,rfl,_,rfl, ?_, ?_, ?_⟩
   ·simp(maxDischargeDepth:=6) only[aa,ab,Nat.reduceEqDiff,h1]
   ·simp(maxDischargeDepth:=6) only[aa,ab,Nat.reduceEqDiff,lG]
   ·simp(maxDischargeDepth:=6) only[aa]
  ·right
   simp(maxDischargeDepth:=6) only[ae,ah,aa,aj,ab,an,Nat.reduceLT,Nat.reduceEqDiff,jA,h1,hn,hi,o1,ha.lenI,bt,eo]
   refine⟨_,_,(by simp:Out.ext 6≠ .nrm),rfl,rfl, ?_,rfl,rfl⟩
   simp(maxDischargeDepth:=6) only[aa,ab,Nat.reduceEqDiff,hn,lG]
 ·rintro _ ⟨fr,rfl,h1,h3,hi⟩
  simp(maxDischargeDepth:=6) only[ae,ah,aa,aj,ab,an,Nat.reduceLT,Nat.reduceEqDiff,jA,h1,hi,o1,ha.lenI,Int.lt_irrefl]
  refine⟨_,_,(by simp:Out.ext 6≠ .nrm),rfl,rfl, ?_,rfl,rfl⟩
  simp(maxDischargeDepth:=6) only[aa,ab,Nat.reduceEqDiff,h3]
structure CtA (c:Ct):Prop where
 a7:(∀u∈c.cs,u.2.al)∧c.cs.length≤j3
 a8:(∀u∈c.ru,u.x.al)∧c.ru.length≤j3
 a9:(∀u∈c.co,u.x.al)∧c.co.length≤j3
 a10:(∀u∈c.cr,u.al)∧c.cr.length≤j3
 bf:c.li.length≤j3
 ba:c.fs.length≤j3
theorem Lx(c:Ct)(a7 a8 a9 a10 bf ba:T)(hT:zH c a7 a8 a9 a10 bf ba)(hA:CtA c): ∃b,ai pE 23 [.agg (bG c a7 a8 a9 a10 bf ba)] []=some (.b b,[]):=by
 obtain⟨⟨c7,i7,j7⟩,⟨c8,i8,j8⟩,⟨c9,i9,j9⟩,⟨kQ,i10,jz⟩,⟨j2,i11,ju⟩,⟨ki,i12,jy⟩⟩:=hT
 have h7:=fun fr lh sh h1 h3 hi o1=>aeo c.cs a7 c7 i7 j7 hA.a7.2 hA.a7.1 c a8 a9 a10 bf ba fr lh sh h1 h3 hi o1
 have h8:=fun fr lh sh h1 h3 hi o1=>aep c.ru a8 c8 i8 j8 hA.a8.2 hA.a8.1 c a7 a9 a10 bf ba fr lh sh h1 h3 hi o1
 have h9:=fun fr lh sh h1 h3 hi o1=>aeq c.co a9 c9 i9 j9 hA.a9.2 hA.a9.1 c a7 a8 a10 bf ba fr lh sh h1 h3 hi o1
 have jV:=fun fr lh sh h1 h3 hi o1=>aer c.cr a10 kQ i10 jz hA.a10.2 hA.a10.1 c a7 a8 a9 bf ba fr lh sh h1 h3 hi o1
 unfold bG
 rw[aG VG (by simp[Vp])]
 simp(maxDischargeDepth:=6) only[qF,ae,ah,aa,aj,ab,Nat.reduceShiftRight,Nat.reduceMod,Nat.reduceLT,Nat.reduceEqDiff,Vp,zN,zO,zP,i11.lenI,i12.lenI,lG,h7,h8,h9,jV]
 generalize hX:ak (cz _ _ jA _ _ _) 3=X
 obtain⟨n,hn⟩: ∃n,X= .i .i64 n:=by
  rw[←hX]
  refine pS (jV _ _ _ ?_ ?_ ?_ ?_).2.1 <;> simp(maxDischargeDepth:=6) only[ae,aa,ab,Nat.reduceShiftRight,Nat.reduceMod,Nat.reduceEqDiff,zN,zO,zP,lG,h7,h8,h9]
 rw[hn]
 simp(maxDischargeDepth:=6) only[qF,ae,ah,aa,aj,ab,Nat.reduceLT]
 exact⟨_,rfl⟩
end Go.Proofs.YtfenhjpkomldcaaGreat
namespace Go.Proofs.YtfenhjpkomldcaaGreat
open Go Go.Ev
section
variable(c:Ct)(a7 a8 a9 a10 bf ba:T)(hT:zH c a7 a8 a9 a10 bf ba)(jQ:oq c=false∨nB c=false)
include hT jQ
theorem UD:ai pE 113 [.agg (bG c a7 a8 a9 a10 bf ba)] []=some (.i .i64 (iC c),[]):=by
 obtain⟨⟨c7,i7,j7⟩,⟨c8,i8,j8⟩,⟨c9,i9,j9⟩,⟨kQ,i10,jz⟩,⟨j2,i11,ju⟩,⟨ki,i12,jy⟩⟩:=hT
 unfold bG
 rw[aG Ix (by simp[eL])]
 unfold iC
 unfold oq nB at jQ ⊢
 have w0:=dj c.rp 0 1440
 have w1:=dj c.rl 0 1440
 have w2:=dj c.cn 0 1440
 have w3:=dj c.st c.cn 1440
 have w4:=dj c.ly 0 10080
 have w5:=dj c.nf 0 1439
 have w6:=dj c.nt 0 1439
 have w7:=dj c.gu 0 599999
 cases q0:gF c.rp 0 1440 with
 |false=>
  rw[q0]at w0
  simp(maxDischargeDepth:=6) only[qF,ae,ah,aa,aj,ab,an,Nat.reduceLT,Nat.reduceEqDiff,eL,w0,cP]
 |true=>
 rw[q0]at w0
 cases q1:gF c.rl 0 1440 with
 |false=>
  rw[q1]at w1
  simp(maxDischargeDepth:=6) only[qF,ae,ah,aa,aj,ab,an,Nat.reduceLT,Nat.reduceEqDiff,eL,w0,w1,cP]
 |true=>
 rw[q1]at w1
 cases q2:gF c.cn 0 1440 with
 |false=>
  rw[q2]at w2
  simp(maxDischargeDepth:=6) only[qF,ae,ah,aa,aj,ab,an,Nat.reduceLT,Nat.reduceEqDiff,eL,w0,w1,w2,cP]
 |true=>
 rw[q2]at w2
 cases q3:gF c.st c.cn 1440 with
 |false=>
  rw[q3]at w3
  simp(maxDischargeDepth:=6) only[qF,ae,ah,aa,aj,ab,an,Nat.reduceLT,Nat.reduceEqDiff,eL,w0,w1,w2,w3,cP]
 |true=>
 rw[q3]at w3
 cases q4:gF c.ly 0 10080 with
 |false=>
  rw[q4]at w4
  simp(maxDischargeDepth:=6) only[qF,ae,ah,aa,aj,ab,an,Nat.reduceLT,Nat.reduceEqDiff,eL,w0,w1,w2,w3,w4,cP]
 |true=>
 rw[q4]at w4
 cases q5:gF c.nf 0 1439 with
 |false=>
  rw[q5]at w5
  simp(maxDischargeDepth:=6) only[qF,ae,ah,aa,aj,ab,an,Nat.reduceLT,Nat.reduceEqDiff,eL,w0,w1,w2,w3,w4,w5,cP]
 |true=>
 rw[q5]at w5
 cases q6:gF c.nt 0 1439 with
 |false=>
  rw[q6]at w6
  simp(maxDischargeDepth:=6) only[qF,ae,ah,aa,aj,ab,an,Nat.reduceLT,Nat.reduceEqDiff,eL,w0,w1,w2,w3,w4,w5,w6,cP]
 |true=>
 rw[q6]at w6
 cases q7:gF c.gu 0 599999 with
 |false=>
  rw[q7]at w7
  simp(maxDischargeDepth:=6) only[qF,ae,ah,aa,aj,ab,an,Nat.reduceLT,Nat.reduceEqDiff,eL,w0,w1,w2,w3,w4,w5,w6,w7,cP]
 |true=>
 rw[q7]at w7
 by_cases n0:(32:Int)<(c.cs.length:Int)
 ·have d0:decide (c.cs.length≤32)=false:=decide_eq_false (by omega)
  simp(maxDischargeDepth:=6) only[qF,ae,ah,aa,aj,ab,an,reduceCtorEq,Nat.reduceLT,Nat.reduceEqDiff,eL,i7.lenI,i8.lenI,i9.lenI,i10.lenI,i11.lenI,i12.lenI,w0,w1,w2,w3,w4,w5,w6,w7,cP,n0,d0]
 have d0:decide (c.cs.length≤32)=true:=decide_eq_true (by omega)
 by_cases n1:(40:Int)<(c.ru.length:Int)
 ·have d1:decide (c.ru.length≤40)=false:=decide_eq_false (by omega)
  simp(maxDischargeDepth:=6) only[qF,ae,ah,aa,aj,ab,an,reduceCtorEq,Nat.reduceLT,Nat.reduceEqDiff,eL,i7.lenI,i8.lenI,i9.lenI,i10.lenI,i11.lenI,i12.lenI,w0,w1,w2,w3,w4,w5,w6,w7,cP,n0,n1,d0,d1]
 have d1:decide (c.ru.length≤40)=true:=decide_eq_true (by omega)
 by_cases n2:(16:Int)<(c.co.length:Int)
 ·have d2:decide (c.co.length≤16)=false:=decide_eq_false (by omega)
  simp(maxDischargeDepth:=6) only[qF,ae,ah,aa,aj,ab,an,reduceCtorEq,Nat.reduceLT,Nat.reduceEqDiff,eL,i7.lenI,i8.lenI,i9.lenI,i10.lenI,i11.lenI,i12.lenI,w0,w1,w2,w3,w4,w5,w6,w7,cP,n0,n1,n2,d0,d1,d2]
 have d2:decide (c.co.length≤16)=true:=decide_eq_true (by omega)
 by_cases n3:(1:Int)<(c.cr.length:Int)
 ·have d3:decide (c.cr.length≤1)=false:=decide_eq_false (by omega)
  simp(maxDischargeDepth:=6) only[qF,ae,ah,aa,aj,ab,an,reduceCtorEq,Nat.reduceLT,Nat.reduceEqDiff,eL,i7.lenI,i8.lenI,i9.lenI,i10.lenI,i11.lenI,i12.lenI,w0,w1,w2,w3,w4,w5,w6,w7,cP,n0,n1,n2,n3,d0,d1,d2,d3]
 have d3:decide (c.cr.length≤1)=true:=decide_eq_true (by omega)
 by_cases n4:(16:Int)<(c.li.length:Int)
 ·have d4:decide (c.li.length≤16)=false:=decide_eq_false (by omega)
  simp(maxDischargeDepth:=6) only[qF,ae,ah,aa,aj,ab,an,reduceCtorEq,Nat.reduceLT,Nat.reduceEqDiff,eL,i7.lenI,i8.lenI,i9.lenI,i10.lenI,i11.lenI,i12.lenI,w0,w1,w2,w3,w4,w5,w6,w7,cP,n0,n1,n2,n3,n4,d0,d1,d2,d3,d4]
 have d4:decide (c.li.length≤16)=true:=decide_eq_true (by omega)
 by_cases n5:(16:Int)<(c.fs.length:Int)
 ·have d5:decide (c.fs.length≤16)=false:=decide_eq_false (by omega)
  simp(maxDischargeDepth:=6) only[qF,ae,ah,aa,aj,ab,an,reduceCtorEq,Nat.reduceLT,Nat.reduceEqDiff,eL,i7.lenI,i8.lenI,i9.lenI,i10.lenI,i11.lenI,i12.lenI,w0,w1,w2,w3,w4,w5,w6,w7,cP,n0,n1,n2,n3,n4,n5,d0,d1,d2,d3,d4,d5]
 have d5:decide (c.fs.length≤16)=true:=decide_eq_true (by omega)
 rw[q0,q1,q2,q3,q4,q5,q6,q7,d0,d1,d2,d3,d4,d5]at jQ
 exact absurd jQ (by decide)
theorem UE:ai pE 73 [.agg (bG c a7 a8 a9 a10 bf ba)] []=some (.i .i64 (iC c),[]):=by
 obtain⟨⟨c7,i7,j7⟩,⟨c8,i8,j8⟩,⟨c9,i9,j9⟩,⟨kQ,i10,jz⟩,⟨j2,i11,ju⟩,⟨ki,i12,jy⟩⟩:=hT
 unfold bG
 rw[aG Sn (by simp[nn])]
 unfold iC
 unfold oq nB at jQ ⊢
 have w0:=cZ c.rp 0 1440
 have w1:=cZ c.rl 0 1440
 have w2:=cZ c.cn 0 1440
 have w3:=cZ c.st c.cn 1440
 have w4:=cZ c.ly 0 10080
 have w5:=cZ c.nf 0 1439
 have w6:=cZ c.nt 0 1439
 have w7:=cZ c.gu 0 599999
 cases q0:gF c.rp 0 1440 with
 |false=>
  rw[q0]at w0
  simp(maxDischargeDepth:=6) only[qF,ae,ah,aa,aj,ab,an,Nat.reduceLT,Nat.reduceEqDiff,nn,w0,cA]
 |true=>
 rw[q0]at w0
 cases q1:gF c.rl 0 1440 with
 |false=>
  rw[q1]at w1
  simp(maxDischargeDepth:=6) only[qF,ae,ah,aa,aj,ab,an,Nat.reduceLT,Nat.reduceEqDiff,nn,w0,w1,cA]
 |true=>
 rw[q1]at w1
 cases q2:gF c.cn 0 1440 with
 |false=>
  rw[q2]at w2
  simp(maxDischargeDepth:=6) only[qF,ae,ah,aa,aj,ab,an,Nat.reduceLT,Nat.reduceEqDiff,nn,w0,w1,w2,cA]
 |true=>
 rw[q2]at w2
 cases q3:gF c.st c.cn 1440 with
 |false=>
  rw[q3]at w3
  simp(maxDischargeDepth:=6) only[qF,ae,ah,aa,aj,ab,an,Nat.reduceLT,Nat.reduceEqDiff,nn,w0,w1,w2,w3,cA]
 |true=>
 rw[q3]at w3
 cases q4:gF c.ly 0 10080 with
 |false=>
  rw[q4]at w4
  simp(maxDischargeDepth:=6) only[qF,ae,ah,aa,aj,ab,an,Nat.reduceLT,Nat.reduceEqDiff,nn,w0,w1,w2,w3,w4,cA]
 |true=>
 rw[q4]at w4
 cases q5:gF c.nf 0 1439 with
 |false=>
  rw[q5]at w5
  simp(maxDischargeDepth:=6) only[qF,ae,ah,aa,aj,ab,an,Nat.reduceLT,Nat.reduceEqDiff,nn,w0,w1,w2,w3,w4,w5,cA]
 |true=>
 rw[q5]at w5
 cases q6:gF c.nt 0 1439 with
 |false=>
  rw[q6]at w6
  simp(maxDischargeDepth:=6) only[qF,ae,ah,aa,aj,ab,an,Nat.reduceLT,Nat.reduceEqDiff,nn,w0,w1,w2,w3,w4,w5,w6,cA]
 |true=>
 rw[q6]at w6
 cases q7:gF c.gu 0 599999 with
 |false=>
  rw[q7]at w7
  simp(maxDischargeDepth:=6) only[qF,ae,ah,aa,aj,ab,an,Nat.reduceLT,Nat.reduceEqDiff,nn,w0,w1,w2,w3,w4,w5,w6,w7,cA]
 |true=>
 rw[q7]at w7
 by_cases n0:(32:Int)<(c.cs.length:Int)
 ·have d0:decide (c.cs.length≤32)=false:=decide_eq_false (by omega)
  simp(maxDischargeDepth:=6) only[qF,ae,ah,aa,aj,ab,an,reduceCtorEq,Nat.reduceLT,Nat.reduceEqDiff,nn,i7.lenI,w0,w1,w2,w3,w4,w5,w6,w7,cA,n0,d0]
 have d0:decide (c.cs.length≤32)=true:=decide_eq_true (by omega)
 by_cases n1:(40:Int)<(c.ru.length:Int)
 ·have d1:decide (c.ru.length≤40)=false:=decide_eq_false (by omega)
  simp(maxDischargeDepth:=6) only[qF,ae,ah,aa,aj,ab,an,reduceCtorEq,Nat.reduceLT,Nat.reduceEqDiff,nn,i7.lenI,i8.lenI,w0,w1,w2,w3,w4,w5,w6,w7,cA,n0,n1,d0,d1]
 have d1:decide (c.ru.length≤40)=true:=decide_eq_true (by omega)
 by_cases n2:(16:Int)<(c.co.length:Int)
 ·have d2:decide (c.co.length≤16)=false:=decide_eq_false (by omega)
  simp(maxDischargeDepth:=6) only[qF,ae,ah,aa,aj,ab,an,reduceCtorEq,Nat.reduceLT,Nat.reduceEqDiff,nn,i7.lenI,i8.lenI,i9.lenI,w0,w1,w2,w3,w4,w5,w6,w7,cA,n0,n1,n2,d0,d1,d2]
 have d2:decide (c.co.length≤16)=true:=decide_eq_true (by omega)
 by_cases n3:(1:Int)<(c.cr.length:Int)
 ·have d3:decide (c.cr.length≤1)=false:=decide_eq_false (by omega)
  simp(maxDischargeDepth:=6) only[qF,ae,ah,aa,aj,ab,an,reduceCtorEq,Nat.reduceLT,Nat.reduceEqDiff,nn,i7.lenI,i8.lenI,i9.lenI,i10.lenI,w0,w1,w2,w3,w4,w5,w6,w7,cA,n0,n1,n2,n3,d0,d1,d2,d3]
 have d3:decide (c.cr.length≤1)=true:=decide_eq_true (by omega)
 by_cases n4:(16:Int)<(c.li.length:Int)
 ·have d4:decide (c.li.length≤16)=false:=decide_eq_false (by omega)
  simp(maxDischargeDepth:=6) only[qF,ae,ah,aa,aj,ab,an,reduceCtorEq,Nat.reduceLT,Nat.reduceEqDiff,nn,i7.lenI,i8.lenI,i9.lenI,i10.lenI,i11.lenI,w0,w1,w2,w3,w4,w5,w6,w7,cA,n0,n1,n2,n3,n4,d0,d1,d2,d3,d4]
 have d4:decide (c.li.length≤16)=true:=decide_eq_true (by omega)
 by_cases n5:(16:Int)<(c.fs.length:Int)
 ·have d5:decide (c.fs.length≤16)=false:=decide_eq_false (by omega)
  simp(maxDischargeDepth:=6) only[qF,ae,ah,aa,aj,ab,an,reduceCtorEq,Nat.reduceLT,Nat.reduceEqDiff,nn,i7.lenI,i8.lenI,i9.lenI,i10.lenI,i11.lenI,i12.lenI,w0,w1,w2,w3,w4,w5,w6,w7,cA,n0,n1,n2,n3,n4,n5,d0,d1,d2,d3,d4,d5]
 have d5:decide (c.fs.length≤16)=true:=decide_eq_true (by omega)
 rw[q0,q1,q2,q3,q4,q5,q6,q7,d0,d1,d2,d3,d4,d5]at jQ
 exact absurd jQ (by decide)
theorem mE:iC c≠0:=by
 have _:=hT
 unfold iC
 by_cases h:oq c=false
 ·rw[if_pos h];decide
 ·rw[if_neg h,if_pos (jQ.resolve_left h)];decide
theorem oy:lb c=iC c:=by
 unfold lb;rw[if_pos (mE c a7 a8 a9 a10 bf ba hT jQ)]
theorem Y5: ∃s,ai pE 62 [.agg (bG c a7 a8 a9 a10 bf ba)] []=some (.i .i64 (lb c),s):=by
 have vG:=UD c a7 a8 a9 a10 bf ba hT jQ
 have e0:=mE c a7 a8 a9 a10 bf ba hT jQ
 rw[oy c a7 a8 a9 a10 bf ba hT jQ]
 obtain⟨⟨c7,i7,j7⟩,⟨c8,i8,j8⟩,⟨c9,i9,j9⟩,⟨kQ,i10,jz⟩,⟨j2,i11,ju⟩,⟨ki,i12,jy⟩⟩:=hT
 unfold bG at vG ⊢
 rw[aG Sm (by simp[Hx])]
 generalize iC c=e at*
 simp(maxDischargeDepth:=6) only[qF,ae,ah,aa,aj,ab,an,Nat.reduceAdd,Nat.reduceLT,Nat.reduceEqDiff,Hx,i7.froz1,i8.froz1,i9.froz1,i10.froz1,i11.froz1,i12.froz1,vG,uk,e0]
 exact⟨_,rfl⟩
theorem Pv:ai pE 40 [.agg (bG c a7 a8 a9 a10 bf ba)] []=some (.i .i64 (lb c),[]):=by
 have vG:=UE c a7 a8 a9 a10 bf ba hT jQ
 have e0:=mE c a7 a8 a9 a10 bf ba hT jQ
 rw[oy c a7 a8 a9 a10 bf ba hT jQ]
 obtain⟨⟨c7,i7,j7⟩,⟨c8,i8,j8⟩,⟨c9,i9,j9⟩,⟨kQ,i10,jz⟩,⟨j2,i11,ju⟩,⟨ki,i12,jy⟩⟩:=hT
 unfold bG at vG ⊢
 rw[aG Sf (by simp[Hw])]
 generalize iC c=e at*
 simp(maxDischargeDepth:=6) only[qF,ae,ah,aa,aj,ab,an,Nat.reduceAdd,Nat.reduceLT,Nat.reduceEqDiff,Hw,i7.froz1,i8.froz1,i9.froz1,i10.froz1,i11.froz1,i12.froz1,vG,Cj,e0]
theorem rm:lf c=(RG,lb c):=by
 unfold lf;rw[if_pos (by rw[oy c a7 a8 a9 a10 bf ba hT jQ];exact mE c a7 a8 a9 a10 bf ba hT jQ)]
theorem Y6: ∃cells s,ai pE 24 [.agg (bG c a7 a8 a9 a10 bf ba)] []=some (.tup [.agg cells,.i .i64 (lf c).2],s)∧DE (lf c).1 cells:=by
 obtain⟨s0,cN⟩:=Y5 c a7 a8 a9 a10 bf ba hT jQ
 have e0:lb c≠0:=by rw[oy c a7 a8 a9 a10 bf ba hT jQ];exact mE c a7 a8 a9 a10 bf ba hT jQ
 rw[rm c a7 a8 a9 a10 bf ba hT jQ]
 obtain⟨⟨c7,i7,j7⟩,⟨c8,i8,j8⟩,⟨c9,i9,j9⟩,⟨kQ,i10,jz⟩,⟨j2,i11,ju⟩,⟨ki,i12,jy⟩⟩:=hT
 unfold bG at cN ⊢
 rw[aG Sd (by simp[HD])]
 generalize lb c=e at*
 simp(maxDischargeDepth:=6) only[qF,ae,ah,aa,aj,ab,an,aF,splice,aH,Nat.reduceAdd,Nat.reduceLT,Nat.reduceEqDiff,HD,i7.froz1,i8.froz1,i9.froz1,i10.froz1,i11.froz1,i12.froz1,cN,FL,e0]
 exact⟨_,_,rfl,lW⟩
theorem Y7: ∃cells s,ai pE 25 [.agg (bG c a7 a8 a9 a10 bf ba)] []=some (.tup [.agg cells,.i .i64 (lf c).2],s)∧DE (lf c).1 cells:=by
 have cN:=Pv c a7 a8 a9 a10 bf ba hT jQ
 have e0:lb c≠0:=by rw[oy c a7 a8 a9 a10 bf ba hT jQ];exact mE c a7 a8 a9 a10 bf ba hT jQ
 rw[rm c a7 a8 a9 a10 bf ba hT jQ]
 obtain⟨⟨c7,i7,j7⟩,⟨c8,i8,j8⟩,⟨c9,i9,j9⟩,⟨kQ,i10,jz⟩,⟨j2,i11,ju⟩,⟨ki,i12,jy⟩⟩:=hT
 unfold bG at cN ⊢
 rw[aG Se (by simp[HE])]
 generalize lb c=e at*
 simp(maxDischargeDepth:=6) only[qF,ae,ah,aa,aj,ab,an,aF,splice,aH,Nat.reduceAdd,Nat.reduceLT,Nat.reduceEqDiff,HE,i7.froz1,i8.froz1,i9.froz1,i10.froz1,i11.froz1,i12.froz1,cN,FJ,e0]
 exact⟨_,_,rfl,lW⟩
end
structure Z8 (c:Ct):Prop where
 n7:E0 c.cs
 n8: ∀u∈c.ru,B6 u.x
 n9: ∀u∈c.co,B6 u.x
 n10: ∀x∈c.cr,B6 x
theorem Z8.sm{c:Ct}(h:Z8 c)(hs:nB c=true):tz c:=by
 unfold nB at hs
 simp only[Bool.and_eq_true,decide_eq_true_eq]at hs
 obtain⟨h1,h2,h3,h4,h5,h6⟩:=hs
 exact⟨⟨h.n7,cm (by omega)⟩,⟨h.n8,cm (by omega)⟩,⟨h.n9,cm (by omega)⟩,⟨h.n10,cm (by omega)⟩,cm (by omega),cm (by omega)⟩
theorem pT(l:Cs)(scope:Int)(x:Ex):(eH l scope x).1.nodes≤400:=by
 unfold eH
 by_cases h0:(cV l scope x).2=0
 ·rw[if_neg (by simp[h0])]
  have hn:=sW l scope x
  have hz:=oo (tP h0).1
  split
  ·simp[bN,Ex.nodes,a6]
  ·show(cC l scope x).nodes≤400
   omega
 ·rw[if_pos h0];simp[bN,Ex.nodes,a6]
theorem RN(l:Cs): ∀us:List Ru,(∀u∈(sg l us).2,u.x.nodes≤100000)∧(sg l us).2.length≤us.length
 | []=>by simp[sg]
 |u::us=>by
  obtain⟨h1,h2⟩:=RN l us
  have hn:=pT l u.sc u.x
  rw[sg]
  split
  ·simp
  ·simp only
   split
   ·exact⟨h1,by rw[List.length_cons];omega⟩
   ·refine⟨fun v hv=> ?_,by rw[List.length_cons,List.length_cons];omega⟩
    rcases List.mem_cons.1 hv with rfl|hv
    ·show(eH l u.sc u.x).1.nodes≤100000;omega
    ·exact h1 v hv
theorem RO(l:Cs): ∀us:List Co,(∀u∈(si l us).2,u.x.nodes≤100000)∧(si l us).2.length≤us.length
 | []=>by simp[si]
 |u::us=>by
  obtain⟨h1,h2⟩:=RO l us
  have hn:=pT l u.sc u.x
  rw[si]
  split
  ·simp
  ·simp only
   split
   ·exact⟨h1,by rw[List.length_cons];omega⟩
   ·refine⟨fun v hv=> ?_,by rw[List.length_cons,List.length_cons];omega⟩
    rcases List.mem_cons.1 hv with rfl|hv
    ·show(eH l u.sc u.x).1.nodes≤100000;omega
    ·exact h1 v hv
theorem RP(l:Cs): ∀us:List Ex,(∀u∈(ta l us).2,u.nodes≤100000)∧(ta l us).2.length≤us.length
 | []=>by simp[ta]
 |u::us=>by
  obtain⟨h1,h2⟩:=RP l us
  have hn:=pT l 1 u
  rw[ta]
  split
  ·simp
  ·refine⟨fun v hv=> ?_,by simp only[List.length_cons];omega⟩
   rcases List.mem_cons.1 hv with rfl|hv
   ·omega
   ·exact h1 v hv
theorem BN:Z7 RG:=⟨rfl,⟨fun u hu=>(by cases hu),Nat.zero_le _⟩,⟨fun u hu=>(by cases hu),Nat.zero_le _⟩,⟨fun u hu=>(by cases hu),Nat.zero_le _⟩,Nat.zero_le _,Nat.zero_le _⟩
theorem DF(c:Ct)(h:nB c=true∨lf c=(RG,lb c)):Z7 (lf c).1:=by
 rcases h with hs|h
 ·unfold nB at hs
  simp only[Bool.and_eq_true,decide_eq_true_eq]at hs
  obtain⟨h1,h2,h3,h4,h5,h6⟩:=hs
  obtain⟨u1,u2⟩:=RN c.cs c.ru
  obtain⟨v1,v2⟩:=RO c.cs c.co
  obtain⟨w1,w2⟩:=RP c.cs c.cr
  unfold lf
  split
  ·exact BN
  ·split
   ·exact BN
   ·split
    ·exact BN
    ·split
     ·exact BN
     ·exact⟨rfl,⟨u1,cm (show(sg c.cs c.ru).2.length≤100000 by omega)⟩,⟨v1,cm (show(si c.cs c.co).2.length≤100000 by omega)⟩,⟨w1,cm (show(ta c.cs c.cr).2.length≤100000 by omega)⟩,cm (show c.li.length≤100000 by omega),cm (show c.fs.length≤100000 by omega)⟩
 ·rw[h];exact BN
theorem Vl(c:Ct)(a7 a8 a9 a10 bf ba:T)(hT:zH c a7 a8 a9 a10 bf ba)(hA:CtA c)(hN:Z8 c): ∃s,ai pE 5 [.agg (bG c a7 a8 a9 a10 bf ba)] []=some (.b true,s):=by
 obtain⟨b,hli⟩:=Lx c a7 a8 a9 a10 bf ba hT hA
 obtain⟨s3,haw⟩:=K5
 have yq:(∃cells s,ai pE 24 [.agg (bG c a7 a8 a9 a10 bf ba)] []=some (.tup [.agg cells,.i .i64 (lf c).2],s)∧DE (lf c).1 cells)∧(∃cells s,ai pE 25 [.agg (bG c a7 a8 a9 a10 bf ba)] []=some (.tup [.agg cells,.i .i64 (lf c).2],s)∧DE (lf c).1 cells)∧Z7 (lf c).1:=by
  by_cases hr:oq c=false
  ·exact⟨Y6 c a7 a8 a9 a10 bf ba hT (.inl hr),Y7 c a7 a8 a9 a10 bf ba hT (.inl hr),DF c (.inr (rm c a7 a8 a9 a10 bf ba hT (.inl hr)))⟩
  ·by_cases hs:nB c=false
   ·exact⟨Y6 c a7 a8 a9 a10 bf ba hT (.inr hs),Y7 c a7 a8 a9 a10 bf ba hT (.inr hs),DF c (.inr (rm c a7 a8 a9 a10 bf ba hT (.inr hs)))⟩
   ·have CU:nB c=true:=by simpa using hs
    have hS:=hN.sm CU
    exact⟨Ux c a7 a8 a9 a10 bf ba hT hS,Uz c a7 a8 a9 a10 bf ba hT hS,DF c (.inl CU)⟩
 obtain⟨⟨p,s1,hp,b7,b8,b9,b10,b11,b12,rfl,hP⟩,⟨r,s2,hr,d7,d8,d9,d10,d11,d12,rfl,hR⟩,hB⟩:=yq
 have gP:=Lw (lf c).1 b7 b8 b9 b10 b11 b12 hP d7 d8 d9 d10 d11 d12 hR hB
 generalize lf c=q at*
 obtain⟨c',e⟩:=q
 simp only at hp hr gP hP hR
 obtain⟨⟨c7,i7,j7⟩,⟨c8,i8,j8⟩,⟨c9,i9,j9⟩,⟨kQ,i10,jz⟩,⟨j2,i11,ju⟩,⟨ki,i12,jy⟩⟩:=hT
 obtain⟨⟨_,k7,_⟩,⟨_,k8,_⟩,⟨_,k9,_⟩,⟨_,Pt,_⟩,⟨_,Pu,_⟩,⟨_,E7,_⟩⟩:=hP
 obtain⟨⟨_,m7,_⟩,⟨_,m8,_⟩,⟨_,m9,_⟩,⟨_,m10,_⟩,⟨_,m11,_⟩,⟨_,m12,_⟩⟩:=hR
 unfold bG at*
 rw[aG fn5 (by simp[c5])]
 cases b with
 |false=>
  simp(maxDischargeDepth:=6) only[qF,ae,ah,aa,aj,ab,an,Nat.reduceAdd,Nat.reduceLT,Nat.reduceEqDiff,c5,i7.froz1,i8.froz1,i9.froz1,i10.froz1,i11.froz1,i12.froz1,hli,VH,haw,VF]
  exact⟨_,rfl⟩
 |true=>
  simp(maxDischargeDepth:=6) only[qF,ae,ah,aa,aj,ab,an,splice,Nat.reduceAdd,Nat.reduceLT,Nat.reduceEqDiff,c5,i7.froz1,i8.froz1,i9.froz1,i10.froz1,i11.froz1,i12.froz1,k7.froz1,k8.froz1,k9.froz1,Pt.froz1,Pu.froz1,E7.froz1,m7.froz1,m8.froz1,m9.froz1,m10.froz1,m11.froz1,m12.froz1,hli,VH,hp,abU,hr,abV,gP,abW,haw,VF]
  exact⟨_,rfl⟩
end Go.Proofs.YtfenhjpkomldcaaGreat
