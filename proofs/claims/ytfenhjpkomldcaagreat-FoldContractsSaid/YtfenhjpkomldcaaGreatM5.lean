/- Types as the reference finds them. Types as the program finds them: the checker. Types as the program finds them. Types as the program finds them. Conditions: the theorems' own. -/
import Derived.Test.YtfenhjpkomldcaaGreatM4
import Derived.KernelRfl
set_option maxRecDepth 100000
set_option linter.unusedSimpArgs false
set_option linter.unusedVariables false
set_option maxHeartbeats 16000000
namespace Go.Proofs.YtfenhjpkomldcaaGreat
open Go Go.Ev
theorem fE(l:Cs): ∀n,(dv l n).length=n
 |0=>rfl
 |n+1=>by rw[dv,List.length_append,fE l n];rfl
theorem oU(l:Cs){n:Nat}(h:n<l.length):dv l (n+1)=dv l n++ [nI (l.take n) (dv l n) l[n].2]:=by
 rw[dv];simp[List.getD_eq_getElem?_getD,List.getElem?_eq_getElem h]
def E0(l:Cs):Prop:= ∀c∈l,0≤c.2.nodes∧c.2.sm
theorem my(a:List Int)(x:Int):ints (a++ [x])=ints a++ [.i .i64 x]:=by simp[ints]
section
variable(l:Cs)(lT:T)(cl:List T)(hl:aR lT l.length cl)(eA:dK l cl)(hlen:l.length≤eG)(gb:E0 l)
include hl eA hlen gb
theorem aey(g2 g3:Nat)(fr:Fr)(lh:aQ aB)(sh:List aB)
  (h0:ak fr 0=lT) (h2:ak fr 2= .ptr .L 2 g2 0) (h3:ak fr 3= .ptr .L 3 g3 0) (h4:ak fr 4= .i .i64 0) (o2:aq lh 2=⟨g2,.cells [.nilsl,.nilsl] 0 true⟩) (o3:aq lh 3=⟨g3,.cells [.nilsl,.nilsl] 0 true⟩):
  DC pE 47 (.loop eZ) ⟨fr,lh,sh⟩=some (.ext 0,⟨cz pE 47 eZ fr lh sh,bK pE 47 eZ fr lh sh,cw pE 47 eZ fr lh sh⟩)∧
  (aq (bK pE 47 eZ fr lh sh) 2=⟨g2,.cells [.nilsl,.nilsl] 0 true⟩∧(∃v1 v2,aq (bK pE 47 eZ fr lh sh) 3=⟨g3,.cells [v1,v2] 0 true⟩∧be (bK pE 47 eZ fr lh sh) v1 38 1 l.length (ints ((dv l l.length).map (·.1)))∧be (bK pE 47 eZ fr lh sh) v2 43 1 l.length (ints ((dv l l.length).map (·.2))))∧cw pE 47 eZ fr lh sh=sh):=by
 refine aD (P:=fun cO bp br=>aq bp 2=⟨g2,.cells [.nilsl,.nilsl] 0 true⟩∧(∃v1 v2,aq bp 3=⟨g3,.cells [v1,v2] 0 true⟩∧be bp v1 38 1 l.length (ints ((dv l l.length).map (·.1)))∧be bp v2 43 1 l.length (ints ((dv l l.length).map (·.2))))∧br=sh)
  (aI (fun k st=> ∃(fr:Fr) (aX:aQ aB) (v1 v2:T),st=⟨fr,aX,sh⟩∧ak fr 0=lT∧ak fr 2= .ptr .L 2 g2 0∧ak fr 3= .ptr .L 3 g3 0∧ak fr 4= .i .i64 (k:Int)∧aq aX 2=⟨g2,.cells [.nilsl,.nilsl] 0 true⟩∧aq aX 3=⟨g3,.cells [v1,v2] 0 true⟩∧
    be aX v1 38 1 k (ints ((dv l k).map (·.1)))∧be aX v2 43 1 k (ints ((dv l k).map (·.2)))) _ l.length ?_ ?_ 0 _ (Nat.zero_le _) ⟨fr,lh,.nilsl,.nilsl,rfl,h0,h2,h3,h4,o2,o3,be.nil,be.nil⟩)
 ·rintro k _ hk ⟨fr,aX,v1,v2,rfl,h0,h2,h3,h4,o2,o3,B4,zG⟩
  left
  have bt:(k:Int)<l.length:=by omega
  have hw:=aJ (k:=k) (by omega)
  obtain⟨b,cb,r,bh,cH,nA,hb⟩:=dL hl eA k hk
  obtain⟨xF,sd⟩:=gb l[k] (List.getElem_mem hk)
  have dD:=iW l[k].2 _ hb sd
  rw[oU l hk,List.map_append,List.map_append]
  simp only[List.map_cons,List.map_nil,my]
  unfold nI
  by_cases hv:aW l[k].2=0
  ·rw[if_neg (by simp[hv])]
   rw[hv]at dD
   have gK:l[k].2.wf=true:=by
    unfold aW at hv
    by_cases qA:vD l[k].2
    ·rw[if_pos qA]at hv;cases hv
    ·rw[if_neg qA]at hv
     cases hx:l[k].2.wf with
     |true=>rfl
     |false=>rw[hx]at hv;cases hv
   rcases hl with⟨_,hz,_⟩|⟨ex,rfl⟩
   ·omega
   have lU:k≤l.length:=by omega
   have y6:=eA.len
   have cN:=Lz (l.take k) (dv l k) (.sl (List.take (k*5) cl) k (ex&&decide (k=l.length))) (kY k (ints ((dv l k).map (·.1)))) (kY k (ints ((dv l k).map (·.2)))) (cl.take (k*5)) (Or.inr ⟨_,by rw[List.length_take,Nat.min_eq_left lU]⟩) (eA.take k) (by rw[List.length_take];omega) (by rw[fE,List.length_take,Nat.min_eq_left lU])
    (by rw[fE];exact B4.isl) (by rw[fE];exact zG.isl) 0 l[k].2 _ hb (by have:=oo hv;omega) gK
   generalize l[k].2.ty (rZ (l.take k) (dv l k)) 0=q at cN ⊢
   obtain⟨q1,q2⟩:=q
   simp only at cN ⊢
   have kP:=iB B4 (by omega) (sh:=sh) (T.i .i64 q1) true
   have vZ:=iB (zG.congr (kP.2.2 43 (by decide))) (by omega) (sh:=sh) (T.i .i64 q2) true
   have e3:aq (pA aX sh 38 1 8 v1 (.sl [.i .i64 q1] 1 true)) 3=⟨g3,.cells [v1,v2] 0 true⟩:=by rw[kP.2.2 3 (by decide),o3]
   have e4:aq (pA (pA aX sh 38 1 8 v1 (.sl [.i .i64 q1] 1 true)) sh 43 1 8 v2 (.sl [.i .i64 q2] 1 true)) 3=⟨g3,.cells [v1,v2] 0 true⟩:=by rw[vZ.2.2 3 (by decide),e3]
   simp(maxDischargeDepth:=6) only[qF,ae,ah,aa,aj,ab,an,wv,uZ,dq,dw,splice,aH,repl,bH,Nat.reduceAdd,reduceCtorEq,Nat.reduceLT,Nat.reduceLeDiff,Nat.reduceEqDiff,cq,iw,aZ,Ky,eZ,h0,h3,h4,o3,bt,bh,hw,dD,qe,cH.froz1,lU,y6,Nat.sub_zero,Nat.le_refl,B4.fzW,zG.fzW,V5,V6,cN,B4.notS,zG.notS,kL B4,kL zG,kP.1,vZ.1,e3,e4,kP.2.1.cells,kP.2.1.noTup,vZ.2.1.cells,vZ.2.1.noTup]
   refine⟨_,rfl,_,_,vS aX sh 38 1 8 v1 (.sl [.i .i64 q1] 1 true),vS (pA aX sh 38 1 8 v1 (.sl [.i .i64 q1] 1 true)) sh 43 1 8 v2 (.sl [.i .i64 q2] 1 true),rfl, ?_, ?_, ?_, ?_, ?_, ?_, ?_, ?_⟩
   all_goals first|(simp(maxDischargeDepth:=6) only[aa,ab,reduceCtorEq,Nat.reduceEqDiff,h0,h2,h3];done)|skip
   ·simp(maxDischargeDepth:=6) only[aa,ab,Nat.reduceEqDiff];rw[vZ.2.2 2 (by decide),kP.2.2 2 (by decide),o2]
   ·refine be.congr (lh:=pA aX sh 38 1 8 v1 (.sl [.i .i64 q1] 1 true)) kP.2.1 ?_
    simp(maxDischargeDepth:=6) only[aa,ab,Nat.reduceEqDiff]
    exact vZ.2.2 38 (by decide)
   ·refine be.congr vZ.2.1 ?_
    simp(maxDischargeDepth:=6) only[aa,ab,Nat.reduceEqDiff]
  ·rw[if_pos hv]
   obtain⟨q1,h1q⟩: ∃q:Int,q=0:=⟨0,rfl⟩
   rw[←h1q]
   have RT:=dD
   generalize nz:aW l[k].2=q2 at RT hv ⊢
   have kP:=iB B4 (by omega) (sh:=sh) (T.i .i64 q1) true
   have vZ:=iB (zG.congr (kP.2.2 43 (by decide))) (by omega) (sh:=sh) (T.i .i64 q2) true
   have e3:aq (pA aX sh 38 1 8 v1 (.sl [.i .i64 q1] 1 true)) 3=⟨g3,.cells [v1,v2] 0 true⟩:=by rw[kP.2.2 3 (by decide),o3]
   have e4:aq (pA (pA aX sh 38 1 8 v1 (.sl [.i .i64 q1] 1 true)) sh 43 1 8 v2 (.sl [.i .i64 q2] 1 true)) 3=⟨g3,.cells [v1,v2] 0 true⟩:=by rw[vZ.2.2 3 (by decide),e3]
   subst h1q
   simp(maxDischargeDepth:=6) only[qF,ae,ah,aa,aj,ab,an,wv,uZ,dq,dw,splice,aH,repl,bH,Nat.reduceAdd,reduceCtorEq,Nat.reduceLT,Nat.reduceLeDiff,Nat.reduceEqDiff,cq,iw,aZ,Ky,eZ,h0,h3,h4,o3,hl.lenI,bt,bh,hw,RT,qe,cH.froz1,hv,B4.notS,zG.notS,kL B4,kL zG,kP.1,vZ.1,e3,e4,kP.2.1.cells,kP.2.1.noTup,vZ.2.1.cells,vZ.2.1.noTup]
   refine⟨_,rfl,_,_,vS aX sh 38 1 8 v1 (.sl [.i .i64 0] 1 true),vS (pA aX sh 38 1 8 v1 (.sl [.i .i64 0] 1 true)) sh 43 1 8 v2 (.sl [.i .i64 q2] 1 true),rfl, ?_, ?_, ?_, ?_, ?_, ?_, ?_, ?_⟩
   all_goals first|(simp(maxDischargeDepth:=6) only[aa,ab,reduceCtorEq,Nat.reduceEqDiff,h0,h2,h3];done)|skip
   ·simp(maxDischargeDepth:=6) only[aa,ab,Nat.reduceEqDiff];rw[vZ.2.2 2 (by decide),kP.2.2 2 (by decide),o2]
   ·refine be.congr (lh:=pA aX sh 38 1 8 v1 (.sl [.i .i64 0] 1 true)) kP.2.1 ?_
    simp(maxDischargeDepth:=6) only[aa,ab,Nat.reduceEqDiff]
    exact vZ.2.2 38 (by decide)
   ·refine be.congr vZ.2.1 ?_
    simp(maxDischargeDepth:=6) only[aa,ab,Nat.reduceEqDiff]
 ·rintro _ ⟨fr,aX,v1,v2,rfl,h0,h2,h3,h4,o2,o3,B4,zG⟩
  simp(maxDischargeDepth:=6) only[ae,ah,aa,ab,an,reduceCtorEq,Nat.reduceLT,Nat.reduceEqDiff,eZ,h0,h4,hl.lenI,Int.lt_irrefl]
  exact⟨_,_,(by simp:Out.ext 0≠ .nrm),rfl,rfl,o2,⟨v1,v2,o3,B4,zG⟩,rfl⟩
theorem UG:ai pE 104 [lT] []=some (.agg [kY l.length (ints ((dv l l.length).map (·.1))),kY l.length (ints ((dv l l.length).map (·.2)))],[]):=by
 have vY:=fun fr lh sh h0 h2 h3 h4 o2 o3=>aey l lT cl hl eA hlen gb 1 1 fr lh sh h0 h2 h3 h4 o2 o3
 have hL:=fun fr lh sh h0 h2 h3 h4 o2 o3=>And.intro (vY fr lh sh h0 h2 h3 h4 o2 o3).1 (And.intro (vY fr lh sh h0 h2 h3 h4 o2 o3).2.1 (And.intro (yI (vY fr lh sh h0 h2 h3 h4 o2 o3).2.2.1).1 (vY fr lh sh h0 h2 h3 h4 o2 o3).2.2.2))
 have B4:=fun m keep br e fr lh sh h0 h2 h3 h4 o2 o3=>be.fzW (m:=m) (keep:=keep) (sh:=br) (be.congr (yI (vY fr lh sh h0 h2 h3 h4 o2 o3).2.2.1).2.1 (aO (k:=2) (m:=38) _ e (by decide)))
 have zG:=fun m keep br e fr lh sh h0 h2 h3 h4 o2 o3=>be.fzW (m:=m) (keep:=keep) (sh:=br) (be.congr (yI (vY fr lh sh h0 h2 h3 h4 o2 o3).2.2.1).2.2 (aO (k:=2) (m:=43) _ e (by decide)))
 rw[aG Is (by simp[HN])]
 simp(maxDischargeDepth:=6) only[qF,ae,ah,aa,aj,ab,an,Nat.reduceShiftRight,Nat.reduceMod,splice,Nat.reduceAdd,reduceCtorEq,Nat.reduceLT,Nat.reduceEqDiff,HN,Fl,hL,B4,zG,GK]
theorem mz(scope:Int)(x:Ex)(cs:List T)(hx:bE x cs)(hn:0≤x.nodes)(hs:x.sm):ai pE 56 [lT,.i .i64 scope,.agg cs] []=some (.tup [.i .i64 (cV l scope x).1,.i .i64 (cV l scope x).2],[]):=by
 have dD:=iW x cs hx hs
 have UF:=UG l lT cl hl eA hlen gb
 have hO:aR (kY l.length (ints ((dv l l.length).map (·.1)))) l.length (ints ((dv l l.length).map (·.1))):=jr fun h0=>by rw[h0];rfl
 have zE:aR (kY l.length (ints ((dv l l.length).map (·.2)))) l.length (ints ((dv l l.length).map (·.2))):=jr fun h0=>by rw[h0];rfl
 have cN:=fun(YC:aW x=0) hw=>Lz l (dv l l.length) lT _ _ cl hl eA hlen (fE l _) (by rw[fE];exact hO) (by rw[fE];exact zE) scope x cs hx (by have:=oo YC;omega) hw
 obtain⟨a,cc,rfl,ha,mH⟩:=hx.cells
 rw[aG Si (by simp[UT])]
 unfold cV
 by_cases hv:aW x=0
 ·rw[if_neg (by simp[hv])]
  rw[hv]at dD
  have gK:x.wf=true:=by
   unfold aW at hv
   by_cases qA:vD x
   ·rw[if_pos qA]at hv;cases hv
   ·rw[if_neg qA]at hv
    cases hx:x.wf with
    |true=>rfl
    |false=>rw[hx]at hv;cases hv
  have cN:=cN hv gK
  generalize x.ty (rZ l (dv l l.length)) scope=q at cN ⊢
  simp(maxDischargeDepth:=6) only[qF,ae,ah,aa,aj,ab,an,Nat.reduceAdd,reduceCtorEq,Nat.reduceLT,Nat.reduceEqDiff,cq,aZ,UT,dD,qe,ha.froz1,UF,V7,V8,hl.froz,cN,Iq,Ir,hO.froz1,zE.froz1]
 ·rw[if_pos hv]
  generalize aW x=e at dD hv ⊢
  simp(maxDischargeDepth:=6) only[qF,ae,ah,aa,aj,ab,an,Nat.reduceAdd,reduceCtorEq,Nat.reduceLT,Nat.reduceEqDiff,UT,dD,qe,ha.froz1,hv]
end
end Go.Proofs.YtfenhjpkomldcaaGreat
namespace Go.Proofs.YtfenhjpkomldcaaGreat
open Go Go.Ev
theorem vP{α:Type}: ∀(A R:List α) (j:Nat) (vs:List α),splice (A++R) (A.length+j) vs=A++splice R j vs
 | [],R,j,vs=>by simp
 |a::A,R,j,vs=>by
  rw[List.cons_append,List.length_cons,show A.length+1+j=(A.length+j)+1 by omega,splice,vP A R j vs];rfl
theorem te{α:Type}: ∀(z R vs:List α),vs.length=z.length→splice (z++R) 0 vs=vs++R
 | [],R,[],_=>by cases R <;> rfl
 |c::z,R,v::vs,h=>by rw[List.cons_append,splice,te z R vs (by simpa using h)];rfl
theorem pQ{α:Type}(A z R vs:List α)(k:Nat)(hk:A.length=k)(h:vs.length=z.length):splice (A++(z++R)) k vs=(A++vs)++R:=by
 have:=vP A (z++R) 0 vs
 rw[Nat.add_zero,hk]at this
 rw[this,te z R vs h,List.append_assoc]
theorem oT{α:Type}(z:List α)(n:Nat):repl z (n+1)=z++repl z n:=rfl
theorem re{α:Type}(z:List α): ∀n,(repl z n).length=n*z.length
 |0=>by simp[repl]
 |n+1=>by rw[oT,List.length_append,re z n,Nat.succ_mul,Nat.add_comm]
def fq(l:Cs):Nat→List (List Nat×Nat)
 |0=> []
 |n+1=>match bU (fq l n) (l.getD n ([],.mk 0 0 [] [])).1 with
  |none=>fq l n++ [((l.getD n ([],.mk 0 0 [] [])).1,n)]
  |some _=>fq l n
theorem xS(l:Cs){n:Nat}(h:n<l.length):fq l (n+1)=match bU (fq l n) l[n].1 with
  |none=>fq l n++ [(l[n].1,n)]
  |some _=>fq l n:=by
 rw[fq];simp[List.getD_eq_getElem?_getD,List.getElem?_eq_getElem h]
theorem xT(s:List Nat)(c:List Nat×Ex): ∀l:Cs,de (l++ [c]) s=match de l s with|some i=>some i|none=>if c.1=s then some l.length else none
 | []=>by simp[de]
 |d::l=>by
  rw[List.cons_append,de,de,xT s c l]
  by_cases h:d.1=s
  ·simp[h]
  ·rw[if_neg h,if_neg h]
   cases de l s with
   |some i=>rfl
   |none=>by_cases h2:c.1=s <;> simp[h2]
theorem sq(l:Cs)(s:List Nat): ∀n,n≤l.length→bU (fq l n) s=de (l.take n) s
 |0,_=>by simp[fq,bU,de]
 |n+1,h=>by
  have hn:n<l.length:=by omega
  rw[xS l hn,List.take_succ_eq_append_getElem hn,xT]
  have ih:=sq l s n (by omega)
  have ih2:=sq l l[n].1 n (by omega)
  cases hl:bU (fq l n) l[n].1 with
  |none=>
   simp only
   rw[kf,ih]
   cases de (l.take n) s with
   |some i=>rfl
   |none=>
    simp only[List.length_take,Nat.min_eq_left (Nat.le_of_lt hn)]
    by_cases e:s=l[n].1
    ·simp[e]
    ·rw[if_neg e,if_neg (fun h=>e h.symm)]
  |some i=>
   simp only
   rw[ih]
   cases hi:de (l.take n) s with
   |some j=>rfl
   |none=>
    simp only
    rw[if_neg]
    intro e
    rw[hl,e,hi]at ih2
    cases ih2
def sK(s:List Nat):T:= .s s
def nK(n:Nat):T:= .i .i64 (n:Int)
def iV(n:Int):T:= .i .i64 n
theorem G3(a b:List Nat):mN (.one .str) (sK a) (sK b)=some (decide (a=b)):=X7
theorem Zs(a b:Nat):mN (.one .int) (nK a) (nK b)=some (decide (a=b)):=by
 unfold nK;rw[X8];congr 1;rw[decide_eq_decide];omega
def rC(lT:T)(m:List (List Nat×Nat))(kn:List (Nat×Int)):List aB:=
 [⟨1,.map (m.map fun p=>sK p.1) (m.map fun p=>nK p.2) false⟩,⟨1,.map (kn.map fun p=>nK p.1) (kn.map fun p=>iV p.2) false⟩,⟨1,.cells [lT,.mp .S 0 1,.mp .S 1 1] 0 true⟩]
section
variable(lT:T)(m:List (List Nat×Nat))(kn:List (Nat×Int))
theorem Zt:dg (rC lT m kn) 0=⟨1,.map (m.map fun p=>sK p.1) (m.map fun p=>nK p.2) false⟩:=nr rfl
theorem ch1:dg (rC lT m kn) 1=⟨1,.map (kn.map fun p=>nK p.1) (kn.map fun p=>iV p.2) false⟩:=nr rfl
theorem RU:dg (rC lT m kn) 2=⟨1,.cells [lT,.mp .S 0 1,.mp .S 1 1] 0 true⟩:=nr rfl
theorem aeA(m':List (List Nat×Nat)):ky (rC lT m kn) 0 ⟨1,.map (m'.map fun p=>sK p.1) (m'.map fun p=>nK p.2) false⟩=rC lT m' kn:=nr rfl
theorem aeB(gU:List (Nat×Int)):ky (rC lT m kn) 1 ⟨1,.map (gU.map fun p=>nK p.1) (gU.map fun p=>iV p.2) false⟩=rC lT m gU:=nr rfl
theorem Zu:rC lT [] []= [⟨1,.map [] [] false⟩,⟨1,.map [] [] false⟩,⟨1,.cells [lT,.mp .S 0 1,.mp .S 1 1] 0 true⟩]:=nr rfl
end
def Vj(r:Option Nat):T:=match r with|some v=> .tup [nK v,.b true]|none=> .tup [.i .i64 0,.b false]
theorem lkS(m:List (List Nat×Nat))(s:List Nat):lN (.one .str) (m.map fun p=>sK p.1) (m.map fun p=>nK p.2) (.s s) (.i .i64 0) true=some (Vj (bU m s)):=by
 have:=TQ (kT:=sK) (vT:=nK) G3 (fun _=>rfl) m s (.i .i64 0)
 rw[show(T.s s)=sK s from rfl,this];unfold Vj;cases bU m s <;> rfl
section
variable(l:Cs)(lT:T)(cl:List T)(hl:aR lT l.length cl)(eA:dK l cl)(hlen:l.length≤eG)
include hl eA hlen
theorem aeC(fr:Fr)(lh:aQ aB)(sh:List aB)(fi:sh=rC lT [] [])
  (h3:ak fr 3= .ptr .S 2 1 0) (Bx:ak fr 13=lT) (fj:ak fr 14= .i .i64 (l.length:Int)) (OY:ak fr 15= .i .i64 0):
  DC pE 41 (.loop lM) ⟨fr,lh,sh⟩=some (.ext 0,⟨cz pE 41 lM fr lh sh,bK pE 41 lM fr lh sh,cw pE 41 lM fr lh sh⟩)∧
  (cw pE 41 lM fr lh sh=rC lT (fq l l.length) []):=by
 refine aD (P:=fun cO bp br=>br=rC lT (fq l l.length) [])
  (aI (fun k st=> ∃(fr:Fr) (aX:aQ aB),st=⟨fr,aX,rC lT (fq l k) []⟩∧ak fr 3= .ptr .S 2 1 0∧ak fr 13=lT∧ak fr 14= .i .i64 (l.length:Int)∧ak fr 15= .i .i64 (k:Int)) _ l.length ?_ ?_ 0 _ (Nat.zero_le _) ⟨fr,lh,by rw[fi];rfl,h3,Bx,fj,OY⟩)
 ·rintro k _ hk ⟨fr,aX,rfl,h3,Bx,fj,OY⟩
  left
  have bt:(k:Int)<l.length:=by omega
  have hw:=aJ (k:=k) (by omega)
  obtain⟨b,cb,r,bh,cH,nA,hb⟩:=dL hl eA k hk
  have iE:=lkS (fq l k) l[k].1
  rw[xS l hk]
  cases hq:bU (fq l k) l[k].1 with
  |some i=>
   rw[hq]at iE
   unfold Vj at iE
   simp(maxDischargeDepth:=6) only[ae,ah,aa,aj,ab,an,pX,splice,bn,aP,Nat.reduceAdd,Nat.reduceLT,Nat.reduceLeDiff,Nat.reduceEqDiff,cq,aZ,fW,lM,h3,Bx,fj,OY,bt,bh,hw,RU,Zt,dU,iE]
   refine⟨_,rfl,_,_,rfl, ?_, ?_, ?_, ?_⟩ <;> simp(maxDischargeDepth:=6) only[aa,ab,Nat.reduceEqDiff,h3,Bx,fj]
  |none=>
   rw[hq]at iE
   unfold Vj at iE
   have jY:mO (.one .str) (.s l[k].1) (.i .i64 (k:Int)) ((fq l k).map fun p=>sK p.1) ((fq l k).map fun p=>nK p.2)=_:=A8 (kT:=sK) (vT:=nK) G3 (fq l k) l[k].1 k hq
   simp(maxDischargeDepth:=6) only[ae,ah,aa,aj,ab,an,pX,splice,bn,aP,Nat.reduceAdd,Nat.reduceLT,Nat.reduceLeDiff,Nat.reduceEqDiff,cq,aZ,fW,lM,h3,Bx,fj,OY,bt,bh,hw,RU,Zt,dU,iE,EG,jY,aeA]
   refine⟨_,rfl,_,_,rfl, ?_, ?_, ?_, ?_⟩ <;> simp(maxDischargeDepth:=6) only[aa,ab,Nat.reduceEqDiff,h3,Bx,fj]
 ·rintro _ ⟨fr,aX,rfl,h3,Bx,fj,OY⟩
  simp(maxDischargeDepth:=6) only[ae,ah,aa,ab,an,Nat.reduceLT,lM,fj,OY,Int.lt_irrefl]
  exact⟨_,_,(by simp:Out.ext 0≠ .nrm),rfl,rfl,rfl⟩
theorem Lg:ai pE 96 [lT] []=some (.ptr .S 2 1 0,rC lT (fq l l.length) []):=by
 have hL:=fun fr lh sh=>aeC l lT cl hl eA hlen fr lh sh
 rw[Zu]at hL
 rw[aG Ss (by simp[Vw])]
 simp(maxDischargeDepth:=6) only[qF,ae,ah,aa,aj,ab,an,Nat.reduceShiftRight,Nat.reduceMod,aF,splice,aH,Nat.reduceAdd,reduceCtorEq,Nat.reduceLT,Nat.reduceLeDiff,Nat.reduceEqDiff,yM,fW,Vw,HM,hl.lenI,hl.cells,hl.noTup,hl.kept1,hL]
end
end Go.Proofs.YtfenhjpkomldcaaGreat
namespace Go.Proofs.YtfenhjpkomldcaaGreat
open Go Go.Ev
theorem BS(l:Cs)(n:Nat): ∀k,∃r,dv l (n+k)=dv l n++r
 |0=>⟨[],by simp⟩
 |k+1=>by
  obtain⟨r,h⟩:=BS l n k
  rw[←Nat.add_assoc,dv,h]
  exact⟨_,List.append_assoc _ _ _⟩
theorem vv(l:Cs){n i:Nat}(hn:n≤l.length)(hi:i<n):(dv l n).getD i (0,6)=(dv l l.length).getD i (0,6):=by
 obtain⟨r,h⟩:=BS l n (l.length-n)
 rw[show n+(l.length-n)=l.length by omega]at h
 rw[h,List.getD_eq_getElem?_getD,List.getD_eq_getElem?_getD,List.getElem?_append_left (by rw[fE];exact hi)]
def nJ(l:Cs)(i:Nat):Int×Int:=(dv l l.length).getD i (0,6)
theorem tN(l:Cs){i:Nat}(hi:i<l.length):nJ l i=nI (l.take i) (dv l i) l[i].2:=by
 unfold nJ
 rw[←vv l (n:=i+1) (by omega) (by omega),oU l hi,List.getD_eq_getElem?_getD,List.getElem?_append_right (by rw[fE];omega),fE,Nat.sub_self]
 rfl
theorem UH{cl:List Nat→Int×Int}(eA: ∀s,(cl s).2≠0→(cl s).1=0)(scope:Int)(x:Ex)(h:(x.ty cl scope).2≠0):(x.ty cl scope).1=0:=by
 rw[Ex.ty_eq]at h ⊢
 by_cases h6:x.op=6
 ·rw[if_pos h6]at h ⊢
  by_cases hz:dI scope x.name≠0
  ·rw[if_pos hz]at h;exact absurd rfl h
  ·rw[if_neg hz]at h ⊢; exact eA _ h
 ·rw[if_neg h6]at h ⊢
  cases hr:gS cl scope x.args with
  |error e=>rfl
  |ok ts=>
   rw[hr]at h
   simp only at h ⊢
   split at h
   ·rename_i h0;rw[if_pos h0]
   ·exact absurd rfl h
theorem Px(l:Cs)(oh:List (Int×Int))(h: ∀t∈oh,t.2≠0→t.1=0)(s:List Nat):(rZ l oh s).2≠0→(rZ l oh s).1=0:=by
 unfold rZ
 cases de l s with
 |none=>intro _;rfl
 |some i=>
  simp only
  rw[List.getD_eq_getElem?_getD]
  cases hi:oh[i]? with
  |none=>intro _;rfl
  |some t=>exact h t (List.mem_of_getElem? hi)
theorem vQ(l:Cs): ∀n,∀t∈dv l n,t.2≠0→t.1=0
 |0=>by simp[dv]
 |n+1=>by
  intro t ht
  rw[dv]at ht
  rcases List.mem_append.1 ht with ht|ht
  ·exact vQ l n t ht
  ·rw[List.mem_singleton]at ht
   subst ht
   unfold nI
   split
   ·intro _;rfl
   ·exact UH (Px _ _ (vQ l n)) _ _
section
variable(l:Cs)(lT:T)(cl:List T)(hl:aR lT l.length cl)(eA:dK l cl)(hlen:l.length≤eG)(gb:E0 l)
def rj(kn:List (Nat×Int)):Prop:= ∀i t,bU kn i=some t→i<l.length∧nJ l i=(t,0)
def UI(j:Nat):Prop:= ∀kn,rj l kn→ ∃gU,ai pE 114 [.ptr .S 2 1 0,.i .i64 (j:Int)] (rC lT (fq l l.length) kn)=some (.tup [.i .i64 (nJ l j).1,.i .i64 (nJ l j).2],rC lT (fq l l.length) gU)∧rj l gU∧ ∀i,j<i→bU gU i=bU kn i
def wA(n:Nat):List Nat→Int×Int:=rZ (l.take n) (dv l n)
def Zv(n:Nat)(scope:Int)(y:Ex):Prop:= ∀kn,rj l kn→ ∀cs:List T,bE y cs→y.nodes≤100000→y.wf=true→ ∃gU,ai pE 142 [.ptr .S 2 1 0,.i .i64 scope,.i .i64 (n:Int),.agg cs] (rC lT (fq l l.length) kn)=some (.tup [.i .i64 (y.ty (wA l n) scope).1,.i .i64 (y.ty (wA l n) scope).2],rC lT (fq l l.length) gU)∧rj l gU∧ ∀i,n≤i→bU gU i=bU kn i
include hl
theorem aeD(n:Nat)(scope:Int)(xs:List Ex)(ih: ∀y∈xs,Zv l lT n scope y)(a:T)(cc:List T)(ha:aR a xs.length cc)(hx:aK xs cc)(hn:a6 xs≤100000)(gK:gT xs=true)(kn:List (Nat×Int))(tA:rj l kn)(r:Except Int (List Int))(hr:r=gS (wA l n) scope xs)(o:Out)(ho:o=DJ r)(g:Nat)(c7:aB)(fr:Fr)(lh:aQ aB)(sh:List aB)(fi:sh=rC lT (fq l l.length) kn)
  (h0:ak fr 0= .ptr .S 2 1 0) (h1:ak fr 1= .i .i64 scope) (h2:ak fr 2= .i .i64 (n:Int)) (fj:ak fr 14= .isl .L 57 g 0 xs.length 1) (tF:ak fr 59=a) (so:ak fr 60= .i .i64 (xs.length:Int)) (tG:ak fr 61= .i .i64 0) (zJ:aq lh 57=⟨g,.cells (repl [.i .i64 0] xs.length) 0 false⟩) (o7:aq lh 7=c7):
  DC pE 89 (.loop fe) ⟨fr,lh,sh⟩=some (o,⟨cz pE 89 fe fr lh sh,bK pE 89 fe fr lh sh,cw pE 89 fe fr lh sh⟩)∧
  ((∀e,r= .error e→ak (cz pE 89 fe fr lh sh) 8= .i .i64 0∧ak (cz pE 89 fe fr lh sh) 9= .i .i64 e)∧(∀ts,r= .ok ts→aq (bK pE 89 fe fr lh sh) 57=⟨g,.cells (ints ts) 0 false⟩)∧
    aq (bK pE 89 fe fr lh sh) 7=c7∧ ∃gU,cw pE 89 fe fr lh sh=rC lT (fq l l.length) gU∧rj l gU∧ ∀i,n≤i→bU gU i=bU kn i):=by
 have _:=hl
 refine aD (P:=fun cO bp br=>(∀e,r= .error e→ak cO 8= .i .i64 0∧ak cO 9= .i .i64 e)∧(∀ts,r= .ok ts→aq bp 57=⟨g,.cells (ints ts) 0 false⟩)∧aq bp 7=c7∧ ∃gU,br=rC lT (fq l l.length) gU∧rj l gU∧ ∀i,n≤i→bU gU i=bU kn i)
  (aI (fun k st=> ∃(fr:Fr) (aX:aQ aB) (ts:List Int) (UJ:List (Nat×Int)),st=⟨fr,aX,rC lT (fq l l.length) UJ⟩∧ak fr 0= .ptr .S 2 1 0∧ak fr 1= .i .i64 scope∧ak fr 2= .i .i64 (n:Int)∧ak fr 14= .isl .L 57 g 0 xs.length 1∧ak fr 59=a∧ak fr 60= .i .i64 (xs.length:Int)∧ak fr 61= .i .i64 (k:Int)∧aq aX 7=c7∧
    aq aX 57=⟨g,.cells (ints ts++repl [.i .i64 0] (xs.length-k)) 0 false⟩∧ts.length=k∧r=zk ts (gS (wA l n) scope (xs.drop k))∧rj l UJ∧ ∀i,n≤i→bU UJ i=bU kn i) _ xs.length ?_ ?_ 0 _ (Nat.zero_le _) ⟨fr,lh,[],kn,by rw[fi],h0,h1,h2,fj,tF,so,tG,o7,by rw[zJ];rfl,rfl,by rw[hr,List.drop_zero];cases gS (wA l n) scope xs <;> rfl,tA,fun _ _=>rfl⟩)
 ·rintro k _ nN ⟨fr,aX,ts,UJ,rfl,h0,h1,h2,fj,tF,so,tG,o7,zJ,je,cN,UK,Bt⟩
  have bt:(k:Int)<xs.length:=by omega
  have qK:=bX xs
  have Rw:=cT (List.getElem_mem nN)
  have hw:=aJ (k:=k) (cm (by omega))
  obtain⟨b,cb,rr,bh,cH,nA,hb⟩:=dm ha hx k nN
  obtain⟨kn2,az,Zw,OS⟩:=ih xs[k] (List.getElem_mem nN) UJ UK _ hb (by omega) (jg.1 gK _ (List.getElem_mem nN))
  rw[BR nN]at cN
  by_cases hf:(xs[k].ty (wA l n) scope).2=0
  ·left
   rw[if_neg (by simp[hf]),xR]at cN
   generalize xs[k].ty (wA l n) scope=q at az hf cN
   obtain⟨q1,q2⟩:=q
   simp only at az hf cN
   subst hf
   have SS:(ints ts++repl [T.i .i64 0] (xs.length-k)).length=xs.length:=by rw[List.length_append,kI,re,je];simp;omega
   have Rr:splice (ints ts++repl [T.i .i64 0] (xs.length-k)) k [.i .i64 q1]=ints (ts++ [q1])++repl [T.i .i64 0] (xs.length-(k+1)):=by
    rw[show xs.length-k=(xs.length-(k+1))+1 by omega,oT,pQ (ints ts) [T.i .i64 0] _ [T.i .i64 q1] k (by rw[kI];exact je) rfl,my]
   have KU:k+1≤xs.length:=by omega
   simp(maxDischargeDepth:=6) only[qF,ae,ah,aa,aj,ab,an,splice,Nat.reduceAdd,reduceCtorEq,Nat.reduceLT,Nat.reduceLeDiff,Nat.reduceEqDiff,fW,fe,h0,h1,h2,fj,tF,so,tG,zJ,bt,bh,hw,az,ID,cH.kept1,nN,SS,Rr,KU]
   refine⟨_,rfl,_,_,ts++ [q1],kn2,rfl, ?_, ?_, ?_, ?_, ?_, ?_, ?_, ?_, ?_,by simp[je],cN,Zw,fun i hi=>by rw[OS i hi,Bt i hi]⟩
   all_goals first|(simp(maxDischargeDepth:=6) only[aa,ab,reduceCtorEq,Nat.reduceEqDiff,h0,h1,h2,fj,tF,so,o7];done)|skip
  ·right
   rw[if_pos (by simp[hf])]at cN
   generalize xs[k].ty (wA l n) scope=q at az hf cN
   obtain⟨q1,q2⟩:=q
   simp only at az hf cN
   simp(maxDischargeDepth:=6) only[qF,ae,ah,aa,aj,ab,an,splice,Nat.reduceAdd,reduceCtorEq,Nat.reduceLT,Nat.reduceLeDiff,Nat.reduceEqDiff,fW,fe,h0,h1,h2,tF,so,tG,bt,bh,az,ID,cH.kept1,hf]
   refine⟨_,_,(by simp:Out.ret≠ .nrm),rfl,by rw[ho,cN];rfl,fun e he=> ?_,fun t ht=>(by rw[cN]at ht;cases ht),by simp(maxDischargeDepth:=6) only[aa,ab,Nat.reduceEqDiff,o7],kn2,rfl,Zw,fun i hi=>by rw[OS i hi,Bt i hi]⟩
   rw[cN]at he
   cases he
   exact⟨by simp(maxDischargeDepth:=6) only[aa,ab,Nat.reduceEqDiff],by simp(maxDischargeDepth:=6) only[aa]⟩
 ·rintro _ ⟨fr,aX,ts,UJ,rfl,h0,h1,h2,fj,tF,so,tG,o7,zJ,je,cN,UK,Bt⟩
  rw[List.drop_length,gS,zk,List.append_nil]at cN
  rw[Nat.sub_self,show repl [T.i .i64 0] 0= []from rfl,List.append_nil]at zJ
  simp(maxDischargeDepth:=6) only[ae,ah,aa,ab,an,Nat.reduceLT,fe,so,tG,Int.lt_irrefl]
  refine⟨_,_,(by simp:Out.ext 0≠ .nrm),rfl,by rw[ho,cN];rfl,fun e he=>(by rw[cN]at he;cases he),fun t ht=> ?_,o7,UJ,rfl,UK,Bt⟩
  rw[cN]at ht
  cases ht
  exact zJ
include eA hlen
theorem UL(n:Nat)(pI:n≤l.length)(hc: ∀j,j<n→UI l lT j)(scope:Int)(x:Ex):Zv l lT n scope x:=by
 have _:=hlen
 have _:=eA
 induction x using Ex.ind with
 |h x ih=>
  intro kn tA cs hx hn gK
  obtain⟨a,cc,rfl,ha,mH⟩:=hx.cells
  rw[aG P2 (by simp[ug]),Ex.ty_eq]
  have nO:=x.nodes_eq
  rw[Ex.wf_eq,Bool.and_eq_true]at gK
  obtain⟨fh,lD⟩:=gK
  have ga:=vo scope x.name
  have zB:=bX x.args
  have tu:x.args.length≤eG:=cm (by omega)
  simp only[fX,Bool.and_eq_true,decide_eq_true_eq]at fh
  obtain⟨LA,LB,bo,_,_⟩:=fh
  by_cases h6:x.op=6
  ·rw[if_pos h6]
   unfold lC at ga
   by_cases hz:dI scope x.name=0
   ·rw[if_neg (by simp[hz])]
    rw[if_pos hz,hz]at ga
    have iE:=lkS (fq l l.length) x.name
    rw[sq l x.name l.length (Nat.le_refl _),List.take_length]at iE
    have LP:wA l n x.name=match de l x.name with|some i=>if i<n then nJ l i else(0,6)|none=>(0,6):=by
     unfold wA rZ
     rw[oQ]
     cases hi:de l x.name with
     |none=>rfl
     |some i=>
      simp only
      by_cases j1:i<n
      ·rw[if_pos j1,if_pos j1];exact vv l pI j1
      ·rw[if_neg j1,if_neg j1]
    rw[LP]
    cases hi:de l x.name with
    |none=>
     rw[hi]at iE
     unfold Vj at iE
     simp(maxDischargeDepth:=6) only[qF,ae,ah,aa,aj,ab,an,pX,bn,aP,Nat.reduceAdd,reduceCtorEq,Nat.reduceLT,Nat.reduceEqDiff,Int.reduceEq,ug,h6,ga,Aa,RU,Zt,dU,iE]
     exact⟨kn,rfl,tA,fun _ _=>rfl⟩
    |some i=>
     rw[hi]at iE
     rw[show Vj (some i)= .tup [.i .i64 (i:Int),.b true]from rfl]at iE
     by_cases j1:i<n
     ·obtain⟨gU,az,vF,LC⟩:=hc i j1 kn tA
      have UM:(i:Int)<n:=by omega
      simp only[j1,if_true]
      simp(maxDischargeDepth:=6) only[qF,ae,ah,aa,aj,ab,an,pX,bn,aP,Nat.reduceAdd,reduceCtorEq,Nat.reduceLT,Nat.reduceEqDiff,Int.reduceEq,fW,ug,h6,ga,Aa,RU,Zt,dU,iE,UM,az,Iy]
      exact⟨gU,rfl,vF,fun j hj=>LC j (by omega)⟩
     ·have UM: ¬(i:Int)<n:=by omega
      simp only[j1,if_false]
      simp(maxDischargeDepth:=6) only[qF,ae,ah,aa,aj,ab,an,pX,bn,aP,Nat.reduceAdd,reduceCtorEq,Nat.reduceLT,Nat.reduceEqDiff,Int.reduceEq,ug,h6,ga,Aa,RU,Zt,dU,iE,UM]
      exact⟨kn,rfl,tA,fun _ _=>rfl⟩
   ·rw[if_pos hz]
    rw[if_neg hz]at ga
    simp(maxDischargeDepth:=6) only[qF,ae,ah,aa,aj,ab,an,Nat.reduceAdd,reduceCtorEq,Nat.reduceLT,Nat.reduceEqDiff,ug,h6,ga,Aa]
    exact⟨kn,rfl,tA,fun _ _=>rfl⟩
  ·rw[if_neg h6]
   have hL:=fun c7 fr lh sh fi h0 h1 h2 fj tF so tG zJ o7=>aeD l lT cl hl n scope x.args (fun y hy=>ih y hy) a cc ha mH (by omega) lD kn tA _ rfl _ rfl 1 c7 fr lh sh fi h0 h1 h2 fj tF so tG zJ o7
   have Ua:x.args.length*8≤roomy∧x.args.length≤roomy:=by unfold eG at tu;unfold roomy;omega
   have hS:=fun c7 fr lh sh fi h0 h1 h2 fj tF so tG zJ o7=>(hL c7 fr lh sh fi h0 h1 h2 fj tF so tG zJ o7).2.2.2.2
   cases hr:gS (wA l n) scope x.args with
   |error e=>
    have HB:=fun c7 fr lh sh fi h0 h1 h2 fj tF so tG zJ o7=>And.intro (hL c7 fr lh sh fi h0 h1 h2 fj tF so tG zJ o7).1 ((hL c7 fr lh sh fi h0 h1 h2 fj tF so tG zJ o7).2.1 e hr)
    simp only[hr,DJ]at HB
    simp(maxDischargeDepth:=6) only[qF,ae,ah,aa,aj,ab,an,u6,yA,Nat.reduceAdd,reduceCtorEq,Nat.reduceLT,Nat.reduceEqDiff,ug,h6,ha.lenI,Ua,HB]
    generalize hX:cw _ _ _ _ _ _=X
    obtain⟨gU,e1,e2,e3⟩: ∃gU,X=rC lT (fq l l.length) gU∧rj l gU∧ ∀i,n≤i→bU gU i=bU kn i:=by
     rw[←hX]
     refine hS _ _ _ _ rfl ?_ ?_ ?_ ?_ ?_ ?_ ?_ ?_ rfl <;> simp(maxDischargeDepth:=6) only[aa,ab,reduceCtorEq,Nat.reduceEqDiff]
    rw[e1];exact⟨gU,rfl,e2,e3⟩
   |ok ts=>
    have vO:=oP hr
    have HB:=fun c7 fr lh sh fi h0 h1 h2 fj tF so tG zJ o7=>And.intro (hL c7 fr lh sh fi h0 h1 h2 fj tF so tG zJ o7).1 (hL c7 fr lh sh fi h0 h1 h2 fj tF so tG zJ o7).2.2.2.1
    have hF:=fun c7 fr lh sh fi h0 h1 h2 fj tF so tG zJ o7=>(hL c7 fr lh sh fi h0 h1 h2 fj tF so tG zJ o7).2.2.1 ts hr
    have nG:(ints ts).length=x.args.length:=by rw[kI,vO]
    have hit:List.take x.args.length (ints ts)=ints ts:=List.take_of_length_le (by omega)
    simp only[hr,DJ]at HB
    have pd:=DH x.op ts (.sl (ints ts) x.args.length false) (Or.inr ⟨false,by rw[vO]⟩) (by rw[vO];exact tu) LA LB h6 (by rw[vO];exact bo)
    by_cases hz:dJ x.op ts=0
    ·rw[hz]at pd
     simp(maxDischargeDepth:=6) only[qF,ae,ah,aa,aj,ab,an,Nat.reduceShiftRight,Nat.reduceMod,u6,yA,Nat.reduceAdd,reduceCtorEq,Nat.reduceLT,Nat.reduceEqDiff,ug,wK,h6,ha.lenI,Ua,HB ⟨1,.cells [.i .i64 x.op,.i .i64 x.num,.s x.name,a] 0 true⟩,hF ⟨1,.cells [.i .i64 x.op,.i .i64 x.num,.s x.name,a] 0 true⟩,pd,QJ,hz,nG,hit]
     generalize hX:cw _ _ _ _ _ _=X
     obtain⟨gU,e1,e2,e3⟩: ∃gU,X=rC lT (fq l l.length) gU∧rj l gU∧ ∀i,n≤i→bU gU i=bU kn i:=by
      rw[←hX]
      refine hS _ _ _ _ rfl ?_ ?_ ?_ ?_ ?_ ?_ ?_ ?_ rfl <;> simp(maxDischargeDepth:=6) only[aa,ab,reduceCtorEq,Nat.reduceEqDiff]
     rw[e1];exact⟨gU,rfl,e2,e3⟩
    ·simp(maxDischargeDepth:=6) only[qF,ae,ah,aa,aj,ab,an,Nat.reduceShiftRight,Nat.reduceMod,u6,yA,Nat.reduceAdd,reduceCtorEq,Nat.reduceLT,Nat.reduceEqDiff,ug,wK,h6,ha.lenI,Ua,HB ⟨1,.cells [.i .i64 x.op,.i .i64 x.num,.s x.name,a] 0 true⟩,hF ⟨1,.cells [.i .i64 x.op,.i .i64 x.num,.s x.name,a] 0 true⟩,pd,QJ,hz,nG,hit]
     generalize hX:cw _ _ _ _ _ _=X
     obtain⟨gU,e1,e2,e3⟩: ∃gU,X=rC lT (fq l l.length) gU∧rj l gU∧ ∀i,n≤i→bU gU i=bU kn i:=by
      rw[←hX]
      refine hS _ _ _ _ rfl ?_ ?_ ?_ ?_ ?_ ?_ ?_ ?_ rfl <;> simp(maxDischargeDepth:=6) only[aa,ab,reduceCtorEq,Nat.reduceEqDiff]
     rw[e1];exact⟨gU,rfl,e2,e3⟩
end
end Go.Proofs.YtfenhjpkomldcaaGreat
namespace Go.Proofs.YtfenhjpkomldcaaGreat
open Go Go.Ev
theorem jt{x:Ex}(hv:aW x=0):x.wf=true:=by
 unfold aW at hv
 by_cases qA:vD x
 ·rw[if_pos qA]at hv;cases hv
 ·rw[if_neg qA]at hv
  cases hx:x.wf with
  |true=>rfl
  |false=>rw[hx]at hv;cases hv
section
variable(l:Cs)(lT:T)(cl:List T)(hl:aR lT l.length cl)(eA:dK l cl)(hlen:l.length≤eG)(gb:E0 l)
include hl eA hlen
def BK(n:Nat)(scope:Int)(x:Ex):Int×Int:=if aW x≠0 then(0,aW x)else x.ty (wA l n) scope
theorem Dt(n:Nat)(pI:n≤l.length)(hc: ∀j,j<n→UI l lT j)(scope:Int)(x:Ex)(cs:List T)(hx:bE x cs)(hn:0≤x.nodes)(hs:x.sm)(kn:List (Nat×Int))(tA:rj l kn):
  ∃gU,ai pE 97 [.ptr .S 2 1 0,.i .i64 scope,.i .i64 (n:Int),.agg cs] (rC lT (fq l l.length) kn)=some (.tup [.i .i64 (BK l n scope x).1,.i .i64 (BK l n scope x).2],rC lT (fq l l.length) gU)∧rj l gU∧ ∀i,n≤i→bU gU i=bU kn i:=by
 have dD:=fun z fr lh sh=>kh (z:=z) (fr:=fr) (lh:=lh) (sh:=sh) x cs hx hn hs
 have gq:=fun h=>UL l lT cl hl eA hlen n pI hc scope x kn tA cs hx h
 obtain⟨a,cc,rfl,ha,mH⟩:=hx.cells
 rw[aG Su (by simp[UW])]
 unfold BK
 by_cases hv:aW x=0
 ·rw[if_neg (by simp[hv])]
  obtain⟨gU,az,h2,h3⟩:=gq (by have:=oo hv;omega) (jt hv)
  rw[hv]at dD
  simp(maxDischargeDepth:=6) only[qF,ae,ah,aa,aj,ab,an,Nat.reduceAdd,reduceCtorEq,Nat.reduceLT,Nat.reduceEqDiff,fW,UW,dD,az,ID,ha.kept1]
  exact⟨gU,rfl,h2,h3⟩
 ·rw[if_pos hv]
  generalize aW x=e at dD hv ⊢
  simp(maxDischargeDepth:=6) only[qF,ae,ah,aa,aj,ab,an,Nat.reduceAdd,reduceCtorEq,Nat.reduceLT,Nat.reduceEqDiff,UW,dD,hv]
  exact⟨kn,rfl,tA,fun _ _=>rfl⟩
include gb
theorem Du: ∀j,j<l.length→UI l lT j:=by
 intro j
 induction j using Nat.strongRecOn with
 |ind j ih=>
  intro hj kn tA
  obtain⟨b,cb,r,bh,cH,nA,hb⟩:=dL hl eA j hj
  obtain⟨xF,sd⟩:=gb l[j] (List.getElem_mem hj)
  obtain⟨gU,az,vF,LC⟩:=Dt l lT cl hl eA hlen j (by omega) (fun i hi=>ih i hi (by omega)) 0 l[j].2 _ hb xF sd kn tA
  have tq:nJ l j=BK l j 0 l[j].2:=by rw[tN l hj];rfl
  rw[←tq]at az
  have Py:(nJ l j).2≠0→(nJ l j).1=0:=by
   unfold nJ
   rw[List.getD_eq_getElem?_getD,List.getElem?_eq_getElem (by rw[fE];exact hj)]
   exact vQ l _ _ (List.getElem_mem _)
  have iE:lN (.one .int) (kn.map fun p=>nK p.1) (kn.map fun p=>iV p.2) (.i .i64 (j:Int)) (.i .i64 0) true=_:=TQ (kT:=nK) (vT:=iV) Zs (fun _=>rfl) kn j (.i .i64 0)
  rw[aG PS (by simp[Cb])]
  cases hq:bU kn j with
  |some t=>
   obtain⟨_,ht⟩:=tA j t hq
   rw[hq]at iE
   simp only[show iV t= .i .i64 t from rfl]at iE
   rw[ht]
   simp(maxDischargeDepth:=6) only[qF,ae,ah,aa,aj,ab,pX,reduceCtorEq,Nat.reduceLT,Nat.reduceEqDiff,Cb,RU,ch1,dU,iE]
   exact⟨kn,rfl,tA,fun _ _=>rfl⟩
  |none=>
   rw[hq]at iE
   generalize he:nJ l j=q at az Py ⊢
   obtain⟨q1,q2⟩:=q
   simp only at az Py ⊢
   by_cases h0:q2=0
   ·subst h0
    have fh:bU gU j=none:=by rw[LC j (Nat.le_refl _),hq]
    have jY:mO (.one .int) (.i .i64 (j:Int)) (.i .i64 q1) (gU.map fun p=>nK p.1) (gU.map fun p=>iV p.2)=_:=A8 (kT:=nK) (vT:=iV) Zs gU j q1 fh
    simp(maxDischargeDepth:=6) only[qF,ae,ah,aa,aj,ab,an,pX,reduceCtorEq,Nat.reduceLT,Nat.reduceLeDiff,Nat.reduceEqDiff,fW,Cb,RU,ch1,dU,iE,bh,cH.kept1,az,FR,X9,jY,aeB]
    refine⟨_,rfl, ?_, ?_⟩
    ·intro i t hi
     rw[kf]at hi
     cases S6:bU gU i with
     |some u=>rw[S6]at hi;cases hi;exact vF i _ S6
     |none=>
      rw[S6]at hi
      simp only at hi
      split at hi
      ·rename_i e;subst e;cases hi;exact⟨hj,he⟩
      ·cases hi
    ·intro i hi
     rw[kf,LC i (by omega)]
     cases bU kn i with
     |some u=>rfl
     |none=>simp only;rw[if_neg (by omega)]
   ·rw[Py h0]
    rw[Py h0]at az
    simp(maxDischargeDepth:=6) only[qF,ae,ah,aa,aj,ab,an,pX,reduceCtorEq,Nat.reduceLT,Nat.reduceLeDiff,Nat.reduceEqDiff,fW,Cb,RU,ch1,dU,iE,bh,cH.kept1,az,FR,h0]
    exact⟨gU,rfl,vF,fun i hi=>LC i (by omega)⟩
theorem K4(scope:Int)(x:Ex)(cs:List T)(hx:bE x cs)(hn:0≤x.nodes)(hs:x.sm): ∃s,ai pE 52 [lT,.i .i64 scope,.agg cs] []=some (.tup [.i .i64 (cV l scope x).1,.i .i64 (cV l scope x).2],s):=by
 obtain⟨gU,az,_,_⟩:=Dt l lT cl hl eA hlen l.length (Nat.le_refl _) (fun j hj=>Du l lT cl hl eA hlen gb j hj) scope x cs hx hn hs [] (fun i t h=>by simp[bU]at h)
 have Dv:=Lg l lT cl hl eA hlen
 have he:BK l l.length scope x=cV l scope x:=by unfold BK cV wA;rw[List.take_length]
 rw[he]at az
 obtain⟨a,cc,rfl,ha,mH⟩:=hx.cells
 rw[aG VJ (by simp[Vr])]
 simp(maxDischargeDepth:=6) only[qF,ae,ah,aa,aj,ab,an,Nat.reduceAdd,reduceCtorEq,Nat.reduceLT,Nat.reduceEqDiff,cq,aZ,fW,Vr,Dv,FQ,ab2,hl.kept,hl.lenI,ha.kept1,az,FR,ab3]
 exact⟨_,rfl⟩
end
end Go.Proofs.YtfenhjpkomldcaaGreat
