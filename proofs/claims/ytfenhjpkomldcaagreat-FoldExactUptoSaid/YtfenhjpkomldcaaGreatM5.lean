/- Types as the reference finds them. Types as the program finds them: the checker. Types as the program finds them. Types as the program finds them. Conditions: the theorems' own. -/
import Derived.Test.YtfenhjpkomldcaaGreatM4
import Derived.KernelRfl
set_option maxRecDepth 100000
set_option linter.unusedSimpArgs false
set_option linter.unusedVariables false
set_option maxHeartbeats 16000000
namespace Go.Proofs.YtfenhjpkomldcaaGreat
open Go Go.Ev
theorem eH(l:Cs): ∀n,(cX l n).length=n
 |0=>rfl
 |n+1=>by rw[cX,List.length_append,eH l n];rfl
theorem mi(l:Cs){n:Nat}(h:n<l.length):cX l (n+1)=cX l n++ [ll (l.take n) (cX l n) l[n].2]:=by
 rw[cX];simp[List.getD_eq_getElem?_getD,List.getElem?_eq_getElem h]
def DQ(l:Cs):Prop:= ∀c∈l,0≤c.2.nodes∧c.2.sm
theorem j6(a:List Int)(x:Int):ints (a++ [x])=ints a++ [.i .i64 x]:=by simp[ints]
section
variable(l:Cs)(lT:T)(cl:List T)(hl:aN lT l.length cl)(dq:df l cl)(hlen:l.length≤gi)(j7:DQ l)
include hl dq hlen j7
theorem ZN(g2 g3:Nat)(fr:Fr)(lh:aQ aA)(sh:List aA)
  (h0:an fr 0=lT) (h2:an fr 2= .ptr .L 2 g2 0) (h3:an fr 3= .ptr .L 3 g3 0) (h4:an fr 4= .i .i64 0) (o2:aE lh 2=⟨g2,.cells [.nilsl,.nilsl] 0 true⟩) (o3:aE lh 3=⟨g3,.cells [.nilsl,.nilsl] 0 true⟩):
  DC pE 47 (.loop eh) ⟨fr,lh,sh⟩=some (.ext 0,⟨ev pE 47 eh fr lh sh,eP pE 47 eh fr lh sh,eJ pE 47 eh fr lh sh⟩)∧
  (aE (eP pE 47 eh fr lh sh) 2=⟨g2,.cells [.nilsl,.nilsl] 0 true⟩∧(∃v1 v2,aE (eP pE 47 eh fr lh sh) 3=⟨g3,.cells [v1,v2] 0 true⟩∧bG (eP pE 47 eh fr lh sh) v1 38 1 l.length (ints ((cX l l.length).map (·.1)))∧bG (eP pE 47 eh fr lh sh) v2 43 1 l.length (ints ((cX l l.length).map (·.2))))∧eJ pE 47 eh fr lh sh=sh):=by
 refine a6 (P:=fun g7 dj cq=>aE dj 2=⟨g2,.cells [.nilsl,.nilsl] 0 true⟩∧(∃v1 v2,aE dj 3=⟨g3,.cells [v1,v2] 0 true⟩∧bG dj v1 38 1 l.length (ints ((cX l l.length).map (·.1)))∧bG dj v2 43 1 l.length (ints ((cX l l.length).map (·.2))))∧cq=sh)
  (bt (fun k st=> ∃(fr:Fr) (dS:aQ aA) (v1 v2:T),st=⟨fr,dS,sh⟩∧an fr 0=lT∧an fr 2= .ptr .L 2 g2 0∧an fr 3= .ptr .L 3 g3 0∧an fr 4= .i .i64 (k:Int)∧aE dS 2=⟨g2,.cells [.nilsl,.nilsl] 0 true⟩∧aE dS 3=⟨g3,.cells [v1,v2] 0 true⟩∧
    bG dS v1 38 1 k (ints ((cX l k).map (·.1)))∧bG dS v2 43 1 k (ints ((cX l k).map (·.2)))) _ l.length ?_ ?_ 0 _ (Nat.zero_le _) ⟨fr,lh,.nilsl,.nilsl,rfl,h0,h2,h3,h4,o2,o3,bG.nil,bG.nil⟩)
 ·rintro k _ hk ⟨fr,dS,v1,v2,rfl,h0,h2,h3,h4,o2,o3,y6,wz⟩
  left
  have dN:(k:Int)<l.length:=by omega
  have hw:=cE (k:=k) (by omega)
  obtain⟨b,cb,r,cQ,fu,oq,hb⟩:=fZ hl dq k hk
  obtain⟨Rj,Qr⟩:=j7 l[k] (List.getElem_mem hk)
  have hval:=pw l[k].2 _ hb Qr
  rw[mi l hk,List.map_append,List.map_append]
  simp only[List.map_cons,List.map_nil,j6]
  unfold ll
  by_cases hv:bF l[k].2=0
  ·rw[if_neg (by simp[hv])]
   rw[hv]at hval
   have fy:l[k].2.wf=true:=by
    unfold bF at hv
    by_cases nH:sr l[k].2
    ·rw[if_pos nH]at hv;cases hv
    ·rw[if_neg nH]at hv
     cases hx:l[k].2.wf with
     |true=>rfl
     |false=>rw[hx]at hv;cases hv
   rcases hl with⟨_,hz,_⟩|⟨ex,rfl⟩
   ·omega
   have qz:k≤l.length:=by omega
   have DR:=dq.len
   have dR:=Il (l.take k) (cX l k) (.sl (List.take (k*5) cl) k (ex&&decide (k=l.length))) (jb k (ints ((cX l k).map (·.1)))) (jb k (ints ((cX l k).map (·.2)))) (cl.take (k*5)) (Or.inr ⟨_,by rw[List.length_take,Nat.min_eq_left qz]⟩) (dq.take k) (by rw[List.length_take];omega) (by rw[eH,List.length_take,Nat.min_eq_left qz])
    (by rw[eH];exact y6.isl) (by rw[eH];exact wz.isl) 0 l[k].2 _ hb (by have:=oA hv;omega) fy
   generalize l[k].2.ty (po (l.take k) (cX l k)) 0=q at dR ⊢
   obtain⟨q1,q2⟩:=q
   simp only at dR ⊢
   have vM:=gb y6 (by omega) (sh:=sh) (T.i .i64 q1) true
   have sS:=gb (wz.congr (vM.2.2 43 (by decide))) (by omega) (sh:=sh) (T.i .i64 q2) true
   have e3:aE (sN dS sh 38 1 8 v1 (.sl [.i .i64 q1] 1 true)) 3=⟨g3,.cells [v1,v2] 0 true⟩:=by rw[vM.2.2 3 (by decide),o3]
   have e4:aE (sN (sN dS sh 38 1 8 v1 (.sl [.i .i64 q1] 1 true)) sh 43 1 8 v2 (.sl [.i .i64 q2] 1 true)) 3=⟨g3,.cells [v1,v2] 0 true⟩:=by rw[sS.2.2 3 (by decide),e3]
   simp(maxDischargeDepth:=6) only[qF,ah,ai,ab,aj,ae,ak,nV,mS,dH,dQ,splice,aF,repl,bk,Nat.reduceAdd,reduceCtorEq,Nat.reduceLT,Nat.reduceLeDiff,Nat.reduceEqDiff,bV,gX,aV,vA,eh,h0,h3,h4,o3,dN,cQ,hw,hval,CA,fu.froz1,qz,DR,Nat.sub_zero,Nat.le_refl,y6.fzW,wz.fzW,Sa,Sb,dR,y6.notS,wz.notS,kI y6,kI wz,vM.1,sS.1,e3,e4,vM.2.1.cells,vM.2.1.noTup,sS.2.1.cells,sS.2.1.noTup]
   refine⟨_,rfl,_,_,Dv dS sh 38 1 8 v1 (.sl [.i .i64 q1] 1 true),Dv (sN dS sh 38 1 8 v1 (.sl [.i .i64 q1] 1 true)) sh 43 1 8 v2 (.sl [.i .i64 q2] 1 true),rfl, ?_, ?_, ?_, ?_, ?_, ?_, ?_, ?_⟩
   all_goals first|(simp(maxDischargeDepth:=6) only[ab,ae,reduceCtorEq,Nat.reduceEqDiff,h0,h2,h3];done)|skip
   ·simp(maxDischargeDepth:=6) only[ab,ae,Nat.reduceEqDiff];rw[sS.2.2 2 (by decide),vM.2.2 2 (by decide),o2]
   ·refine bG.congr (lh:=sN dS sh 38 1 8 v1 (.sl [.i .i64 q1] 1 true)) vM.2.1 ?_
    simp(maxDischargeDepth:=6) only[ab,ae,Nat.reduceEqDiff]
    exact sS.2.2 38 (by decide)
   ·refine bG.congr sS.2.1 ?_
    simp(maxDischargeDepth:=6) only[ab,ae,Nat.reduceEqDiff]
  ·rw[if_pos hv]
   obtain⟨q1,h1q⟩: ∃q:Int,q=0:=⟨0,rfl⟩
   rw[←h1q]
   have Od:=hval
   generalize wy:bF l[k].2=q2 at Od hv ⊢
   have vM:=gb y6 (by omega) (sh:=sh) (T.i .i64 q1) true
   have sS:=gb (wz.congr (vM.2.2 43 (by decide))) (by omega) (sh:=sh) (T.i .i64 q2) true
   have e3:aE (sN dS sh 38 1 8 v1 (.sl [.i .i64 q1] 1 true)) 3=⟨g3,.cells [v1,v2] 0 true⟩:=by rw[vM.2.2 3 (by decide),o3]
   have e4:aE (sN (sN dS sh 38 1 8 v1 (.sl [.i .i64 q1] 1 true)) sh 43 1 8 v2 (.sl [.i .i64 q2] 1 true)) 3=⟨g3,.cells [v1,v2] 0 true⟩:=by rw[sS.2.2 3 (by decide),e3]
   subst h1q
   simp(maxDischargeDepth:=6) only[qF,ah,ai,ab,aj,ae,ak,nV,mS,dH,dQ,splice,aF,repl,bk,Nat.reduceAdd,reduceCtorEq,Nat.reduceLT,Nat.reduceLeDiff,Nat.reduceEqDiff,bV,gX,aV,vA,eh,h0,h3,h4,o3,hl.lenI,dN,cQ,hw,Od,CA,fu.froz1,hv,y6.notS,wz.notS,kI y6,kI wz,vM.1,sS.1,e3,e4,vM.2.1.cells,vM.2.1.noTup,sS.2.1.cells,sS.2.1.noTup]
   refine⟨_,rfl,_,_,Dv dS sh 38 1 8 v1 (.sl [.i .i64 0] 1 true),Dv (sN dS sh 38 1 8 v1 (.sl [.i .i64 0] 1 true)) sh 43 1 8 v2 (.sl [.i .i64 q2] 1 true),rfl, ?_, ?_, ?_, ?_, ?_, ?_, ?_, ?_⟩
   all_goals first|(simp(maxDischargeDepth:=6) only[ab,ae,reduceCtorEq,Nat.reduceEqDiff,h0,h2,h3];done)|skip
   ·simp(maxDischargeDepth:=6) only[ab,ae,Nat.reduceEqDiff];rw[sS.2.2 2 (by decide),vM.2.2 2 (by decide),o2]
   ·refine bG.congr (lh:=sN dS sh 38 1 8 v1 (.sl [.i .i64 0] 1 true)) vM.2.1 ?_
    simp(maxDischargeDepth:=6) only[ab,ae,Nat.reduceEqDiff]
    exact sS.2.2 38 (by decide)
   ·refine bG.congr sS.2.1 ?_
    simp(maxDischargeDepth:=6) only[ab,ae,Nat.reduceEqDiff]
 ·rintro _ ⟨fr,dS,v1,v2,rfl,h0,h2,h3,h4,o2,o3,y6,wz⟩
  simp(maxDischargeDepth:=6) only[ah,ai,ab,ae,ak,reduceCtorEq,Nat.reduceLT,Nat.reduceEqDiff,eh,h0,h4,hl.lenI,Int.lt_irrefl]
  exact⟨_,_,(by simp:Out.ext 0≠ .nrm),rfl,rfl,o2,⟨v1,v2,o3,y6,wz⟩,rfl⟩
theorem QN:aa pE 104 [lT] []=some (.agg [jb l.length (ints ((cX l l.length).map (·.1))),jb l.length (ints ((cX l l.length).map (·.2)))],[]):=by
 have qa:=fun fr lh sh h0 h2 h3 h4 o2 o3=>ZN l lT cl hl dq hlen j7 1 1 fr lh sh h0 h2 h3 h4 o2 o3
 have hL:=fun fr lh sh h0 h2 h3 h4 o2 o3=>And.intro (qa fr lh sh h0 h2 h3 h4 o2 o3).1 (And.intro (qa fr lh sh h0 h2 h3 h4 o2 o3).2.1 (And.intro (vu (qa fr lh sh h0 h2 h3 h4 o2 o3).2.2.1).1 (qa fr lh sh h0 h2 h3 h4 o2 o3).2.2.2))
 have y6:=fun m keep cq e fr lh sh h0 h2 h3 h4 o2 o3=>bG.fzW (m:=m) (keep:=keep) (sh:=cq) (bG.congr (vu (qa fr lh sh h0 h2 h3 h4 o2 o3).2.2.1).2.1 (cK (k:=2) (m:=38) _ e (by decide)))
 have wz:=fun m keep cq e fr lh sh h0 h2 h3 h4 o2 o3=>bG.fzW (m:=m) (keep:=keep) (sh:=cq) (bG.congr (vu (qa fr lh sh h0 h2 h3 h4 o2 o3).2.2.1).2.2 (cK (k:=2) (m:=43) _ e (by decide)))
 rw[aD EW (by simp[Eo])]
 simp(maxDischargeDepth:=6) only[qF,ah,ai,ab,aj,ae,ak,Nat.reduceShiftRight,Nat.reduceMod,splice,Nat.reduceAdd,reduceCtorEq,Nat.reduceLT,Nat.reduceEqDiff,Eo,Cg,hL,y6,wz,K4]
theorem oz(scope:Int)(x:Ex)(cs:List T)(hx:bj x cs)(hn:0≤x.nodes)(hs:x.sm):aa pE 56 [lT,.i .i64 scope,.agg cs] []=some (.tup [.i .i64 (dT l scope x).1,.i .i64 (dT l scope x).2],[]):=by
 have hval:=pw x cs hx hs
 have QM:=QN l lT cl hl dq hlen j7
 have hO:aN (jb l.length (ints ((cX l l.length).map (·.1)))) l.length (ints ((cX l l.length).map (·.1))):=gV fun h0=>by rw[h0];rfl
 have Wb:aN (jb l.length (ints ((cX l l.length).map (·.2)))) l.length (ints ((cX l l.length).map (·.2))):=gV fun h0=>by rw[h0];rfl
 have dR:=fun(UW:bF x=0) hw=>Il l (cX l l.length) lT _ _ cl hl dq hlen (eH l _) (by rw[eH];exact hO) (by rw[eH];exact Wb) scope x cs hx (by have:=oA UW;omega) hw
 obtain⟨a,cc,rfl,ha,g5⟩:=hx.cells
 rw[aD OE (by simp[Q4])]
 unfold dT
 by_cases hv:bF x=0
 ·rw[if_neg (by simp[hv])]
  rw[hv]at hval
  have fy:x.wf=true:=by
   unfold bF at hv
   by_cases nH:sr x
   ·rw[if_pos nH]at hv;cases hv
   ·rw[if_neg nH]at hv
    cases hx:x.wf with
    |true=>rfl
    |false=>rw[hx]at hv;cases hv
  have dR:=dR hv fy
  generalize x.ty (po l (cX l l.length)) scope=q at dR ⊢
  simp(maxDischargeDepth:=6) only[qF,ah,ai,ab,aj,ae,ak,Nat.reduceAdd,reduceCtorEq,Nat.reduceLT,Nat.reduceEqDiff,bV,aV,Q4,hval,CA,ha.froz1,QM,Sc,Sd,hl.froz,dR,ET,EU,hO.froz1,Wb.froz1]
 ·rw[if_pos hv]
  generalize bF x=e at hval hv ⊢
  simp(maxDischargeDepth:=6) only[qF,ah,ai,ab,aj,ae,ak,Nat.reduceAdd,reduceCtorEq,Nat.reduceLT,Nat.reduceEqDiff,Q4,hval,CA,ha.froz1,hv]
end
end Go.Proofs.YtfenhjpkomldcaaGreat
namespace Go.Proofs.YtfenhjpkomldcaaGreat
open Go Go.Ev
theorem sG{α:Type}: ∀(A R:List α) (j:Nat) (vs:List α),splice (A++R) (A.length+j) vs=A++splice R j vs
 | [],R,j,vs=>by simp
 |a::A,R,j,vs=>by
  rw[List.cons_append,List.length_cons,show A.length+1+j=(A.length+j)+1 by omega,splice,sG A R j vs];rfl
theorem qi{α:Type}: ∀(z R vs:List α),vs.length=z.length→splice (z++R) 0 vs=vs++R
 | [],R,[],_=>by cases R <;> rfl
 |c::z,R,v::vs,h=>by rw[List.cons_append,splice,qi z R vs (by simpa using h)];rfl
theorem m6{α:Type}(A z R vs:List α)(k:Nat)(hk:A.length=k)(h:vs.length=z.length):splice (A++(z++R)) k vs=(A++vs)++R:=by
 have:=sG A (z++R) 0 vs
 rw[Nat.add_zero,hk]at this
 rw[this,qi z R vs h,List.append_assoc]
theorem mh{α:Type}(z:List α)(n:Nat):repl z (n+1)=z++repl z n:=rfl
theorem oy{α:Type}(z:List α): ∀n,(repl z n).length=n*z.length
 |0=>by simp[repl]
 |n+1=>by rw[mh,List.length_append,oy z n,Nat.succ_mul,Nat.add_comm]
def eS(l:Cs):Nat→List (List Nat×Nat)
 |0=> []
 |n+1=>match bJ (eS l n) (l.getD n ([],.mk 0 0 [] [])).1 with
  |none=>eS l n++ [((l.getD n ([],.mk 0 0 [] [])).1,n)]
  |some _=>eS l n
theorem uF(l:Cs){n:Nat}(h:n<l.length):eS l (n+1)=match bJ (eS l n) l[n].1 with
  |none=>eS l n++ [(l[n].1,n)]
  |some _=>eS l n:=by
 rw[eS];simp[List.getD_eq_getElem?_getD,List.getElem?_eq_getElem h]
theorem uG(s:List Nat)(c:List Nat×Ex): ∀l:Cs,cN (l++ [c]) s=match cN l s with|some i=>some i|none=>if c.1=s then some l.length else none
 | []=>by simp[cN]
 |d::l=>by
  rw[List.cons_append,cN,cN,uG s c l]
  by_cases h:d.1=s
  ·simp[h]
  ·rw[if_neg h,if_neg h]
   cases cN l s with
   |some i=>rfl
   |none=>by_cases h2:c.1=s <;> simp[h2]
theorem pC(l:Cs)(s:List Nat): ∀n,n≤l.length→bJ (eS l n) s=cN (l.take n) s
 |0,_=>by simp[eS,bJ,cN]
 |n+1,h=>by
  have hn:n<l.length:=by omega
  rw[uF l hn,List.take_succ_eq_append_getElem hn,uG]
  have ih:=pC l s n (by omega)
  have ih2:=pC l l[n].1 n (by omega)
  cases hl:bJ (eS l n) l[n].1 with
  |none=>
   simp only
   rw[iK,ih]
   cases cN (l.take n) s with
   |some i=>rfl
   |none=>
    simp only[List.length_take,Nat.min_eq_left (Nat.le_of_lt hn)]
    by_cases e:s=l[n].1
    ·simp[e]
    ·rw[if_neg e,if_neg (fun h=>e h.symm)]
  |some i=>
   simp only
   rw[ih]
   cases hi:cN (l.take n) s with
   |some j=>rfl
   |none=>
    simp only
    rw[if_neg]
    intro e
    rw[hl,e,hi]at ih2
    cases ih2
def sK(s:List Nat):T:= .s s
def nK(n:Nat):T:= .i .i64 (n:Int)
def iV(n:Int):T:= .i .i64 n
theorem Lv(a b:List Nat):mO (.one .str) (sK a) (sK b)=some (decide (a=b)):=Um
theorem VB(a b:Nat):mO (.one .int) (nK a) (nK b)=some (decide (a=b)):=by
 unfold nK;rw[Un];congr 1;rw[decide_eq_decide];omega
def qj(lT:T)(m:List (List Nat×Nat))(kn:List (Nat×Int)):List aA:=
 [⟨1,.map (m.map fun p=>sK p.1) (m.map fun p=>nK p.2) false⟩,⟨1,.map (kn.map fun p=>nK p.1) (kn.map fun p=>iV p.2) false⟩,⟨1,.cells [lT,.mp .S 0 1,.mp .S 1 1] 0 true⟩]
section
variable(lT:T)(m:List (List Nat×Nat))(kn:List (Nat×Int))
theorem VC:ch (qj lT m kn) 0=⟨1,.map (m.map fun p=>sK p.1) (m.map fun p=>nK p.2) false⟩:=nr rfl
theorem ZO:ch (qj lT m kn) 1=⟨1,.map (kn.map fun p=>nK p.1) (kn.map fun p=>iV p.2) false⟩:=nr rfl
theorem Oe:ch (qj lT m kn) 2=⟨1,.cells [lT,.mp .S 0 1,.mp .S 1 1] 0 true⟩:=nr rfl
theorem ZP(m':List (List Nat×Nat)):fO (qj lT m kn) 0 ⟨1,.map (m'.map fun p=>sK p.1) (m'.map fun p=>nK p.2) false⟩=qj lT m' kn:=nr rfl
theorem ZQ(g6:List (Nat×Int)):fO (qj lT m kn) 1 ⟨1,.map (g6.map fun p=>nK p.1) (g6.map fun p=>iV p.2) false⟩=qj lT m g6:=nr rfl
theorem VD:qj lT [] []= [⟨1,.map [] [] false⟩,⟨1,.map [] [] false⟩,⟨1,.cells [lT,.mp .S 0 1,.mp .S 1 1] 0 true⟩]:=nr rfl
end
def Rp(r:Option Nat):T:=match r with|some v=> .tup [nK v,.b true]|none=> .tup [.i .i64 0,.b false]
theorem lkS(m:List (List Nat×Nat))(s:List Nat):k8 (.one .str) (m.map fun p=>sK p.1) (m.map fun p=>nK p.2) (.s s) (.i .i64 0) true=some (Rp (bJ m s)):=by
 have:=P6 (kT:=sK) (vT:=nK) Lv (fun _=>rfl) m s (.i .i64 0)
 rw[show(T.s s)=sK s from rfl,this];unfold Rp;cases bJ m s <;> rfl
section
variable(l:Cs)(lT:T)(cl:List T)(hl:aN lT l.length cl)(dq:df l cl)(hlen:l.length≤gi)
include hl dq hlen
theorem ZR(fr:Fr)(lh:aQ aA)(sh:List aA)(iy:sh=qj lT [] [])
  (h3:an fr 3= .ptr .S 2 1 0) (Ax:an fr 13=lT) (ep:an fr 14= .i .i64 (l.length:Int)) (Ls:an fr 15= .i .i64 0):
  DC pE 41 (.loop jG) ⟨fr,lh,sh⟩=some (.ext 0,⟨ev pE 41 jG fr lh sh,eP pE 41 jG fr lh sh,eJ pE 41 jG fr lh sh⟩)∧
  (eJ pE 41 jG fr lh sh=qj lT (eS l l.length) []):=by
 refine a6 (P:=fun g7 dj cq=>cq=qj lT (eS l l.length) [])
  (bt (fun k st=> ∃(fr:Fr) (dS:aQ aA),st=⟨fr,dS,qj lT (eS l k) []⟩∧an fr 3= .ptr .S 2 1 0∧an fr 13=lT∧an fr 14= .i .i64 (l.length:Int)∧an fr 15= .i .i64 (k:Int)) _ l.length ?_ ?_ 0 _ (Nat.zero_le _) ⟨fr,lh,by rw[iy];rfl,h3,Ax,ep,Ls⟩)
 ·rintro k _ hk ⟨fr,dS,rfl,h3,Ax,ep,Ls⟩
  left
  have dN:(k:Int)<l.length:=by omega
  have hw:=cE (k:=k) (by omega)
  obtain⟨b,cb,r,cQ,fu,oq,hb⟩:=fZ hl dq k hk
  have oB:=lkS (eS l k) l[k].1
  rw[uF l hk]
  cases hq:bJ (eS l k) l[k].1 with
  |some i=>
   rw[hq]at oB
   unfold Rp at oB
   simp(maxDischargeDepth:=6) only[ah,ai,ab,aj,ae,ak,C6,splice,aY,aK,Nat.reduceAdd,Nat.reduceLT,Nat.reduceLeDiff,Nat.reduceEqDiff,bV,aV,im,jG,h3,Ax,ep,Ls,dN,cQ,hw,Oe,VC,gK,oB]
   refine⟨_,rfl,_,_,rfl, ?_, ?_, ?_, ?_⟩ <;> simp(maxDischargeDepth:=6) only[ab,ae,Nat.reduceEqDiff,h3,Ax,ep]
  |none=>
   rw[hq]at oB
   unfold Rp at oB
   have oT:nl (.one .str) (.s l[k].1) (.i .i64 (k:Int)) ((eS l k).map fun p=>sK p.1) ((eS l k).map fun p=>nK p.2)=_:=Ha (kT:=sK) (vT:=nK) Lv (eS l k) l[k].1 k hq
   simp(maxDischargeDepth:=6) only[ah,ai,ab,aj,ae,ak,C6,splice,aY,aK,Nat.reduceAdd,Nat.reduceLT,Nat.reduceLeDiff,Nat.reduceEqDiff,bV,aV,im,jG,h3,Ax,ep,Ls,dN,cQ,hw,Oe,VC,gK,oB,NH,oT,ZP]
   refine⟨_,rfl,_,_,rfl, ?_, ?_, ?_, ?_⟩ <;> simp(maxDischargeDepth:=6) only[ab,ae,Nat.reduceEqDiff,h3,Ax,ep]
 ·rintro _ ⟨fr,dS,rfl,h3,Ax,ep,Ls⟩
  simp(maxDischargeDepth:=6) only[ah,ai,ab,ae,ak,Nat.reduceLT,jG,ep,Ls,Int.lt_irrefl]
  exact⟨_,_,(by simp:Out.ext 0≠ .nrm),rfl,rfl,rfl⟩
theorem QO:aa pE 96 [lT] []=some (.ptr .S 2 1 0,qj lT (eS l l.length) []):=by
 have hL:=fun fr lh sh=>ZR l lT cl hl dq hlen fr lh sh
 rw[VD]at hL
 rw[aD ON (by simp[RB])]
 simp(maxDischargeDepth:=6) only[qF,ah,ai,ab,aj,ae,ak,Nat.reduceShiftRight,Nat.reduceMod,aG,splice,aF,Nat.reduceAdd,reduceCtorEq,Nat.reduceLT,Nat.reduceLeDiff,Nat.reduceEqDiff,pf,im,RB,En,hl.lenI,hl.cells,hl.noTup,hl.kept1,hL]
end
end Go.Proofs.YtfenhjpkomldcaaGreat
namespace Go.Proofs.YtfenhjpkomldcaaGreat
open Go Go.Ev
theorem yO(l:Cs)(n:Nat): ∀k,∃r,cX l (n+k)=cX l n++r
 |0=>⟨[],by simp⟩
 |k+1=>by
  obtain⟨r,h⟩:=yO l n k
  rw[←Nat.add_assoc,cX,h]
  exact⟨_,List.append_assoc _ _ _⟩
theorem sj(l:Cs){n i:Nat}(hn:n≤l.length)(hi:i<n):(cX l n).getD i (0,6)=(cX l l.length).getD i (0,6):=by
 obtain⟨r,h⟩:=yO l n (l.length-n)
 rw[show n+(l.length-n)=l.length by omega]at h
 rw[h,List.getD_eq_getElem?_getD,List.getD_eq_getElem?_getD,List.getElem?_append_left (by rw[eH];exact hi)]
def ow(l:Cs)(i:Nat):Int×Int:=(cX l l.length).getD i (0,6)
theorem vK(l:Cs){i:Nat}(hi:i<l.length):ow l i=ll (l.take i) (cX l i) l[i].2:=by
 unfold ow
 rw[←sj l (n:=i+1) (by omega) (by omega),mi l hi,List.getD_eq_getElem?_getD,List.getElem?_append_right (by rw[eH];omega),eH,Nat.sub_self]
 rfl
theorem QP{cl:List Nat→Int×Int}(dq: ∀s,(cl s).2≠0→(cl s).1=0)(scope:Int)(x:Ex)(h:(x.ty cl scope).2≠0):(x.ty cl scope).1=0:=by
 rw[Ex.ty_eq]at h ⊢
 by_cases h6:x.op=6
 ·rw[if_pos h6]at h ⊢
  by_cases hz:dE scope x.name≠0
  ·rw[if_pos hz]at h;exact absurd rfl h
  ·rw[if_neg hz]at h ⊢; exact dq _ h
 ·rw[if_neg h6]at h ⊢
  cases hr:fE cl scope x.args with
  |error e=>rfl
  |ok ts=>
   rw[hr]at h
   simp only at h ⊢
   split at h
   ·rename_i h0;rw[if_pos h0]
   ·exact absurd rfl h
theorem LU(l:Cs)(lN:List (Int×Int))(h: ∀t∈lN,t.2≠0→t.1=0)(s:List Nat):(po l lN s).2≠0→(po l lN s).1=0:=by
 unfold po
 cases cN l s with
 |none=>intro _;rfl
 |some i=>
  simp only
  rw[List.getD_eq_getElem?_getD]
  cases hi:lN[i]? with
  |none=>intro _;rfl
  |some t=>exact h t (List.mem_of_getElem? hi)
theorem sH(l:Cs): ∀n,∀t∈cX l n,t.2≠0→t.1=0
 |0=>by simp[cX]
 |n+1=>by
  intro t ht
  rw[cX]at ht
  rcases List.mem_append.1 ht with ht|ht
  ·exact sH l n t ht
  ·rw[List.mem_singleton]at ht
   subst ht
   unfold ll
   split
   ·intro _;rfl
   ·exact QP (LU _ _ (sH l n)) _ _
section
variable(l:Cs)(lT:T)(cl:List T)(hl:aN lT l.length cl)(dq:df l cl)(hlen:l.length≤gi)(j7:DQ l)
def pD(kn:List (Nat×Int)):Prop:= ∀i t,bJ kn i=some t→i<l.length∧ow l i=(t,0)
def QQ(j:Nat):Prop:= ∀kn,pD l kn→ ∃g6,aa pE 114 [.ptr .S 2 1 0,.i .i64 (j:Int)] (qj lT (eS l l.length) kn)=some (.tup [.i .i64 (ow l j).1,.i .i64 (ow l j).2],qj lT (eS l l.length) g6)∧pD l g6∧ ∀i,j<i→bJ g6 i=bJ kn i
def uf(n:Nat):List Nat→Int×Int:=po (l.take n) (cX l n)
def VE(n:Nat)(scope:Int)(y:Ex):Prop:= ∀kn,pD l kn→ ∀cs:List T,bj y cs→y.nodes≤100000→y.wf=true→ ∃g6,aa pE 142 [.ptr .S 2 1 0,.i .i64 scope,.i .i64 (n:Int),.agg cs] (qj lT (eS l l.length) kn)=some (.tup [.i .i64 (y.ty (uf l n) scope).1,.i .i64 (y.ty (uf l n) scope).2],qj lT (eS l l.length) g6)∧pD l g6∧ ∀i,n≤i→bJ g6 i=bJ kn i
include hl
theorem ZS(n:Nat)(scope:Int)(xs:List Ex)(ih: ∀y∈xs,VE l lT n scope y)(a:T)(cc:List T)(ha:aN a xs.length cc)(hx:aL xs cc)(hn:aR xs≤100000)(fy:fG xs=true)(kn:List (Nat×Int))(tj:pD l kn)(r:Except Int (List Int))(hr:r=fE (uf l n) scope xs)(o:Out)(ho:o=AK r)(g:Nat)(c7:aA)(fr:Fr)(lh:aQ aA)(sh:List aA)(iy:sh=qj lT (eS l l.length) kn)
  (h0:an fr 0= .ptr .S 2 1 0) (h1:an fr 1= .i .i64 scope) (h2:an fr 2= .i .i64 (n:Int)) (ep:an fr 14= .isl .L 57 g 0 xs.length 1) (qB:an fr 59=a) (pB:an fr 60= .i .i64 (xs.length:Int)) (qC:an fr 61= .i .i64 0) (wA:aE lh 57=⟨g,.cells (repl [.i .i64 0] xs.length) 0 false⟩) (o7:aE lh 7=c7):
  DC pE 89 (.loop ei) ⟨fr,lh,sh⟩=some (o,⟨ev pE 89 ei fr lh sh,eP pE 89 ei fr lh sh,eJ pE 89 ei fr lh sh⟩)∧
  ((∀e,r= .error e→an (ev pE 89 ei fr lh sh) 8= .i .i64 0∧an (ev pE 89 ei fr lh sh) 9= .i .i64 e)∧(∀ts,r= .ok ts→aE (eP pE 89 ei fr lh sh) 57=⟨g,.cells (ints ts) 0 false⟩)∧
    aE (eP pE 89 ei fr lh sh) 7=c7∧ ∃g6,eJ pE 89 ei fr lh sh=qj lT (eS l l.length) g6∧pD l g6∧ ∀i,n≤i→bJ g6 i=bJ kn i):=by
 have _:=hl
 refine a6 (P:=fun g7 dj cq=>(∀e,r= .error e→an g7 8= .i .i64 0∧an g7 9= .i .i64 e)∧(∀ts,r= .ok ts→aE dj 57=⟨g,.cells (ints ts) 0 false⟩)∧aE dj 7=c7∧ ∃g6,cq=qj lT (eS l l.length) g6∧pD l g6∧ ∀i,n≤i→bJ g6 i=bJ kn i)
  (bt (fun k st=> ∃(fr:Fr) (dS:aQ aA) (ts:List Int) (QR:List (Nat×Int)),st=⟨fr,dS,qj lT (eS l l.length) QR⟩∧an fr 0= .ptr .S 2 1 0∧an fr 1= .i .i64 scope∧an fr 2= .i .i64 (n:Int)∧an fr 14= .isl .L 57 g 0 xs.length 1∧an fr 59=a∧an fr 60= .i .i64 (xs.length:Int)∧an fr 61= .i .i64 (k:Int)∧aE dS 7=c7∧
    aE dS 57=⟨g,.cells (ints ts++repl [.i .i64 0] (xs.length-k)) 0 false⟩∧ts.length=k∧r=wa ts (fE (uf l n) scope (xs.drop k))∧pD l QR∧ ∀i,n≤i→bJ QR i=bJ kn i) _ xs.length ?_ ?_ 0 _ (Nat.zero_le _) ⟨fr,lh,[],kn,by rw[iy],h0,h1,h2,ep,qB,pB,qC,o7,by rw[wA];rfl,rfl,by rw[hr,List.drop_zero];cases fE (uf l n) scope xs <;> rfl,tj,fun _ _=>rfl⟩)
 ·rintro k _ lr ⟨fr,dS,ts,QR,rfl,h0,h1,h2,ep,qB,pB,qC,o7,wA,gI,dR,QS,yl⟩
  have dN:(k:Int)<xs.length:=by omega
  have nR:=bE xs
  have NP:=cB (List.getElem_mem lr)
  have hw:=cE (k:=k) (c5 (by omega))
  obtain⟨b,cb,rr,cQ,fu,oq,hb⟩:=dV ha hx k lr
  obtain⟨kn2,aB,VF,Ln⟩:=ih xs[k] (List.getElem_mem lr) QR QS _ hb (by omega) (gL.1 fy _ (List.getElem_mem lr))
  rw[yN lr]at dR
  by_cases hf:(xs[k].ty (uf l n) scope).2=0
  ·left
   rw[if_neg (by simp[hf]),uE]at dR
   generalize xs[k].ty (uf l n) scope=q at aB hf dR
   obtain⟨q1,q2⟩:=q
   simp only at aB hf dR
   subst hf
   have Pb:(ints ts++repl [T.i .i64 0] (xs.length-k)).length=xs.length:=by rw[List.length_append,iY,oy,gI];simp;omega
   have NJ:splice (ints ts++repl [T.i .i64 0] (xs.length-k)) k [.i .i64 q1]=ints (ts++ [q1])++repl [T.i .i64 0] (xs.length-(k+1)):=by
    rw[show xs.length-k=(xs.length-(k+1))+1 by omega,mh,m6 (ints ts) [T.i .i64 0] _ [T.i .i64 q1] k (by rw[iY];exact gI) rfl,j6]
   have HB:k+1≤xs.length:=by omega
   simp(maxDischargeDepth:=6) only[qF,ah,ai,ab,aj,ae,ak,splice,Nat.reduceAdd,reduceCtorEq,Nat.reduceLT,Nat.reduceLeDiff,Nat.reduceEqDiff,im,ei,h0,h1,h2,ep,qB,pB,qC,wA,dN,cQ,hw,aB,E5,fu.kept1,lr,Pb,NJ,HB]
   refine⟨_,rfl,_,_,ts++ [q1],kn2,rfl, ?_, ?_, ?_, ?_, ?_, ?_, ?_, ?_, ?_,by simp[gI],dR,VF,fun i hi=>by rw[Ln i hi,yl i hi]⟩
   all_goals first|(simp(maxDischargeDepth:=6) only[ab,ae,reduceCtorEq,Nat.reduceEqDiff,h0,h1,h2,ep,qB,pB,o7];done)|skip
  ·right
   rw[if_pos (by simp[hf])]at dR
   generalize xs[k].ty (uf l n) scope=q at aB hf dR
   obtain⟨q1,q2⟩:=q
   simp only at aB hf dR
   simp(maxDischargeDepth:=6) only[qF,ah,ai,ab,aj,ae,ak,splice,Nat.reduceAdd,reduceCtorEq,Nat.reduceLT,Nat.reduceLeDiff,Nat.reduceEqDiff,im,ei,h0,h1,h2,qB,pB,qC,dN,cQ,aB,E5,fu.kept1,hf]
   refine⟨_,_,(by simp:Out.ret≠ .nrm),rfl,by rw[ho,dR];rfl,fun e he=> ?_,fun t ht=>(by rw[dR]at ht;cases ht),by simp(maxDischargeDepth:=6) only[ab,ae,Nat.reduceEqDiff,o7],kn2,rfl,VF,fun i hi=>by rw[Ln i hi,yl i hi]⟩
   rw[dR]at he
   cases he
   exact⟨by simp(maxDischargeDepth:=6) only[ab,ae,Nat.reduceEqDiff],by simp(maxDischargeDepth:=6) only[ab]⟩
 ·rintro _ ⟨fr,dS,ts,QR,rfl,h0,h1,h2,ep,qB,pB,qC,o7,wA,gI,dR,QS,yl⟩
  rw[List.drop_length,fE,wa,List.append_nil]at dR
  rw[Nat.sub_self,show repl [T.i .i64 0] 0= []from rfl,List.append_nil]at wA
  simp(maxDischargeDepth:=6) only[ah,ai,ab,ae,ak,Nat.reduceLT,ei,pB,qC,Int.lt_irrefl]
  refine⟨_,_,(by simp:Out.ext 0≠ .nrm),rfl,by rw[ho,dR];rfl,fun e he=>(by rw[dR]at he;cases he),fun t ht=> ?_,o7,QR,rfl,QS,yl⟩
  rw[dR]at ht
  cases ht
  exact wA
include dq hlen
theorem QT(n:Nat)(m9:n≤l.length)(hc: ∀j,j<n→QQ l lT j)(scope:Int)(x:Ex):VE l lT n scope x:=by
 have _:=hlen
 have _:=dq
 induction x using Ex.ind with
 |h x ih=>
  intro kn tj cs hx hn fy
  obtain⟨a,cc,rfl,ha,g5⟩:=hx.cells
  rw[aD Ml (by simp[qU]),Ex.ty_eq]
  have hnd:=x.nodes_eq
  rw[Ex.wf_eq,Bool.and_eq_true]at fy
  obtain⟨iE,jC⟩:=fy
  have gm:=xY scope x.name
  have sM:=bE x.args
  have qA:x.args.length≤gi:=c5 (by omega)
  simp only[fe,Bool.and_eq_true,decide_eq_true_eq]at iE
  obtain⟨Im,Io,aX,_,_⟩:=iE
  by_cases h6:x.op=6
  ·rw[if_pos h6]
   unfold k6 at gm
   by_cases hz:dE scope x.name=0
   ·rw[if_neg (by simp[hz])]
    rw[if_pos hz,hz]at gm
    have oB:=lkS (eS l l.length) x.name
    rw[pC l x.name l.length (Nat.le_refl _),List.take_length]at oB
    have IC:uf l n x.name=match cN l x.name with|some i=>if i<n then ow l i else(0,6)|none=>(0,6):=by
     unfold uf po
     rw[mc]
     cases hi:cN l x.name with
     |none=>rfl
     |some i=>
      simp only
      by_cases kH:i<n
      ·rw[if_pos kH,if_pos kH];exact sj l m9 kH
      ·rw[if_neg kH,if_neg kH]
    rw[IC]
    cases hi:cN l x.name with
    |none=>
     rw[hi]at oB
     unfold Rp at oB
     simp(maxDischargeDepth:=6) only[qF,ah,ai,ab,aj,ae,ak,C6,aY,aK,Nat.reduceAdd,reduceCtorEq,Nat.reduceLT,Nat.reduceEqDiff,Int.reduceEq,qU,h6,gm,CC,Oe,VC,gK,oB]
     exact⟨kn,rfl,tj,fun _ _=>rfl⟩
    |some i=>
     rw[hi]at oB
     rw[show Rp (some i)= .tup [.i .i64 (i:Int),.b true]from rfl]at oB
     by_cases kH:i<n
     ·obtain⟨g6,aB,LV,Ip⟩:=hc i kH kn tj
      have QU:(i:Int)<n:=by omega
      simp only[kH,if_true]
      simp(maxDischargeDepth:=6) only[qF,ah,ai,ab,aj,ae,ak,C6,aY,aK,Nat.reduceAdd,reduceCtorEq,Nat.reduceLT,Nat.reduceEqDiff,Int.reduceEq,im,qU,h6,gm,CC,Oe,VC,gK,oB,QU,aB,Sj]
      exact⟨g6,rfl,LV,fun j hj=>Ip j (by omega)⟩
     ·have QU: ¬(i:Int)<n:=by omega
      simp only[kH,if_false]
      simp(maxDischargeDepth:=6) only[qF,ah,ai,ab,aj,ae,ak,C6,aY,aK,Nat.reduceAdd,reduceCtorEq,Nat.reduceLT,Nat.reduceEqDiff,Int.reduceEq,qU,h6,gm,CC,Oe,VC,gK,oB,QU]
      exact⟨kn,rfl,tj,fun _ _=>rfl⟩
   ·rw[if_pos hz]
    rw[if_neg hz]at gm
    simp(maxDischargeDepth:=6) only[qF,ah,ai,ab,aj,ae,ak,Nat.reduceAdd,reduceCtorEq,Nat.reduceLT,Nat.reduceEqDiff,qU,h6,gm,CC]
    exact⟨kn,rfl,tj,fun _ _=>rfl⟩
  ·rw[if_neg h6]
   have hL:=fun c7 fr lh sh iy h0 h1 h2 ep qB pB qC wA o7=>ZS l lT cl hl n scope x.args (fun y hy=>ih y hy) a cc ha g5 (by omega) jC kn tj _ rfl _ rfl 1 c7 fr lh sh iy h0 h1 h2 ep qB pB qC wA o7
   have Qo:x.args.length*8≤roomy∧x.args.length≤roomy:=by unfold gi at qA;unfold roomy;omega
   have hS:=fun c7 fr lh sh iy h0 h1 h2 ep qB pB qC wA o7=>(hL c7 fr lh sh iy h0 h1 h2 ep qB pB qC wA o7).2.2.2.2
   cases hr:fE (uf l n) scope x.args with
   |error e=>
    have Ej:=fun c7 fr lh sh iy h0 h1 h2 ep qB pB qC wA o7=>And.intro (hL c7 fr lh sh iy h0 h1 h2 ep qB pB qC wA o7).1 ((hL c7 fr lh sh iy h0 h1 h2 ep qB pB qC wA o7).2.1 e hr)
    simp only[hr,AK]at Ej
    simp(maxDischargeDepth:=6) only[qF,ah,ai,ab,aj,ae,ak,rO,vg,Nat.reduceAdd,reduceCtorEq,Nat.reduceLT,Nat.reduceEqDiff,qU,h6,ha.lenI,Qo,Ej]
    generalize hX:eJ _ _ _ _ _ _=X
    obtain⟨g6,e1,e2,e3⟩: ∃g6,X=qj lT (eS l l.length) g6∧pD l g6∧ ∀i,n≤i→bJ g6 i=bJ kn i:=by
     rw[←hX]
     refine hS _ _ _ _ rfl ?_ ?_ ?_ ?_ ?_ ?_ ?_ ?_ rfl <;> simp(maxDischargeDepth:=6) only[ab,ae,reduceCtorEq,Nat.reduceEqDiff]
    rw[e1];exact⟨g6,rfl,e2,e3⟩
   |ok ts=>
    have sF:=mb hr
    have Ej:=fun c7 fr lh sh iy h0 h1 h2 ep qB pB qC wA o7=>And.intro (hL c7 fr lh sh iy h0 h1 h2 ep qB pB qC wA o7).1 (hL c7 fr lh sh iy h0 h1 h2 ep qB pB qC wA o7).2.2.2.1
    have hF:=fun c7 fr lh sh iy h0 h1 h2 ep qB pB qC wA o7=>(hL c7 fr lh sh iy h0 h1 h2 ep qB pB qC wA o7).2.2.1 ts hr
    have lf:(ints ts).length=x.args.length:=by rw[iY,sF]
    have hit:List.take x.args.length (ints ts)=ints ts:=List.take_of_length_le (by omega)
    simp only[hr,AK]at Ej
    have my:=AI x.op ts (.sl (ints ts) x.args.length false) (Or.inr ⟨false,by rw[sF]⟩) (by rw[sF];exact qA) Im Io h6 (by rw[sF];exact aX)
    by_cases hz:dk x.op ts=0
    ·rw[hz]at my
     simp(maxDischargeDepth:=6) only[qF,ah,ai,ab,aj,ae,ak,Nat.reduceShiftRight,Nat.reduceMod,rO,vg,Nat.reduceAdd,reduceCtorEq,Nat.reduceLT,Nat.reduceEqDiff,qU,tn,h6,ha.lenI,Qo,Ej ⟨1,.cells [.i .i64 x.op,.i .i64 x.num,.s x.name,a] 0 true⟩,hF ⟨1,.cells [.i .i64 x.op,.i .i64 x.num,.s x.name,a] 0 true⟩,my,MW,hz,lf,hit]
     generalize hX:eJ _ _ _ _ _ _=X
     obtain⟨g6,e1,e2,e3⟩: ∃g6,X=qj lT (eS l l.length) g6∧pD l g6∧ ∀i,n≤i→bJ g6 i=bJ kn i:=by
      rw[←hX]
      refine hS _ _ _ _ rfl ?_ ?_ ?_ ?_ ?_ ?_ ?_ ?_ rfl <;> simp(maxDischargeDepth:=6) only[ab,ae,reduceCtorEq,Nat.reduceEqDiff]
     rw[e1];exact⟨g6,rfl,e2,e3⟩
    ·simp(maxDischargeDepth:=6) only[qF,ah,ai,ab,aj,ae,ak,Nat.reduceShiftRight,Nat.reduceMod,rO,vg,Nat.reduceAdd,reduceCtorEq,Nat.reduceLT,Nat.reduceEqDiff,qU,tn,h6,ha.lenI,Qo,Ej ⟨1,.cells [.i .i64 x.op,.i .i64 x.num,.s x.name,a] 0 true⟩,hF ⟨1,.cells [.i .i64 x.op,.i .i64 x.num,.s x.name,a] 0 true⟩,my,MW,hz,lf,hit]
     generalize hX:eJ _ _ _ _ _ _=X
     obtain⟨g6,e1,e2,e3⟩: ∃g6,X=qj lT (eS l l.length) g6∧pD l g6∧ ∀i,n≤i→bJ g6 i=bJ kn i:=by
      rw[←hX]
      refine hS _ _ _ _ rfl ?_ ?_ ?_ ?_ ?_ ?_ ?_ ?_ rfl <;> simp(maxDischargeDepth:=6) only[ab,ae,reduceCtorEq,Nat.reduceEqDiff]
     rw[e1];exact⟨g6,rfl,e2,e3⟩
end
end Go.Proofs.YtfenhjpkomldcaaGreat
namespace Go.Proofs.YtfenhjpkomldcaaGreat
open Go Go.Ev
theorem gZ{x:Ex}(hv:bF x=0):x.wf=true:=by
 unfold bF at hv
 by_cases nH:sr x
 ·rw[if_pos nH]at hv;cases hv
 ·rw[if_neg nH]at hv
  cases hx:x.wf with
  |true=>rfl
  |false=>rw[hx]at hv;cases hv
section
variable(l:Cs)(lT:T)(cl:List T)(hl:aN lT l.length cl)(dq:df l cl)(hlen:l.length≤gi)(j7:DQ l)
include hl dq hlen
def D7(n:Nat)(scope:Int)(x:Ex):Int×Int:=if bF x≠0 then(0,bF x)else x.ty (uf l n) scope
theorem Iq(n:Nat)(m9:n≤l.length)(hc: ∀j,j<n→QQ l lT j)(scope:Int)(x:Ex)(cs:List T)(hx:bj x cs)(hn:0≤x.nodes)(hs:x.sm)(kn:List (Nat×Int))(tj:pD l kn):
  ∃g6,aa pE 97 [.ptr .S 2 1 0,.i .i64 scope,.i .i64 (n:Int),.agg cs] (qj lT (eS l l.length) kn)=some (.tup [.i .i64 (D7 l n scope x).1,.i .i64 (D7 l n scope x).2],qj lT (eS l l.length) g6)∧pD l g6∧ ∀i,n≤i→bJ g6 i=bJ kn i:=by
 have hval:=fun z fr lh sh=>uk (z:=z) (fr:=fr) (lh:=lh) (sh:=sh) x cs hx hn hs
 have fo:=fun h=>QT l lT cl hl dq hlen n m9 hc scope x kn tj cs hx h
 obtain⟨a,cc,rfl,ha,g5⟩:=hx.cells
 rw[aD OO (by simp[Q5])]
 unfold D7
 by_cases hv:bF x=0
 ·rw[if_neg (by simp[hv])]
  obtain⟨g6,aB,h2,h3⟩:=fo (by have:=oA hv;omega) (gZ hv)
  rw[hv]at hval
  simp(maxDischargeDepth:=6) only[qF,ah,ai,ab,aj,ae,ak,Nat.reduceAdd,reduceCtorEq,Nat.reduceLT,Nat.reduceEqDiff,im,Q5,hval,aB,E5,ha.kept1]
  exact⟨g6,rfl,h2,h3⟩
 ·rw[if_pos hv]
  generalize bF x=e at hval hv ⊢
  simp(maxDischargeDepth:=6) only[qF,ah,ai,ab,aj,ae,ak,Nat.reduceAdd,reduceCtorEq,Nat.reduceLT,Nat.reduceEqDiff,Q5,hval,hv]
  exact⟨kn,rfl,tj,fun _ _=>rfl⟩
include j7
theorem QV: ∀j,j<l.length→QQ l lT j:=by
 intro j
 induction j using Nat.strongRecOn with
 |ind j ih=>
  intro hj kn tj
  obtain⟨b,cb,r,cQ,fu,oq,hb⟩:=fZ hl dq j hj
  obtain⟨Rj,Qr⟩:=j7 l[j] (List.getElem_mem hj)
  obtain⟨g6,aB,LV,Ip⟩:=Iq l lT cl hl dq hlen j (by omega) (fun i hi=>ih i hi (by omega)) 0 l[j].2 _ hb Rj Qr kn tj
  have qx:ow l j=D7 l j 0 l[j].2:=by rw[vK l hj];rfl
  rw[←qx]at aB
  have LW:(ow l j).2≠0→(ow l j).1=0:=by
   unfold ow
   rw[List.getD_eq_getElem?_getD,List.getElem?_eq_getElem (by rw[eH];exact hj)]
   exact sH l _ _ (List.getElem_mem _)
  have oB:k8 (.one .int) (kn.map fun p=>nK p.1) (kn.map fun p=>iV p.2) (.i .i64 (j:Int)) (.i .i64 0) true=_:=P6 (kT:=nK) (vT:=iV) VB (fun _=>rfl) kn j (.i .i64 0)
  rw[aD Me (by simp[za])]
  cases hq:bJ kn j with
  |some t=>
   obtain⟨_,ht⟩:=tj j t hq
   rw[hq]at oB
   simp only[show iV t= .i .i64 t from rfl]at oB
   rw[ht]
   simp(maxDischargeDepth:=6) only[qF,ah,ai,ab,aj,ae,C6,reduceCtorEq,Nat.reduceLT,Nat.reduceEqDiff,za,Oe,ZO,gK,oB]
   exact⟨kn,rfl,tj,fun _ _=>rfl⟩
  |none=>
   rw[hq]at oB
   generalize he:ow l j=q at aB LW ⊢
   obtain⟨q1,q2⟩:=q
   simp only at aB LW ⊢
   by_cases h0:q2=0
   ·subst h0
    have iE:bJ g6 j=none:=by rw[Ip j (Nat.le_refl _),hq]
    have oT:nl (.one .int) (.i .i64 (j:Int)) (.i .i64 q1) (g6.map fun p=>nK p.1) (g6.map fun p=>iV p.2)=_:=Ha (kT:=nK) (vT:=iV) VB g6 j q1 iE
    simp(maxDischargeDepth:=6) only[qF,ah,ai,ab,aj,ae,ak,C6,reduceCtorEq,Nat.reduceLT,Nat.reduceLeDiff,Nat.reduceEqDiff,im,za,Oe,ZO,gK,oB,cQ,fu.kept1,aB,OP,Uo,oT,ZQ]
    refine⟨_,rfl, ?_, ?_⟩
    ·intro i t hi
     rw[iK]at hi
     cases Bs:bJ g6 i with
     |some u=>rw[Bs]at hi;cases hi;exact LV i _ Bs
     |none=>
      rw[Bs]at hi
      simp only at hi
      split at hi
      ·rename_i e;subst e;cases hi;exact⟨hj,he⟩
      ·cases hi
    ·intro i hi
     rw[iK,Ip i (by omega)]
     cases bJ kn i with
     |some u=>rfl
     |none=>simp only;rw[if_neg (by omega)]
   ·rw[LW h0]
    rw[LW h0]at aB
    simp(maxDischargeDepth:=6) only[qF,ah,ai,ab,aj,ae,ak,C6,reduceCtorEq,Nat.reduceLT,Nat.reduceLeDiff,Nat.reduceEqDiff,im,za,Oe,ZO,gK,oB,cQ,fu.kept1,aB,OP,h0]
    exact⟨g6,rfl,LV,fun i hi=>Ip i (by omega)⟩
theorem HO(scope:Int)(x:Ex)(cs:List T)(hx:bj x cs)(hn:0≤x.nodes)(hs:x.sm): ∃s,aa pE 52 [lT,.i .i64 scope,.agg cs] []=some (.tup [.i .i64 (dT l scope x).1,.i .i64 (dT l scope x).2],s):=by
 obtain⟨g6,aB,_,_⟩:=Iq l lT cl hl dq hlen l.length (Nat.le_refl _) (fun j hj=>QV l lT cl hl dq hlen j7 j hj) scope x cs hx hn hs [] (fun i t h=>by simp[bJ]at h)
 have ZT:=QO l lT cl hl dq hlen
 have he:D7 l l.length scope x=dT l scope x:=by unfold D7 dT uf;rw[List.take_length]
 rw[he]at aB
 obtain⟨a,cc,rfl,ha,g5⟩:=hx.cells
 rw[aD RP (by simp[Rw])]
 simp(maxDischargeDepth:=6) only[qF,ah,ai,ab,aj,ae,ak,Nat.reduceAdd,reduceCtorEq,Nat.reduceLT,Nat.reduceEqDiff,bV,aV,im,Rw,ZT,Yh,Yi,hl.kept,hl.lenI,ha.kept1,aB,OP,Yj]
 exact⟨_,rfl⟩
end
end Go.Proofs.YtfenhjpkomldcaaGreat
