/- Constants and their values; simplified forms by them. The size of simplified forms. The program's simplifier: the loop over arguments. The program's simplifier. Conditions: the theorems' own. -/
import Derived.Test.YtfenhjpkomldcaaGreatM10
import Derived.KernelRfl
set_option maxRecDepth 100000
set_option linter.unusedSimpArgs false
set_option linter.unusedVariables false
set_option maxHeartbeats 16000000
namespace Go.Proofs.YtfenhjpkomldcaaGreat
open Go Go.Ev
mutual
def Ex.val0(vx:List Nat→Int):Ex→Int
 | .mk op num name args=>if op=6 then vx name else if op=1∨op=2∨op=3 then num else if op=4 then 1 else if op=5 then 0 else ry op (gR vx args)
def gR(vx:List Nat→Int):List Ex→List Int
 | []=> []
 |x::xs=>x.val0 vx::gR vx xs
end
theorem Ex.val0_eq(vx:List Nat→Int)(x:Ex):x.val0 vx=if x.op=6 then vx x.name else if x.op=1∨x.op=2∨x.op=3 then x.num else if x.op=4 then 1 else if x.op=5 then 0 else ry x.op (gR vx x.args):=by obtain⟨_,_,_,_⟩:=x;rw[Ex.val0];rfl
theorem oO(vx:List Nat→Int): ∀xs,gR vx xs=xs.map (Ex.val0 vx)
 | []=>rfl
 |x::xs=>by rw[gR,oO vx xs];rfl
def GX(cl:List Nat→Int×Int)(vx:List Nat→Int)(s:List Nat):Ex:=fo (cl s).1 (vx s)
def KP(cl:List Nat→Int×Int)(vx:List Nat→Int):Prop:= ∀s t,cl s=(t,0)→Dk t (vx s)
theorem Dl{cl:List Nat→Int×Int}{vx:List Nat→Int}(h:KP cl vx):T3 cl (GX cl vx):=fun s t hs=>⟨vx s,by unfold GX;rw[hs],h s t hs⟩
theorem KQ{cl:List Nat→Int×Int}{scope:Int}{x:Ex}{k:Int}(gK:x.wf=true)(ht:x.ty cl scope=(k,0))(h6:x.op≠6)(wz:x.args= []):x=fo k (if x.op=1∨x.op=2∨x.op=3 then x.num else if x.op=4 then 1 else 0)∧Dk k (if x.op=1∨x.op=2∨x.op=3 then x.num else if x.op=4 then 1 else 0)∧x.op≤5:=by
 obtain⟨h1,h2,bo,gJ,jT,lD⟩:=fk gK
 have h5:x.op≤6:=OM h2 bo (by rw[wz];rfl)
 rw[Ex.ty_eq,if_neg h6,wz,gS]at ht
 rw[if_neg h6]at jT
 obtain⟨op,num,name,args⟩:=x
 simp only[Ex.op,Ex.num,Ex.name,Ex.args]at*
 subst jT wz
 have jo:op=1∨op=2∨op=3∨op=4∨op=5:=by omega
 rcases jo with rfl|rfl|rfl|rfl|rfl
 all_goals
  simp[dJ]at ht
  subst ht
  simp[iA]at gJ
 ·refine⟨?_,.inl ⟨.inl rfl, ?_⟩,by decide⟩
  ·simp[fo,bN];omega
  ·simp[bd];omega
 ·refine⟨?_,.inl ⟨.inr rfl, ?_⟩,by decide⟩
  ·simp[fo,bN];omega
  ·simp[bd];omega
 ·refine⟨?_,.inr (.inl ⟨rfl, ?_⟩),by decide⟩
  ·simp[fo,bN]
  ·simpa using gJ
 ·refine⟨?_,.inr (.inr ⟨rfl,.inr rfl⟩),by decide⟩
  simp[fo,bN];omega
 ·refine⟨?_,.inr (.inr ⟨rfl,.inl rfl⟩),by decide⟩
  simp[fo,bN];omega
theorem ES{cl:List Nat→Int×Int}{vx:List Nat→Int}(hc:KP cl vx)(scope:Int)(jx: ∀s,dI scope s=0)(x:Ex): ∀k,x.wf=true→x.ty cl scope=(k,0)→x.fold cl (GX cl vx) scope=fo k (x.val0 vx)∧Dk k (x.val0 vx):=by
 induction x using Ex.ind with
 |h x ih=>
  intro k gK ht
  obtain⟨h1,h2,bo,gJ,jT,lD⟩:=fk gK
  rw[Ex.fold_eq,Ex.val0_eq]
  by_cases h6:x.op=6
  ·rw[if_pos h6,if_pos h6]
   rw[Ex.ty_eq,if_pos h6,if_neg (by simp[jx])]at ht
   rw[if_neg (by simp[jx])]
   exact⟨by unfold GX;rw[ht],hc _ _ ht⟩
  rw[if_neg h6,if_neg h6]
  by_cases he:x.args.isEmpty=true
  ·rw[if_pos he]
   have wz:x.args= []:=by simpa using he
   obtain⟨e1,e2,e3⟩:=KQ gK ht h6 wz
   by_cases hq:x.op=1∨x.op=2∨x.op=3
   ·rw[if_pos hq]at e1 e2 ⊢; exact⟨e1,e2⟩
   ·rw[if_neg hq]at e1 e2 ⊢
    by_cases h4:x.op=4
    ·rw[if_pos h4]at e1 e2 ⊢; exact⟨e1,e2⟩
    ·rw[if_neg h4]at e1 e2 ⊢
     rw[if_pos (by omega)];exact⟨e1,e2⟩
  ·rw[if_neg he]
   have ev:x.args.length≠0:=by
    intro h;exact he (by simp[List.length_eq_zero_iff.1 h])
   have h7:=yW h1 bo ev
   obtain⟨ts,je,hr,hk⟩:=ng ht h6
   have pB:ra ts (gR vx x.args)∧(dM cl (GX cl vx) scope x.args).all isLit=true∧(dM cl (GX cl vx) scope x.args).map kZ=gR vx x.args:=by
    clear ht bo ev he hr gK gJ jT
    generalize x.args=xs at ih je lD
    induction xs generalizing ts with
    |nil=>rw[gS]at je;cases je;exact⟨trivial,rfl,rfl⟩
    |cons z zs ON=>
     obtain⟨t,us,rfl,e1,e2⟩:=js je
     rw[gT,Bool.and_eq_true]at lD
     obtain⟨f1,f2⟩:=ih z (by simp) t lD.1 e1
     obtain⟨g1,g2,g3⟩:=ON us (fun y hy=>ih y (by simp[hy])) e2 lD.2
     rw[dM,gR,f1]
     obtain⟨_,q1,q2⟩:=tM (scope:=scope) f2
     refine⟨⟨f2,g1⟩, ?_, ?_⟩
     ·rw[List.all_cons,q1,g2];rfl
     ·rw[List.map_cons,q2,g3]
   obtain⟨i1,i2,i3⟩:=pB
   have hlen:ts.length=x.args.length:=oP je
   rw[if_pos i2,i3,ht,if_neg (by omega),if_neg (by omega),if_neg (by omega)]
   exact⟨rfl,(Bl i1 h7 h2 (by rw[hlen];exact bo) hr hk).2⟩
def LY(l:Cs)(oh:List Int)(s:List Nat):Int:=match de l s with
 |none=>0
 |some i=>oh.getD i 0
def oj(l:Cs):Nat→List Int
 |0=> []
 |n+1=>oj l n++ [if(nI (l.take n) (dv l n) (l.getD n ([],.mk 0 0 [] [])).2).2=0 then(l.getD n ([],.mk 0 0 [] [])).2.val0 (LY (l.take n) (oj l n))else 0]
theorem gE(l:Cs): ∀n,(oj l n).length=n
 |0=>rfl
 |n+1=>by rw[oj,List.length_append,gE l n];rfl
theorem Bq(l:Cs){n:Nat}(h:n<l.length):oj l (n+1)=oj l n++ [if(nI (l.take n) (dv l n) l[n].2).2=0 then l[n].2.val0 (LY (l.take n) (oj l n))else 0]:=by
 rw[oj,List.getD_eq_getElem?_getD,List.getElem?_eq_getElem h];rfl
theorem ET(l:Cs)(n:Nat): ∀k,∃r,oj l (n+k)=oj l n++r
 |0=>⟨[],by simp⟩
 |k+1=>by
  obtain⟨r,h⟩:=ET l n k
  rw[←Nat.add_assoc,oj,h]
  exact⟨_,List.append_assoc _ _ _⟩
theorem EU(l:Cs){n i:Nat}(hn:n≤l.length)(hi:i<n):(oj l n).getD i 0=(oj l l.length).getD i 0:=by
 obtain⟨r,h⟩:=ET l n (l.length-n)
 rw[show n+(l.length-n)=l.length by omega]at h
 rw[h,List.getD_eq_getElem?_getD,List.getD_eq_getElem?_getD,List.getElem?_append_left (by rw[gE];exact hi)]
def CL(l:Cs)(n:Nat):List Nat→Int×Int:=rZ (l.take n) (dv l n)
def VX(l:Cs)(n:Nat):List Nat→Int:=LY (l.take n) (oj l n)
def xB(l:Cs):List Nat→Int×Int:=rZ l (dv l l.length)
def vV(l:Cs):List Nat→Int:=LY l (oj l l.length)
theorem Dm(l:Cs):CL l l.length=xB l:=by unfold CL xB;rw[List.take_length]
theorem T6(l:Cs):VX l l.length=vV l:=by unfold VX vV;rw[List.take_length]
theorem rb{l:Cs}{n:Nat}(hn:n≤l.length){s:List Nat}{t:Int}(h:CL l n s=(t,0)): ∃i,∃hi:i<l.length,i<n∧de l s=some i∧aW l[i].2=0∧l[i].2.ty (CL l i) 0=(t,0)∧xB l s=(t,0)∧VX l n s=l[i].2.val0 (VX l i)∧vV l s=l[i].2.val0 (VX l i)∧nJ l i=(t,0):=by
 unfold CL rZ at h
 rw[oQ]at h
 cases hd:de l s with
 |none=>rw[hd]at h;simp at h
 |some i=>
  rw[hd]at h
  simp only at h
  by_cases hi:i<n
  ·rw[if_pos hi]at h
   simp only at h
   have nG:i<l.length:=yX hd
   rw[vv l hn hi]at h
   have he:nJ l i=(t,0):=h
   have nM:=he
   rw[tN l nG]at he
   have tq:=he
   unfold nI at he
   by_cases hv:aW l[i].2≠0
   ·rw[if_pos hv]at he;injection he with _ he;exact absurd he hv
   ·rw[if_neg hv]at he
    have mh:(oj l l.length).getD i 0=l[i].2.val0 (VX l i):=by
     rw[←EU l (n:=i+1) (by omega) (by omega),Bq l nG,List.getD_eq_getElem?_getD,List.getElem?_append_right (by rw[gE];omega),gE,Nat.sub_self,tq]
     rfl
    refine⟨i,nG,hi,rfl,by simpa using hv,he, ?_, ?_, ?_,nM⟩
    ·unfold xB rZ;rw[hd];exact h
    ·unfold VX LY
     rw[oQ,hd]
     simp only[if_pos hi]
     rw[EU l hn hi,mh];rfl
    ·unfold vV LY;rw[hd];exact mh
  ·rw[if_neg hi]at h;simp at h
theorem lF(s:List Nat):dI 0 s=0:=by unfold dI;rfl
theorem KR(l:Cs): ∀n,n≤l.length→KP (CL l n) (VX l n):=by
 intro n
 induction n using Nat.strongRecOn with
 |ind n ih=>
  intro hn s t hs
  obtain⟨i,nG,hi,_,hv,ht,_,e,_⟩:=rb hn hs
  rw[e]
  exact(ES (ih i hi (by omega)) 0 (fun s=>lF s) l[i].2 t (jt hv) ht).2
theorem vw(l:Cs):KP (xB l) (vV l):=by
 have:=KR l l.length (Nat.le_refl _)
 rwa [Dm,T6]at this
theorem fold_congr{cl wA:List Nat→Int×Int}{cx cx':List Nat→Ex}(scope:Int)(hc: ∀s t,cl s=(t,0)→wA s=(t,0)∧cx' s=cx s)(x:Ex): ∀k,x.ty cl scope=(k,0)→x.ty wA scope=(k,0)∧x.fold wA cx' scope=x.fold cl cx scope:=by
 induction x using Ex.ind with
 |h x ih=>
  intro k ht
  by_cases h6:x.op=6
  ·rw[Ex.ty_eq,if_pos h6]at ht
   rw[Ex.ty_eq,if_pos h6,Ex.fold_eq,if_pos h6,Ex.fold_eq,if_pos h6]
   by_cases hz:dI scope x.name≠0
   ·rw[if_pos hz]at ht ⊢; rw[if_pos hz,if_pos hz];exact⟨ht,rfl⟩
   ·rw[if_neg hz]at ht ⊢; rw[if_neg hz,if_neg hz];exact hc _ _ ht
  ·obtain⟨ts,je,hr,hk⟩:=ng ht h6
   have hl:gS wA scope x.args= .ok ts∧dM wA cx' scope x.args=dM cl cx scope x.args:=by
    clear ht hr
    generalize x.args=xs at ih je
    induction xs generalizing ts with
    |nil=>rw[gS]at je;cases je;exact⟨rfl,rfl⟩
    |cons z zs ON=>
     obtain⟨t,us,rfl,e1,e2⟩:=js je
     obtain⟨f1,f2⟩:=ih z (by simp) t e1
     obtain⟨g1,g2⟩:=ON us (fun y hy=>ih y (by simp[hy])) e2
     rw[gS,dM,dM,f1,g1,f2,g2]
     exact⟨rfl,rfl⟩
   have ht':x.ty wA scope=(k,0):=by
    rw[Ex.ty_eq,if_neg h6,hl.1]
    show(if dJ x.op ts=0 then((0:Int),(9:Int))else(dJ x.op ts,0))=(k,0)
    rw[hr,if_neg hk]
   refine⟨ht', ?_⟩
   rw[Ex.fold_eq,Ex.fold_eq,if_neg h6,if_neg h6,hl.2,ht',ht]
theorem EV{l:Cs}{n:Nat}(hn:n≤l.length): ∀s t,CL l n s=(t,0)→xB l s=(t,0)∧GX (xB l) (vV l) s=GX (CL l n) (VX l n) s:=fun s t hs=>by
 obtain⟨i,nG,hi,_,hv,ht,ea,e1,e2,_⟩:=rb hn hs
 refine⟨ea, ?_⟩
 unfold GX
 rw[ea,hs,e1,e2]
def cC(l:Cs)(scope:Int)(x:Ex):Ex:=x.fold (xB l) (GX (xB l) (vV l)) scope
theorem Br(l:Cs)(scope:Int)(x:Ex){k:Int}(gK:x.wf=true)(ht:x.ty (xB l) scope=(k,0)):FK scope k (cC l scope x):=EW (Dl (vw l)) scope x k gK ht
theorem sV{l:Cs}{s:List Nat}{t:Int}(h:xB l s=(t,0)): ∃i,∃hi:i<l.length,de l s=some i∧aW l[i].2=0∧l[i].2.ty (CL l i) 0=(t,0)∧l[i].2.ty (xB l) 0=(t,0)∧cC l 0 l[i].2=fo t (vV l s)∧Dk t (vV l s)∧nJ l i=(t,0)∧vV l s=(oj l l.length).getD i 0:=by
 have h':=h
 rw[←Dm]at h'
 obtain⟨i,nG,hi,hd,hv,ht,ea,e1,e2,e3⟩:=rb (Nat.le_refl _) h'
 obtain⟨c1,c2⟩:=fold_congr 0 (EV (Nat.le_of_lt nG)) l[i].2 t ht
 refine⟨i,nG,hd,hv,ht,c1, ?_,vw l s t h,e3, ?_⟩
 ·unfold cC
  rw[c2,(ES (KR l i (Nat.le_of_lt nG)) 0 (fun s=>lF s) l[i].2 t (jt hv) ht).1,e2]
 ·unfold vV LY;rw[hd]
end Go.Proofs.YtfenhjpkomldcaaGreat
namespace Go.Proofs.YtfenhjpkomldcaaGreat
open Go Go.Ev
def OO(op:Int)(ys:List Ex)(r:Ex):Prop:=r= .mk op 0 [] ys∨(∃a∈ys,r= .mk 19 0 [] [a])∨(∃a∈ys,r=a)∨(∃a∈ys,r=a.args.headD (bN 0 0))∨(∃n,r=bN n 0)
theorem ei{op:Int}{ys:List Ex}:OO op ys (.mk op 0 [] ys):= .inl rfl
theorem OP{op:Int}{ys:List Ex}{a:Ex}(h:a∈ys):OO op ys (.mk 19 0 [] [a]):= .inr (.inl ⟨a,h,rfl⟩)
theorem fO{op:Int}{ys:List Ex}{a:Ex}(h:a∈ys):OO op ys a:= .inr (.inr (.inl ⟨a,h,rfl⟩))
theorem Bs{op:Int}{ys:List Ex}{a:Ex}(h:a∈ys):OO op ys (a.args.headD (bN 0 0)):= .inr (.inr (.inr (.inl ⟨a,h,rfl⟩)))
theorem vz{op:Int}{ys:List Ex}(n:Int):OO op ys (bN n 0):= .inr (.inr (.inr (.inr ⟨n,rfl⟩)))
theorem cF{op:Int}{ys:List Ex}{c:Prop}[Decidable c]{a b:Ex}(h1:OO op ys a)(h2:OO op ys b):OO op ys (if c then a else b):=by split <;> assumption
theorem xC(op:Int)(ys:List Ex):OO op ys (pg op ys):=by
 match ys with
 | []=>exact ei
 | [a]=>exact cF (Bs (by simp)) ei
 | [a,b]=>
   have ha:a∈ [a,b]:=by simp
   have hb:b∈ [a,b]:=by simp
   rw[iz]
   unfold rX
   exact cF (cF (vz 5) (cF (fO hb) (cF (fO ha) ei)))
    (cF (cF (vz 4) (cF (fO hb) (cF (fO ha) ei)))
    (cF (cF (vz 4) (cF (fO hb) (cF (cF (Bs ha) (OP ha)) ei)))
    (cF (cF (fO ha) (cF (fO hb) ei))
    (cF (cF (fO ha) ei)
    (cF (cF (fO ha) (cF (fO hb) ei))
    (cF (cF (fO ha) ei) ei))))))
 | [a,b,c]=>exact cF (cF (fO (by simp)) (cF (fO (by simp)) ei)) ei
 |_::_::_::_::_=>exact ei
theorem Dn(a:Ex):(a.args.headD (bN 0 0)).nodes≤a.nodes:=by
 rw[a.nodes_eq]
 cases a.args with
 |nil=>simp[bN,Ex.nodes,a6]
 |cons y ys=>rw[a6];show y.nodes≤_;omega
theorem Dp(op:Int)(ys:List Ex):(pg op ys).nodes≤1+a6 ys:=by
 rcases xC op ys with h|⟨a,ha,h⟩|⟨a,ha,h⟩|⟨a,ha,h⟩|⟨n,h⟩ <;> rw[h]
 ·rw[Ex.nodes];exact Nat.le_refl _
 ·have:=cT ha
  rw[Ex.nodes,a6,a6];omega
 ·have:=cT ha;omega
 ·have:=cT ha
  have:=Dn a;omega
 ·simp[bN,Ex.nodes,a6]
theorem pP(k n:Int):(fo k n).nodes≤2:=by
 unfold fo
 split
 ·split <;> simp[bN,Ex.nodes,a6]
 ·split
  ·simp[bN,Ex.nodes,a6]
  ·split <;> simp[bN,Ex.nodes,a6]
theorem vA{cl:List Nat→Int×Int}{cx:List Nat→Ex}(hc: ∀s,(cx s).nodes≤2)(scope:Int)(x:Ex):(x.fold cl cx scope).nodes≤2*x.nodes:=by
 induction x using Ex.ind with
 |h x ih=>
  have I0:1≤x.nodes:=by rw[x.nodes_eq];omega
  rw[Ex.fold_eq]
  split
  ·split
   ·omega
   ·have:=hc x.name;omega
  ·split
   ·omega
   ·have hl:a6 (dM cl cx scope x.args)≤2*a6 x.args:=by
     clear I0
     generalize x.args=xs at ih
     induction xs with
     |nil=>simp[dM,a6]
     |cons z zs ON=>
      have h1:=ih z (by simp)
      have h2:=ON (fun y hy=>ih y (by simp[hy]))
      rw[dM,a6,a6];omega
    split
    ·have:=pP (x.ty cl scope).1 (ry x.op ((dM cl cx scope x.args).map kZ));omega
    ·have:=Dp x.op (dM cl cx scope x.args)
     rw[x.nodes_eq];omega
theorem oR(op num:Int):(bN op num).sm:=by
 rw[Ex.sm_eq];exact⟨Nat.zero_le _,trivial⟩
theorem EX(k n:Int):(fo k n).sm:=by
 unfold fo
 split
 ·split <;> exact oR _ _
 ·split
  ·exact oR _ _
  ·split
   ·rw[Ex.sm_eq];exact⟨Nat.zero_le _,oR _ _,trivial⟩
   ·exact oR _ _
theorem OQ(op:Int)(ys:List Ex)(hs:KS ys):(pg op ys).sm:=by
 have hm:=oS.1 hs
 rcases xC op ys with h|⟨a,ha,h⟩|⟨a,ha,h⟩|⟨a,ha,h⟩|⟨n,h⟩ <;> rw[h]
 ·rw[Ex.sm_eq];exact⟨Nat.zero_le _,hs⟩
 ·rw[Ex.sm_eq];exact⟨Nat.zero_le _,hm a ha,trivial⟩
 ·exact hm a ha
 ·have h1:=((Ex.sm_eq a).1 (hm a ha)).2
  generalize a.args=l at h1
  cases l with
  |nil=>exact oR _ _
  |cons y ys=>exact h1.1
 ·exact oR _ _
theorem OR{cl:List Nat→Int×Int}{cx:List Nat→Ex}(hc: ∀s,(cx s).sm)(scope:Int)(x:Ex):x.sm→(x.fold cl cx scope).sm:=by
 induction x using Ex.ind with
 |h x ih=>
  intro hs
  rw[Ex.fold_eq]
  split
  ·split
   ·exact hs
   ·exact hc _
  ·split
   ·exact hs
   ·have hl:KS (dM cl cx scope x.args):=by
     have CU:=((Ex.sm_eq x).1 hs).2
     generalize x.args=xs at ih CU
     induction xs with
     |nil=>trivial
     |cons z zs ON=>exact⟨ih z (by simp) CU.1,ON (fun y hy=>ih y (by simp[hy])) CU.2⟩
    split
    ·exact EX _ _
    ·exact OQ _ _ hl
theorem sW(l:Cs)(scope:Int)(x:Ex):(cC l scope x).nodes≤2*x.nodes:=vA (fun s=>pP _ _) scope x
theorem KT(l:Cs)(scope:Int)(x:Ex)(h:x.sm):(cC l scope x).sm:=OR (fun s=>EX _ _) scope x h
end Go.Proofs.YtfenhjpkomldcaaGreat
namespace Go.Proofs.YtfenhjpkomldcaaGreat
open Go Go.Ev
def mOf:List aB→List (List Nat×List T)
 |⟨_,.map ks vs _⟩::_=>(ks.zip vs).map fun p=>((match p.1 with| .s s=>s|_=> []),(match p.2 with| .agg c=>c|_=> []))
 |_=> []
theorem T7(lT kT:T): ∀m,mOf (qY lT kT m)=m:=by
 intro m
 unfold mOf qY
 simp only
 induction m with
 |nil=>rfl
 |cons p m ih=>rw[List.map_cons,List.map_cons,List.zip_cons_cons,List.map_cons,ih];rfl
noncomputable def mL(E:Env)(n:Nat)(a:aN)(fr:Fr)(lh:aQ aB)(sh:List aB):List (List Nat×List T):=mOf (cw E n a fr lh sh)
theorem Rt{E:Env}{n:Nat}{a:aN}{fr:Fr}{lh:aQ aB}{sh:List aB}{lT kT:T}{P:List (List Nat×List T)→Prop}(h: ∃m,cw E n a fr lh sh=qY lT kT m∧P m):cw E n a fr lh sh=qY lT kT (mL E n a fr lh sh)∧P (mL E n a fr lh sh):=by
 obtain⟨m,h1,h2⟩:=h
 have:mL E n a fr lh sh=m:=by unfold mL;rw[h1,T7]
 rw[this];exact⟨h1,h2⟩
theorem tO{cl:List Nat→Int×Int}{scope:Int}: ∀{xs:List Ex} {ts:List Int},gS cl scope xs= .ok ts→ ∀(k:Nat) (hk:k<xs.length),∃t,xs[k].ty cl scope=(t,0)
 | [],ts,h,k,hk=>by simp at hk
 |x::xs,ts,h,k,hk=>by
  obtain⟨t,us,rfl,e1,e2⟩:=js h
  cases k with
  |zero=>exact⟨t,e1⟩
  |succ k=>exact tO e2 k (by simpa using hk)
theorem sa{cl:List Nat→Int×Int}{cx:List Nat→Ex}(hc:T3 cl cx)(scope:Int): ∀{xs:List Ex} {ts:List Int},gT xs=true→gS cl scope xs= .ok ts→xA scope ts (dM cl cx scope xs)
 | [],ts,_,h=>by rw[gS]at h;cases h;trivial
 |x::xs,ts,hw,h=>by
  obtain⟨t,us,rfl,e1,e2⟩:=js h
  rw[gT,Bool.and_eq_true]at hw
  exact⟨EW hc scope x t hw.1 e1,sa hc scope hw.2 e2⟩
theorem sX{cl:List Nat→Int×Int}{cx:List Nat→Ex}(hc: ∀s,(cx s).nodes≤2)(scope:Int): ∀xs:List Ex,a6 (dM cl cx scope xs)≤2*a6 xs
 | []=>by simp[dM,a6]
 |x::xs=>by
  have h1:=vA (cl:=cl) hc scope x
  have h2:=sX (cl:=cl) hc scope xs
  rw[dM,a6,a6];omega
theorem GY(cl:List Nat→Int×Int)(cx:List Nat→Ex)(scope:Int)(xs:List Ex):(dM cl cx scope xs).length=xs.length:=by rw[sb,List.length_map]
def bJ(l:Cs)(scope:Int)(xs:List Ex):List Ex:=dM (xB l) (GX (xB l) (vV l)) scope xs
theorem nh(l:Cs)(scope:Int)(xs:List Ex):bJ l scope xs=xs.map (cC l scope):=sb _ _ _ _
theorem iT(l:Cs)(scope:Int)(xs:List Ex):(bJ l scope xs).length=xs.length:=GY _ _ _ _
section
variable(l:Cs)(lT kT:T)
def pC(m:List (List Nat×List T)):Prop:= ∀s cs,bU m s=some cs→ ∃t,xB l s=(t,0)∧bE (fo t (vV l s)) cs∧Bk cs
def LZ(n:Nat)(m m':List (List Nat×List T)):Prop:= ∀s j,de l s=some j→n≤j→bU m' s=bU m s
def Rv(n:Nat)(scope:Int)(y:Ex):Prop:= ∀k m cs,pC l m→bE y cs→y.nodes≤200→y.wf=true→y.ty (CL l n) scope=(k,0)→
 ∃qB m',ai pE 54 [.ptr .S 1 1 0,.i .i64 scope,.agg cs] (qY lT kT m)=some (.agg qB,qY lT kT m')∧bE (cC l scope y) qB∧pC l m'∧LZ l n m m'∧(scope=0→Bk qB)
theorem Yv(n:Nat)(scope:Int)(xs:List Ex)(ih: ∀y∈xs,Rv l lT kT n scope y)(a:T)(cc:List T)(ha:aR a xs.length cc)(hx:aK xs cc)(hn:a6 xs≤200)(gK:gT xs=true)(ts:List Int)(cN:gS (CL l n) scope xs= .ok ts)(m:List (List Nat×List T))(hm:pC l m)(op:T)(g g9:Nat)(c6:aB)(fr:Fr)(lh:aQ aB)(sh:List aB)(fi:sh=qY lT kT m)
  (h0:ak fr 0= .ptr .S 1 1 0) (h1:ak fr 1= .i .i64 scope) (h9:ak fr 9= .ptr .L 9 g9 0) (ph:ak fr 49=a) (vW:ak fr 50= .i .i64 (xs.length:Int)) (wB:ak fr 51= .i .i64 0) (o6:aq lh 6=c6) (o9:aq lh 9=⟨g9,.cells [op,.i .i64 0,.s [],.isl .L 46 g 0 xs.length 4] 0 true⟩) (vX:aq lh 46=⟨g,.cells (repl [.i .i64 0,.i .i64 0,.s [],.nilsl] xs.length) 0 false⟩):
  DC pE 68 (.loop jG) ⟨fr,lh,sh⟩=some (.ext 0,⟨cz pE 68 jG fr lh sh,bK pE 68 jG fr lh sh,cw pE 68 jG fr lh sh⟩)∧
  (aq (bK pE 68 jG fr lh sh) 6=c6∧aq (bK pE 68 jG fr lh sh) 9=⟨g9,.cells [op,.i .i64 0,.s [],.isl .L 46 g 0 xs.length 4] 0 true⟩∧(∃cs,aq (bK pE 68 jG fr lh sh) 46=⟨g,.cells cs 0 false⟩∧aK (bJ l scope xs) cs)∧(∃m',cw pE 68 jG fr lh sh=qY lT kT m'∧pC l m'∧LZ l n m m')):=by
 refine aD (P:=fun cO bp br=>aq bp 6=c6∧aq bp 9=⟨g9,.cells [op,.i .i64 0,.s [],.isl .L 46 g 0 xs.length 4] 0 true⟩∧(∃cs,aq bp 46=⟨g,.cells cs 0 false⟩∧aK (bJ l scope xs) cs)∧(∃m',br=qY lT kT m'∧pC l m'∧LZ l n m m'))
  (aI (fun k st=> ∃(fr:Fr) (aX:aQ aB) (A:List T) (m1:List (List Nat×List T)),st=⟨fr,aX,qY lT kT m1⟩∧ak fr 0= .ptr .S 1 1 0∧ak fr 1= .i .i64 scope∧ak fr 9= .ptr .L 9 g9 0∧ak fr 49=a∧ak fr 50= .i .i64 (xs.length:Int)∧ak fr 51= .i .i64 (k:Int)∧aq aX 6=c6∧aq aX 9=⟨g9,.cells [op,.i .i64 0,.s [],.isl .L 46 g 0 xs.length 4] 0 true⟩∧
    aq aX 46=⟨g,.cells (A++repl [.i .i64 0,.i .i64 0,.s [],.nilsl] (xs.length-k)) 0 false⟩∧aK (bJ l scope (xs.take k)) A∧pC l m1∧LZ l n m m1) _ xs.length ?_ ?_ 0 _ (Nat.zero_le _) ⟨fr,lh,[],m,by rw[fi],h0,h1,h9,ph,vW,wB,o6,o9,by rw[vX];rfl,by rw[List.take_zero];exact aK.nil,hm,fun _ _ _ _=>rfl⟩)
 ·rintro k _ hk ⟨fr,aX,A,m1,rfl,h0,h1,h9,ph,vW,wB,o6,o9,vX,hA,Yw,Bt⟩
  left
  have bt:(k:Int)<xs.length:=by omega
  have qK:=bX xs
  have Rw:=cT (List.getElem_mem hk)
  have hw:=aJ (k:=k) (cm (by omega))
  obtain⟨b,cb,rr,bh,cH,nA,hb⟩:=dm ha hx k hk
  obtain⟨t,ht⟩:=tO cN k hk
  obtain⟨cf,m2,az,pW,D5,OS,_⟩:=ih xs[k] (List.getElem_mem hk) t m1 _ Yw hb (by omega) (jg.1 gK _ (List.getElem_mem hk)) ht
  obtain⟨fa,fc,rfl,fD,yT⟩:=pW.cells
  have Yx:A.length=k*4:=by rw[hA.len,iT];simp;omega
  generalize hy:cC l scope xs[k]=y at*
  have SS:(A++repl [T.i .i64 0,T.i .i64 0,T.s [],T.nilsl] (xs.length-k)).length=xs.length*4:=by rw[List.length_append,re,Yx];simp;omega
  have Rr:splice (A++repl [T.i .i64 0,T.i .i64 0,T.s [],T.nilsl] (xs.length-k)) (k*4) [.i .i64 y.op,.i .i64 y.num,.s y.name,fa]=(A++ [.i .i64 y.op,.i .i64 y.num,.s y.name,fa])++repl [T.i .i64 0,T.i .i64 0,T.s [],T.nilsl] (xs.length-(k+1)):=by
   rw[show xs.length-k=(xs.length-(k+1))+1 by omega,oT,pQ A [T.i .i64 0,T.i .i64 0,T.s [],T.nilsl] _ [T.i .i64 y.op,T.i .i64 y.num,T.s y.name,fa] (k*4) Yx rfl]
  have KU:k*4+4≤xs.length*4:=by omega
  simp(maxDischargeDepth:=6) only[qF,ae,ah,aa,aj,ab,an,splice,Nat.reduceAdd,reduceCtorEq,Nat.reduceLT,Nat.reduceLeDiff,Nat.reduceEqDiff,cq,aZ,fW,jG,h0,h1,h9,ph,vW,wB,o9,vX,bt,bh,hw,az,L7,abY,cH.kept1,fD.froz1,hk,SS,Rr,KU]
  refine⟨_,rfl,_,_,A++ [.i .i64 y.op,.i .i64 y.num,.s y.name,fa],m2,rfl, ?_, ?_, ?_, ?_, ?_, ?_, ?_, ?_, ?_, ?_,D5,fun s j h1 h2=>by rw[OS s j h1 h2,Bt s j h1 h2]⟩
  all_goals first|(simp(maxDischargeDepth:=6) only[aa,ab,reduceCtorEq,Nat.reduceEqDiff,h0,h1,h9,ph,vW,o6,o9];done)|skip
  rw[List.take_succ_eq_append_getElem hk,nh,List.map_append,←nh,List.map_cons,hy]
  exact aK.append hA (aK.one pW)
 ·rintro _ ⟨fr,aX,A,m1,rfl,h0,h1,h9,ph,vW,wB,o6,o9,vX,hA,Yw,Bt⟩
  rw[Nat.sub_self,show repl [T.i .i64 0,T.i .i64 0,T.s [],T.nilsl] 0= []from rfl,List.append_nil]at vX
  rw[List.take_length]at hA
  simp(maxDischargeDepth:=6) only[ae,ah,aa,ab,an,Nat.reduceLT,jG,vW,wB,Int.lt_irrefl]
  exact⟨_,_,(by simp:Out.ext 0≠ .nrm),rfl,rfl,o6,o9,⟨A,vX,hA⟩,m1,rfl,Yw,Bt⟩
end
end Go.Proofs.YtfenhjpkomldcaaGreat
namespace Go.Proofs.YtfenhjpkomldcaaGreat
open Go Go.Ev
theorem LZ.mono{l:Cs}{n n':Nat}{m m':List (List Nat×List T)}(h:LZ l n m m')(hn:n≤n'):LZ l n' m m':=fun s j h1 h2=>h s j h1 (by omega)
theorem Rx{l:Cs}{n:Nat}(pI:n≤l.length): ∀{xs:List Ex} {ts:List Int},gT xs=true→gS (CL l n) 0 xs= .ok ts→(bJ l 0 xs).all isLit=true
 | [],ts,_,_=>rfl
 |x::xs,ts,hw,h=>by
  obtain⟨t,us,rfl,e1,e2⟩:=js h
  rw[gT,Bool.and_eq_true]at hw
  have c1:=(fold_congr 0 (EV pI) x t e1).1
  obtain⟨f1,f2⟩:=ES (vw l) 0 (fun s=>lF s) x t hw.1 c1
  show(isLit (cC l 0 x)&&(bJ l 0 xs).all isLit)=true
  rw[Rx pI hw.2 e2,Bool.and_true]
  unfold cC
  rw[f1];exact(tM (scope:=0) f2).2.1
theorem KV{l:Cs}{n:Nat}(pI:n≤l.length){scope:Int}: ∀{xs:List Ex} {ts:List Int},gS (CL l n) scope xs= .ok ts→gS (xB l) scope xs= .ok ts
 | [],ts,h=>h
 |x::xs,ts,h=>by
  obtain⟨t,us,rfl,e1,e2⟩:=js h
  have c1:=(fold_congr scope (EV pI) x t e1).1
  rw[gS,c1,KV pI e2];rfl
section
variable(l:Cs)(lT kT:T)
def Yy(i:Nat):Prop:= ∀s t m,de l s=some i→xB l s=(t,0)→pC l m→ ∃cs m',ai pE 99 [.ptr .S 1 1 0,.s s] (qY lT kT m)=some (.agg cs,qY lT kT m')∧bE (fo t (vV l s)) cs∧Bk cs∧pC l m'∧LZ l (i+1) m m'
variable(EM:froz kT=true)
include EM
theorem T8{n:Nat}(pI:n≤l.length){scope k:Int}{x:Ex}(gK:x.wf=true)(ht:x.ty (CL l n) scope=(k,0))(h6:x.op≠6)(ev:x.args.length≠0)(hn:x.nodes≤200)(X:List T)(hX:aK (bJ l scope x.args) X)(m:List (List Nat×List T)):
  ∃cs,ai pE 100 [.ptr .S 1 1 0,.agg [.i .i64 x.op,.i .i64 0,.s [],.sl X x.args.length false]] (qY lT kT m)=some (.agg cs,qY lT kT m)∧bE (cC l scope x) cs∧(scope=0→Bk cs):=by
 obtain⟨h1,h2,bo,gJ,jT,lD⟩:=fk gK
 have h7:=yW h1 bo ev
 obtain⟨ts,je,hr,hk⟩:=ng ht h6
 have adn:=KV pI je
 have pB:xA scope ts (bJ l scope x.args):=sa (Dl (vw l)) scope lD adn
 have hlen:=iT l scope x.args
 have nO:a6 (bJ l scope x.args)≤2*a6 x.args:=sX (fun s=>pP _ _) scope x.args
 have hxn:=x.nodes_eq
 have hta:=(fold_congr scope (EV pI) x k ht).1
 have Z0:aR (.sl X x.args.length false) (bJ l scope x.args).length X:=Or.inr ⟨false,by rw[hlen]⟩
 have kN:cC l scope x=if(bJ l scope x.args).all isLit then fo k (ry x.op ((bJ l scope x.args).map kZ))else pg x.op (bJ l scope x.args):=by
  unfold cC
  rw[Ex.fold_eq,if_neg h6,if_neg (by simp;intro h;rw[h]at ev;exact ev rfl),hta]
  rfl
 rw[kN]
 cases bl:(bJ l scope x.args).all isLit with
 |true=>
  rw[if_pos rfl]
  obtain⟨cs,e1,e2,e3⟩:=GU lT kT EM pB bl h7 h2 (by rw[hlen];exact bo) hr hk (by omega) (.sl X x.args.length false) X Z0 hX m
  exact⟨cs,e1,e2,fun _=>e3⟩
 |false=>
  rw[if_neg (by simp)]
  obtain⟨cs,e1,e2⟩:=OJ lT kT m bl pB.wf h7 h2 (by rw[hlen];exact bo) (by omega) (.sl X x.args.length false) X Z0 hX
  refine⟨cs,e1,e2,fun h0=> ?_⟩
  subst h0
  rw[Rx pI lD je]at bl;cases bl
theorem EY(n:Nat)(pI:n≤l.length)(hc: ∀j,j<n→Yy l lT kT j)(scope:Int)(x:Ex):Rv l lT kT n scope x:=by
 induction x using Ex.ind with
 |h x ih=>
  intro k m cs hm hx hn gK ht
  obtain⟨a,cc,rfl,ha,mH⟩:=hx.cells
  obtain⟨h1,h2,bo,gJ,jT,lD⟩:=fk gK
  have nO:=x.nodes_eq
  rw[aG Sh (by simp[PG])]
  by_cases h6:x.op=6
  ·have ga:=vo scope x.name
   unfold lC at ga
   rw[Ex.ty_eq,if_pos h6]at ht
   by_cases hz:dI scope x.name=0
   ·rw[if_neg (by simp[hz])]at ht
    rw[if_pos hz,hz]at ga
    obtain⟨i,nG,j1,wC,_,_,GZ,_⟩:=rb pI ht
    obtain⟨c1,m1,az,ni,hT,Yw,zC⟩:=hc i j1 x.name k m wC GZ hm
    obtain⟨c2,T9,Ry,hT2⟩:=KO hT ni
    have kN:cC l scope x=fo k (vV l x.name):=by
     unfold cC
     rw[Ex.fold_eq,if_pos h6,if_neg (by simp[hz])];unfold GX;rw[GZ]
    rw[kN]
    generalize fo k (vV l x.name)=y at*
    obtain⟨ca,cb,rfl,kF,nz⟩:=ni.cells
    obtain⟨da,db,rfl,dA,eO⟩:=Ry.cells
    simp(maxDischargeDepth:=6) only[qF,ae,ah,aa,aj,ab,an,aF,splice,aH,Nat.reduceAdd,reduceCtorEq,Nat.reduceLT,Nat.reduceLeDiff,Nat.reduceEqDiff,Int.reduceEq,fW,PG,h6,ga,Aa,az,ab5,T9,V1,kF.froz1,dA.froz1]
    exact⟨_,m1,rfl,Ry,Yw,zC.mono (by omega),fun _=>hT2⟩
   ·rw[if_neg hz]at ga
    have kN:cC l scope x=x:=by
     unfold cC
     rw[Ex.fold_eq,if_pos h6,if_pos hz]
    rw[kN]
    rw[h6]at gJ bo
    have Yz:x.num=0:=by simp[iA]at gJ;omega
    have jU:x.args.length=0:=by simpa[bm]using bo
    have hxe:bE x [.i .i64 6,.i .i64 0,.s x.name,.nilsl]:=by
     have:=bE.of (x:=x) (a:= .nilsl) (cc:= []) (by rw[jU];exact cp) (by rw[List.length_eq_zero_iff.1 jU];exact aK.nil)
     rw[h6,Yz]at this;exact this
    simp(maxDischargeDepth:=6) only[qF,ae,ah,aa,aj,ab,an,aF,splice,aH,Nat.reduceAdd,reduceCtorEq,Nat.reduceLT,Nat.reduceLeDiff,Nat.reduceEqDiff,PG,h6,ga,Aa]
    exact⟨_,m,rfl,hxe,hm,fun _ _ _ _=>rfl,fun h0=>by rw[h0]at hz;exact absurd (lF _) hz⟩
  ·rw[if_neg h6]at jT
   by_cases jU:x.args.length=0
   ·have kN:cC l scope x=x:=by
     unfold cC
     rw[Ex.fold_eq,if_neg h6,if_pos (by simp[List.length_eq_zero_iff.1 jU])]
    rw[kN]
    have hxe:bE x [.i .i64 x.op,.i .i64 x.num,.s [],.nilsl]:=by
     have:=bE.of (x:=x) (a:= .nilsl) (cc:= []) (by rw[jU];exact cp) (by rw[List.length_eq_zero_iff.1 jU];exact aK.nil)
     rw[jT]at this;exact this
    have uH:=ha.lenI
    rw[jU]at uH
    simp(maxDischargeDepth:=6) only[qF,ae,ah,aa,aj,ab,an,aF,splice,aH,Nat.reduceAdd,reduceCtorEq,Nat.reduceLT,Nat.reduceLeDiff,Nat.reduceEqDiff,PG,h6,uH]
    exact⟨_,m,rfl,hxe,hm,fun _ _ _ _=>rfl,fun _=> .inl ⟨_,_,rfl⟩⟩
   ·obtain⟨ts,je,hr,hk⟩:=ng ht h6
    have zB:=bX x.args
    have tu:x.args.length≤eG:=cm (by omega)
    have Ua:x.args.length*56≤roomy∧x.args.length≤roomy:=by unfold eG at tu;unfold roomy;omega
    have vY:=fun c6 fr lh sh fi h0 h1 h9 ph vW wB o6 o9 vX=>Yv l lT kT n scope x.args (fun y hy=>ih y hy) a cc ha mH (by omega) lD ts je m hm (.i .i64 x.op) 1 1 c6 fr lh sh fi h0 h1 h9 ph vW wB o6 o9 vX
    have OT:=fun fr lh sh fi h0 h1 h9 ph vW wB o6 o9 vX=>vY ⟨1,.cells [.i .i64 0,.i .i64 0,.s [],.nilsl] 0 true⟩ fr lh sh fi h0 h1 h9 ph vW wB o6 o9 vX
    have hL:=fun fr lh sh fi h0 h1 h9 ph vW wB o6 o9 vX=>And.intro (OT fr lh sh fi h0 h1 h9 ph vW wB o6 o9 vX).1 (And.intro (OT fr lh sh fi h0 h1 h9 ph vW wB o6 o9 vX).2.1 (And.intro (OT fr lh sh fi h0 h1 h9 ph vW wB o6 o9 vX).2.2.1 (And.intro (yK (OT fr lh sh fi h0 h1 h9 ph vW wB o6 o9 vX).2.2.2.1).1 (Rt (OT fr lh sh fi h0 h1 h9 ph vW wB o6 o9 vX).2.2.2.2).1)))
    have hF:=fun fr lh sh fi h0 h1 h9 ph vW wB o6 o9 vX=>(yK (OT fr lh sh fi h0 h1 h9 ph vW wB o6 o9 vX).2.2.2.1).2
    have hM:=fun fr lh sh fi h0 h1 h9 ph vW wB o6 o9 vX=>(Rt (OT fr lh sh fi h0 h1 h9 ph vW wB o6 o9 vX).2.2.2.2).2
    have Bu:=fun fr lh sh fi h0 h1 h9 ph vW wB o6 o9 vX=>(hF fr lh sh fi h0 h1 h9 ph vW wB o6 o9 vX).len
    rw[iT]at Bu
    have OU: ¬(x.args.length:Int)=0:=by omega
    simp(maxDischargeDepth:=6) only[qF,ae,ah,aa,aj,ab,an,Nat.reduceShiftRight,Nat.reduceMod,aF,u6,yA,splice,aH,Nat.reduceAdd,reduceCtorEq,Nat.reduceLT,Nat.reduceLeDiff,Nat.reduceEqDiff,cq,iw,aZ,Ky,fW,PG,zT,h6,ha.lenI,OU,Ua,hL,Bu,V4]
    generalize hX:Dc _ _=X
    generalize hMX:mL _ _ _ _ _ _=m'
    have Ub:aK (bJ l scope x.args) X:=by
     rw[←hX]
     refine hF _ _ _ rfl ?_ ?_ ?_ ?_ ?_ ?_ ?_ ?_ ?_ <;> simp(maxDischargeDepth:=6) only[aa,ab,reduceCtorEq,Nat.reduceEqDiff]
    have hMF:pC l m'∧LZ l n m m':=by
     rw[←hMX]
     refine hM _ _ _ rfl ?_ ?_ ?_ ?_ ?_ ?_ ?_ ?_ ?_ <;> simp(maxDischargeDepth:=6) only[aa,ab,reduceCtorEq,Nat.reduceEqDiff]
    have YA:=Ub.len
    rw[iT]at YA
    rw[←YA,List.take_length]
    obtain⟨c1,az,ni,hT⟩:=T8 l lT kT EM pI gK ht h6 jU hn X Ub m'
    generalize cC l scope x=y at*
    obtain⟨ca,cb,rfl,kF,nz⟩:=ni.cells
    simp(maxDischargeDepth:=6) only[qF,ae,ah,aa,aj,ab,an,Nat.reduceShiftRight,Nat.reduceMod,splice,Nat.reduceAdd,reduceCtorEq,Nat.reduceEqDiff,zT,hL,az,kF.froz1]
    exact⟨_,m',rfl,ni,hMF.1,hMF.2,hT⟩
end
end Go.Proofs.YtfenhjpkomldcaaGreat
