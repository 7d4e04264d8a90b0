/- Constants and their values; simplified forms by them. The size of simplified forms. The program's simplifier: the loop over arguments. The program's simplifier. Conditions: the theorems' own. -/
import Derived.Test.YtfenhjpkomldcaaGreatM10
import Derived.KernelRfl
set_option maxRecDepth 100000
set_option linter.unusedSimpArgs false
set_option linter.unusedVariables false
set_option maxHeartbeats 16000000
namespace Go.Proofs.YtfenhjpkomldcaaGreat
open Go Go.Ev
mutual
def Ex.val0(vx:List Nat→Int):Ex→Int
 | .mk op num name args=>if op=6 then vx name else if op=1∨op=2∨op=3 then num else if op=4 then 1 else if op=5 then 0 else oG op (fD vx args)
def fD(vx:List Nat→Int):List Ex→List Int
 | []=> []
 |x::xs=>x.val0 vx::fD vx xs
end
theorem Ex.val0_eq(vx:List Nat→Int)(x:Ex):x.val0 vx=if x.op=6 then vx x.name else if x.op=1∨x.op=2∨x.op=3 then x.num else if x.op=4 then 1 else if x.op=5 then 0 else oG x.op (fD vx x.args):=by obtain⟨_,_,_,_⟩:=x;rw[Ex.val0];rfl
theorem ma(vx:List Nat→Int): ∀xs,fD vx xs=xs.map (Ex.val0 vx)
 | []=>rfl
 |x::xs=>by rw[fD,ma vx xs];rfl
def DN(cl:List Nat→Int×Int)(vx:List Nat→Int)(s:List Nat):Ex:=ew (cl s).1 (vx s)
def Hw(cl:List Nat→Int×Int)(vx:List Nat→Int):Prop:= ∀s t,cl s=(t,0)→Ar t (vx s)
theorem As{cl:List Nat→Int×Int}{vx:List Nat→Int}(h:Hw cl vx):Qj cl (DN cl vx):=fun s t hs=>⟨vx s,by unfold DN;rw[hs],h s t hs⟩
theorem Hx{cl:List Nat→Int×Int}{scope:Int}{x:Ex}{k:Int}(fy:x.wf=true)(ht:x.ty cl scope=(k,0))(h6:x.op≠6)(nM:x.args= []):x=ew k (if x.op=1∨x.op=2∨x.op=3 then x.num else if x.op=4 then 1 else 0)∧Ar k (if x.op=1∨x.op=2∨x.op=3 then x.num else if x.op=4 then 1 else 0)∧x.op≤5:=by
 obtain⟨h1,h2,aX,gr,iA,jC⟩:=er fy
 have h5:x.op≤6:=Lg h2 aX (by rw[nM];rfl)
 rw[Ex.ty_eq,if_neg h6,nM,fE]at ht
 rw[if_neg h6]at iA
 obtain⟨op,num,name,args⟩:=x
 simp only[Ex.op,Ex.num,Ex.name,Ex.args]at*
 subst iA nM
 have fF:op=1∨op=2∨op=3∨op=4∨op=5:=by omega
 rcases fF with rfl|rfl|rfl|rfl|rfl
 all_goals
  simp[dk]at ht
  subst ht
  simp[ga]at gr
 ·refine⟨?_,.inl ⟨.inl rfl, ?_⟩,by decide⟩
  ·simp[ew,bz];omega
  ·simp[bd];omega
 ·refine⟨?_,.inl ⟨.inr rfl, ?_⟩,by decide⟩
  ·simp[ew,bz];omega
  ·simp[bd];omega
 ·refine⟨?_,.inr (.inl ⟨rfl, ?_⟩),by decide⟩
  ·simp[ew,bz]
  ·simpa using gr
 ·refine⟨?_,.inr (.inr ⟨rfl,.inr rfl⟩),by decide⟩
  simp[ew,bz];omega
 ·refine⟨?_,.inr (.inr ⟨rfl,.inl rfl⟩),by decide⟩
  simp[ew,bz];omega
theorem BO{cl:List Nat→Int×Int}{vx:List Nat→Int}(hc:Hw cl vx)(scope:Int)(pR: ∀s,dE scope s=0)(x:Ex): ∀k,x.wf=true→x.ty cl scope=(k,0)→x.fold cl (DN cl vx) scope=ew k (x.val0 vx)∧Ar k (x.val0 vx):=by
 induction x using Ex.ind with
 |h x ih=>
  intro k fy ht
  obtain⟨h1,h2,aX,gr,iA,jC⟩:=er fy
  rw[Ex.fold_eq,Ex.val0_eq]
  by_cases h6:x.op=6
  ·rw[if_pos h6,if_pos h6]
   rw[Ex.ty_eq,if_pos h6,if_neg (by simp[pR])]at ht
   rw[if_neg (by simp[pR])]
   exact⟨by unfold DN;rw[ht],hc _ _ ht⟩
  rw[if_neg h6,if_neg h6]
  by_cases he:x.args.isEmpty=true
  ·rw[if_pos he]
   have nM:x.args= []:=by simpa using he
   obtain⟨e1,e2,e3⟩:=Hx fy ht h6 nM
   by_cases hq:x.op=1∨x.op=2∨x.op=3
   ·rw[if_pos hq]at e1 e2 ⊢; exact⟨e1,e2⟩
   ·rw[if_neg hq]at e1 e2 ⊢
    by_cases h4:x.op=4
    ·rw[if_pos h4]at e1 e2 ⊢; exact⟨e1,e2⟩
    ·rw[if_neg h4]at e1 e2 ⊢
     rw[if_pos (by omega)];exact⟨e1,e2⟩
  ·rw[if_neg he]
   have dr:x.args.length≠0:=by
    intro h;exact he (by simp[List.length_eq_zero_iff.1 h])
   have h7:=vI h1 aX dr
   obtain⟨ts,gI,hr,hk⟩:=kL ht h6
   have kZ:ou ts (fD vx x.args)∧(dm cl (DN cl vx) scope x.args).all isLit=true∧(dm cl (DN cl vx) scope x.args).map jo=fD vx x.args:=by
    clear ht aX dr he hr fy gr iA
    generalize x.args=xs at ih gI jC
    induction xs generalizing ts with
    |nil=>rw[fE]at gI;cases gI;exact⟨trivial,rfl,rfl⟩
    |cons z zs Lh=>
     obtain⟨t,us,rfl,e1,e2⟩:=gY gI
     rw[fG,Bool.and_eq_true]at jC
     obtain⟨f1,f2⟩:=ih z (by simp) t jC.1 e1
     obtain⟨g1,g2,g3⟩:=Lh us (fun y hy=>ih y (by simp[hy])) e2 jC.2
     rw[dm,fD,f1]
     obtain⟨_,q1,q2⟩:=qL (scope:=scope) f2
     refine⟨⟨f2,g1⟩, ?_, ?_⟩
     ·rw[List.all_cons,q1,g2];rfl
     ·rw[List.map_cons,q2,g3]
   obtain⟨i1,i2,i3⟩:=kZ
   have hlen:ts.length=x.args.length:=mb gI
   rw[if_pos i2,i3,ht,if_neg (by omega),if_neg (by omega),if_neg (by omega)]
   exact⟨rfl,(yc i1 h7 h2 (by rw[hlen];exact aX) hr hk).2⟩
def IJ(l:Cs)(lN:List Int)(s:List Nat):Int:=match cN l s with
 |none=>0
 |some i=>lN.getD i 0
def lO(l:Cs):Nat→List Int
 |0=> []
 |n+1=>lO l n++ [if(ll (l.take n) (cX l n) (l.getD n ([],.mk 0 0 [] [])).2).2=0 then(l.getD n ([],.mk 0 0 [] [])).2.val0 (IJ (l.take n) (lO l n))else 0]
theorem fv(l:Cs): ∀n,(lO l n).length=n
 |0=>rfl
 |n+1=>by rw[lO,List.length_append,fv l n];rfl
theorem yh(l:Cs){n:Nat}(h:n<l.length):lO l (n+1)=lO l n++ [if(ll (l.take n) (cX l n) l[n].2).2=0 then l[n].2.val0 (IJ (l.take n) (lO l n))else 0]:=by
 rw[lO,List.getD_eq_getElem?_getD,List.getElem?_eq_getElem h];rfl
theorem BP(l:Cs)(n:Nat): ∀k,∃r,lO l (n+k)=lO l n++r
 |0=>⟨[],by simp⟩
 |k+1=>by
  obtain⟨r,h⟩:=BP l n k
  rw[←Nat.add_assoc,lO,h]
  exact⟨_,List.append_assoc _ _ _⟩
theorem BQ(l:Cs){n i:Nat}(hn:n≤l.length)(hi:i<n):(lO l n).getD i 0=(lO l l.length).getD i 0:=by
 obtain⟨r,h⟩:=BP l n (l.length-n)
 rw[show n+(l.length-n)=l.length by omega]at h
 rw[h,List.getD_eq_getElem?_getD,List.getD_eq_getElem?_getD,List.getElem?_append_left (by rw[fv];exact hi)]
def CL(l:Cs)(n:Nat):List Nat→Int×Int:=po (l.take n) (cX l n)
def VX(l:Cs)(n:Nat):List Nat→Int:=IJ (l.take n) (lO l n)
def ue(l:Cs):List Nat→Int×Int:=po l (cX l l.length)
def sP(l:Cs):List Nat→Int:=IJ l (lO l l.length)
theorem Au(l:Cs):CL l l.length=ue l:=by unfold CL ue;rw[List.take_length]
theorem Qk(l:Cs):VX l l.length=sP l:=by unfold VX sP;rw[List.take_length]
theorem ov{l:Cs}{n:Nat}(hn:n≤l.length){s:List Nat}{t:Int}(h:CL l n s=(t,0)): ∃i,∃hi:i<l.length,i<n∧cN l s=some i∧bF l[i].2=0∧l[i].2.ty (CL l i) 0=(t,0)∧ue l s=(t,0)∧VX l n s=l[i].2.val0 (VX l i)∧sP l s=l[i].2.val0 (VX l i)∧ow l i=(t,0):=by
 unfold CL po at h
 rw[mc]at h
 cases hd:cN l s with
 |none=>rw[hd]at h;simp at h
 |some i=>
  rw[hd]at h
  simp only at h
  by_cases hi:i<n
  ·rw[if_pos hi]at h
   simp only at h
   have lf:i<l.length:=vJ hd
   rw[sj l hn hi]at h
   have he:ow l i=(t,0):=h
   have lp:=he
   rw[vK l lf]at he
   have qx:=he
   unfold ll at he
   by_cases hv:bF l[i].2≠0
   ·rw[if_pos hv]at he;injection he with _ he;exact absurd he hv
   ·rw[if_neg hv]at he
    have jX:(lO l l.length).getD i 0=l[i].2.val0 (VX l i):=by
     rw[←BQ l (n:=i+1) (by omega) (by omega),yh l lf,List.getD_eq_getElem?_getD,List.getElem?_append_right (by rw[fv];omega),fv,Nat.sub_self,qx]
     rfl
    refine⟨i,lf,hi,rfl,by simpa using hv,he, ?_, ?_, ?_,lp⟩
    ·unfold ue po;rw[hd];exact h
    ·unfold VX IJ
     rw[mc,hd]
     simp only[if_pos hi]
     rw[BQ l hn hi,jX];rfl
    ·unfold sP IJ;rw[hd];exact jX
  ·rw[if_neg hi]at h;simp at h
theorem jE(s:List Nat):dE 0 s=0:=by unfold dE;rfl
theorem Hy(l:Cs): ∀n,n≤l.length→Hw (CL l n) (VX l n):=by
 intro n
 induction n using Nat.strongRecOn with
 |ind n ih=>
  intro hn s t hs
  obtain⟨i,lf,hi,_,hv,ht,_,e,_⟩:=ov hn hs
  rw[e]
  exact(BO (ih i hi (by omega)) 0 (fun s=>jE s) l[i].2 t (gZ hv) ht).2
theorem sk(l:Cs):Hw (ue l) (sP l):=by
 have:=Hy l l.length (Nat.le_refl _)
 rwa [Au,Qk]at this
theorem fold_congr{cl uf:List Nat→Int×Int}{cx Zr:List Nat→Ex}(scope:Int)(hc: ∀s t,cl s=(t,0)→uf s=(t,0)∧Zr s=cx s)(x:Ex): ∀k,x.ty cl scope=(k,0)→x.ty uf scope=(k,0)∧x.fold uf Zr scope=x.fold cl cx scope:=by
 induction x using Ex.ind with
 |h x ih=>
  intro k ht
  by_cases h6:x.op=6
  ·rw[Ex.ty_eq,if_pos h6]at ht
   rw[Ex.ty_eq,if_pos h6,Ex.fold_eq,if_pos h6,Ex.fold_eq,if_pos h6]
   by_cases hz:dE scope x.name≠0
   ·rw[if_pos hz]at ht ⊢; rw[if_pos hz,if_pos hz];exact⟨ht,rfl⟩
   ·rw[if_neg hz]at ht ⊢; rw[if_neg hz,if_neg hz];exact hc _ _ ht
  ·obtain⟨ts,gI,hr,hk⟩:=kL ht h6
   have hl:fE uf scope x.args= .ok ts∧dm uf Zr scope x.args=dm cl cx scope x.args:=by
    clear ht hr
    generalize x.args=xs at ih gI
    induction xs generalizing ts with
    |nil=>rw[fE]at gI;cases gI;exact⟨rfl,rfl⟩
    |cons z zs Lh=>
     obtain⟨t,us,rfl,e1,e2⟩:=gY gI
     obtain⟨f1,f2⟩:=ih z (by simp) t e1
     obtain⟨g1,g2⟩:=Lh us (fun y hy=>ih y (by simp[hy])) e2
     rw[fE,dm,dm,f1,g1,f2,g2]
     exact⟨rfl,rfl⟩
   have ht':x.ty uf scope=(k,0):=by
    rw[Ex.ty_eq,if_neg h6,hl.1]
    show(if dk x.op ts=0 then((0:Int),(9:Int))else(dk x.op ts,0))=(k,0)
    rw[hr,if_neg hk]
   refine⟨ht', ?_⟩
   rw[Ex.fold_eq,Ex.fold_eq,if_neg h6,if_neg h6,hl.2,ht',ht]
theorem BR{l:Cs}{n:Nat}(hn:n≤l.length): ∀s t,CL l n s=(t,0)→ue l s=(t,0)∧DN (ue l) (sP l) s=DN (CL l n) (VX l n) s:=fun s t hs=>by
 obtain⟨i,lf,hi,_,hv,ht,ea,e1,e2,_⟩:=ov hn hs
 refine⟨ea, ?_⟩
 unfold DN
 rw[ea,hs,e1,e2]
def bX(l:Cs)(scope:Int)(x:Ex):Ex:=x.fold (ue l) (DN (ue l) (sP l)) scope
theorem yi(l:Cs)(scope:Int)(x:Ex){k:Int}(fy:x.wf=true)(ht:x.ty (ue l) scope=(k,0)):FK scope k (bX l scope x):=BS (As (sk l)) scope x k fy ht
theorem p8{l:Cs}{s:List Nat}{t:Int}(h:ue l s=(t,0)): ∃i,∃hi:i<l.length,cN l s=some i∧bF l[i].2=0∧l[i].2.ty (CL l i) 0=(t,0)∧l[i].2.ty (ue l) 0=(t,0)∧bX l 0 l[i].2=ew t (sP l s)∧Ar t (sP l s)∧ow l i=(t,0)∧sP l s=(lO l l.length).getD i 0:=by
 have h':=h
 rw[←Au]at h'
 obtain⟨i,lf,hi,hd,hv,ht,ea,e1,e2,e3⟩:=ov (Nat.le_refl _) h'
 obtain⟨c1,c2⟩:=fold_congr 0 (BR (Nat.le_of_lt lf)) l[i].2 t ht
 refine⟨i,lf,hd,hv,ht,c1, ?_,sk l s t h,e3, ?_⟩
 ·unfold bX
  rw[c2,(BO (Hy l i (Nat.le_of_lt lf)) 0 (fun s=>jE s) l[i].2 t (gZ hv) ht).1,e2]
 ·unfold sP IJ;rw[hd]
end Go.Proofs.YtfenhjpkomldcaaGreat
namespace Go.Proofs.YtfenhjpkomldcaaGreat
open Go Go.Ev
def Lj(op:Int)(ys:List Ex)(r:Ex):Prop:=r= .mk op 0 [] ys∨(∃a∈ys,r= .mk 19 0 [] [a])∨(∃a∈ys,r=a)∨(∃a∈ys,r=a.args.headD (bz 0 0))∨(∃n,r=bz n 0)
theorem dM{op:Int}{ys:List Ex}:Lj op ys (.mk op 0 [] ys):= .inl rfl
theorem Lk{op:Int}{ys:List Ex}{a:Ex}(h:a∈ys):Lj op ys (.mk 19 0 [] [a]):= .inr (.inl ⟨a,h,rfl⟩)
theorem eR{op:Int}{ys:List Ex}{a:Ex}(h:a∈ys):Lj op ys a:= .inr (.inr (.inl ⟨a,h,rfl⟩))
theorem yj{op:Int}{ys:List Ex}{a:Ex}(h:a∈ys):Lj op ys (a.args.headD (bz 0 0)):= .inr (.inr (.inr (.inl ⟨a,h,rfl⟩)))
theorem sn{op:Int}{ys:List Ex}(n:Int):Lj op ys (bz n 0):= .inr (.inr (.inr (.inr ⟨n,rfl⟩)))
theorem bT{op:Int}{ys:List Ex}{c:Prop}[Decidable c]{a b:Ex}(h1:Lj op ys a)(h2:Lj op ys b):Lj op ys (if c then a else b):=by split <;> assumption
theorem ug(op:Int)(ys:List Ex):Lj op ys (mB op ys):=by
 match ys with
 | []=>exact dM
 | [a]=>exact bT (yj (by simp)) dM
 | [a,b]=>
   have ha:a∈ [a,b]:=by simp
   have hb:b∈ [a,b]:=by simp
   rw[fY]
   unfold pk
   exact bT (bT (sn 5) (bT (eR hb) (bT (eR ha) dM)))
    (bT (bT (sn 4) (bT (eR hb) (bT (eR ha) dM)))
    (bT (bT (sn 4) (bT (eR hb) (bT (bT (yj ha) (Lk ha)) dM)))
    (bT (bT (eR ha) (bT (eR hb) dM))
    (bT (bT (eR ha) dM)
    (bT (bT (eR ha) (bT (eR hb) dM))
    (bT (bT (eR ha) dM) dM))))))
 | [a,b,c]=>exact bT (bT (eR (by simp)) (bT (eR (by simp)) dM)) dM
 |_::_::_::_::_=>exact dM
theorem Av(a:Ex):(a.args.headD (bz 0 0)).nodes≤a.nodes:=by
 rw[a.nodes_eq]
 cases a.args with
 |nil=>simp[bz,Ex.nodes,aR]
 |cons y ys=>rw[aR];show y.nodes≤_;omega
theorem Aw(op:Int)(ys:List Ex):(mB op ys).nodes≤1+aR ys:=by
 rcases ug op ys with h|⟨a,ha,h⟩|⟨a,ha,h⟩|⟨a,ha,h⟩|⟨n,h⟩ <;> rw[h]
 ·rw[Ex.nodes];exact Nat.le_refl _
 ·have:=cB ha
  rw[Ex.nodes,aR,aR];omega
 ·have:=cB ha;omega
 ·have:=cB ha
  have:=Av a;omega
 ·simp[bz,Ex.nodes,aR]
theorem m5(k n:Int):(ew k n).nodes≤2:=by
 unfold ew
 split
 ·split <;> simp[bz,Ex.nodes,aR]
 ·split
  ·simp[bz,Ex.nodes,aR]
  ·split <;> simp[bz,Ex.nodes,aR]
theorem so{cl:List Nat→Int×Int}{cx:List Nat→Ex}(hc: ∀s,(cx s).nodes≤2)(scope:Int)(x:Ex):(x.fold cl cx scope).nodes≤2*x.nodes:=by
 induction x using Ex.ind with
 |h x ih=>
  have Fu:1≤x.nodes:=by rw[x.nodes_eq];omega
  rw[Ex.fold_eq]
  split
  ·split
   ·omega
   ·have:=hc x.name;omega
  ·split
   ·omega
   ·have hl:aR (dm cl cx scope x.args)≤2*aR x.args:=by
     clear Fu
     generalize x.args=xs at ih
     induction xs with
     |nil=>simp[dm,aR]
     |cons z zs Lh=>
      have h1:=ih z (by simp)
      have h2:=Lh (fun y hy=>ih y (by simp[hy]))
      rw[dm,aR,aR];omega
    split
    ·have:=m5 (x.ty cl scope).1 (oG x.op ((dm cl cx scope x.args).map jo));omega
    ·have:=Aw x.op (dm cl cx scope x.args)
     rw[x.nodes_eq];omega
theorem mf(op num:Int):(bz op num).sm:=by
 rw[Ex.sm_eq];exact⟨Nat.zero_le _,trivial⟩
theorem BT(k n:Int):(ew k n).sm:=by
 unfold ew
 split
 ·split <;> exact mf _ _
 ·split
  ·exact mf _ _
  ·split
   ·rw[Ex.sm_eq];exact⟨Nat.zero_le _,mf _ _,trivial⟩
   ·exact mf _ _
theorem Ll(op:Int)(ys:List Ex)(hs:Hz ys):(mB op ys).sm:=by
 have hm:=mg.1 hs
 rcases ug op ys with h|⟨a,ha,h⟩|⟨a,ha,h⟩|⟨a,ha,h⟩|⟨n,h⟩ <;> rw[h]
 ·rw[Ex.sm_eq];exact⟨Nat.zero_le _,hs⟩
 ·rw[Ex.sm_eq];exact⟨Nat.zero_le _,hm a ha,trivial⟩
 ·exact hm a ha
 ·have h1:=((Ex.sm_eq a).1 (hm a ha)).2
  generalize a.args=l at h1
  cases l with
  |nil=>exact mf _ _
  |cons y ys=>exact h1.1
 ·exact mf _ _
theorem Lm{cl:List Nat→Int×Int}{cx:List Nat→Ex}(hc: ∀s,(cx s).sm)(scope:Int)(x:Ex):x.sm→(x.fold cl cx scope).sm:=by
 induction x using Ex.ind with
 |h x ih=>
  intro hs
  rw[Ex.fold_eq]
  split
  ·split
   ·exact hs
   ·exact hc _
  ·split
   ·exact hs
   ·have hl:Hz (dm cl cx scope x.args):=by
     have Bz:=((Ex.sm_eq x).1 hs).2
     generalize x.args=xs at ih Bz
     induction xs with
     |nil=>trivial
     |cons z zs Lh=>exact⟨ih z (by simp) Bz.1,Lh (fun y hy=>ih y (by simp[hy])) Bz.2⟩
    split
    ·exact BT _ _
    ·exact Ll _ _ hl
theorem yk(l:Cs)(scope:Int)(x:Ex):(bX l scope x).nodes≤2*x.nodes:=so (fun s=>m5 _ _) scope x
theorem HA(l:Cs)(scope:Int)(x:Ex)(h:x.sm):(bX l scope x).sm:=Lm (fun s=>BT _ _) scope x h
end Go.Proofs.YtfenhjpkomldcaaGreat
namespace Go.Proofs.YtfenhjpkomldcaaGreat
open Go Go.Ev
def Zs:List aA→List (List Nat×List T)
 |⟨_,.map ks vs _⟩::_=>(ks.zip vs).map fun p=>((match p.1 with| .s s=>s|_=> []),(match p.2 with| .agg c=>c|_=> []))
 |_=> []
theorem Ql(lT kT:T): ∀m,Zs (oo lT kT m)=m:=by
 intro m
 unfold Zs oo
 simp only
 induction m with
 |nil=>rfl
 |cons p m ih=>rw[List.map_cons,List.map_cons,List.zip_cons_cons,List.map_cons,ih];rfl
noncomputable def mL(E:Env)(n:Nat)(a:ba)(fr:Fr)(lh:aQ aA)(sh:List aA):List (List Nat×List T):=Zs (eJ E n a fr lh sh)
theorem NN{E:Env}{n:Nat}{a:ba}{fr:Fr}{lh:aQ aA}{sh:List aA}{lT kT:T}{P:List (List Nat×List T)→Prop}(h: ∃m,eJ E n a fr lh sh=oo lT kT m∧P m):eJ E n a fr lh sh=oo lT kT (mL E n a fr lh sh)∧P (mL E n a fr lh sh):=by
 obtain⟨m,h1,h2⟩:=h
 have:mL E n a fr lh sh=m:=by unfold mL;rw[h1,Ql]
 rw[this];exact⟨h1,h2⟩
theorem qM{cl:List Nat→Int×Int}{scope:Int}: ∀{xs:List Ex} {ts:List Int},fE cl scope xs= .ok ts→ ∀(k:Nat) (hk:k<xs.length),∃t,xs[k].ty cl scope=(t,0)
 | [],ts,h,k,hk=>by simp at hk
 |x::xs,ts,h,k,hk=>by
  obtain⟨t,us,rfl,e1,e2⟩:=gY h
  cases k with
  |zero=>exact⟨t,e1⟩
  |succ k=>exact qM e2 k (by simpa using hk)
theorem pq{cl:List Nat→Int×Int}{cx:List Nat→Ex}(hc:Qj cl cx)(scope:Int): ∀{xs:List Ex} {ts:List Int},fG xs=true→fE cl scope xs= .ok ts→uc scope ts (dm cl cx scope xs)
 | [],ts,_,h=>by rw[fE]at h;cases h;trivial
 |x::xs,ts,hw,h=>by
  obtain⟨t,us,rfl,e1,e2⟩:=gY h
  rw[fG,Bool.and_eq_true]at hw
  exact⟨BS hc scope x t hw.1 e1,pq hc scope hw.2 e2⟩
theorem p9{cl:List Nat→Int×Int}{cx:List Nat→Ex}(hc: ∀s,(cx s).nodes≤2)(scope:Int): ∀xs:List Ex,aR (dm cl cx scope xs)≤2*aR xs
 | []=>by simp[dm,aR]
 |x::xs=>by
  have h1:=so (cl:=cl) hc scope x
  have h2:=p9 (cl:=cl) hc scope xs
  rw[dm,aR,aR];omega
theorem DO(cl:List Nat→Int×Int)(cx:List Nat→Ex)(scope:Int)(xs:List Ex):(dm cl cx scope xs).length=xs.length:=by rw[pr,List.length_map]
def br(l:Cs)(scope:Int)(xs:List Ex):List Ex:=dm (ue l) (DN (ue l) (sP l)) scope xs
theorem kM(l:Cs)(scope:Int)(xs:List Ex):br l scope xs=xs.map (bX l scope):=pr _ _ _ _
theorem gw(l:Cs)(scope:Int)(xs:List Ex):(br l scope xs).length=xs.length:=DO _ _ _ _
section
variable(l:Cs)(lT kT:T)
def mN(m:List (List Nat×List T)):Prop:= ∀s cs,bJ m s=some cs→ ∃t,ue l s=(t,0)∧bj (ew t (sP l s)) cs∧yb cs
def IK(n:Nat)(m m':List (List Nat×List T)):Prop:= ∀s j,cN l s=some j→n≤j→bJ m' s=bJ m s
def NO(n:Nat)(scope:Int)(y:Ex):Prop:= ∀k m cs,mN l m→bj y cs→y.nodes≤200→y.wf=true→y.ty (CL l n) scope=(k,0)→
 ∃mw m',aa pE 54 [.ptr .S 1 1 0,.i .i64 scope,.agg cs] (oo lT kT m)=some (.agg mw,oo lT kT m')∧bj (bX l scope y) mw∧mN l m'∧IK l n m m'∧(scope=0→yb mw)
theorem UP(n:Nat)(scope:Int)(xs:List Ex)(ih: ∀y∈xs,NO l lT kT n scope y)(a:T)(cc:List T)(ha:aN a xs.length cc)(hx:aL xs cc)(hn:aR xs≤200)(fy:fG xs=true)(ts:List Int)(dR:fE (CL l n) scope xs= .ok ts)(m:List (List Nat×List T))(hm:mN l m)(op:T)(g g9:Nat)(c6:aA)(fr:Fr)(lh:aQ aA)(sh:List aA)(iy:sh=oo lT kT m)
  (h0:an fr 0= .ptr .S 1 1 0) (h1:an fr 1= .i .i64 scope) (h9:an fr 9= .ptr .L 9 g9 0) (tf:an fr 49=a) (sQ:an fr 50= .i .i64 (xs.length:Int)) (tg:an fr 51= .i .i64 0) (o6:aE lh 6=c6) (o9:aE lh 9=⟨g9,.cells [op,.i .i64 0,.s [],.isl .L 46 g 0 xs.length 4] 0 true⟩) (sR:aE lh 46=⟨g,.cells (repl [.i .i64 0,.i .i64 0,.s [],.nilsl] xs.length) 0 false⟩):
  DC pE 68 (.loop g8) ⟨fr,lh,sh⟩=some (.ext 0,⟨ev pE 68 g8 fr lh sh,eP pE 68 g8 fr lh sh,eJ pE 68 g8 fr lh sh⟩)∧
  (aE (eP pE 68 g8 fr lh sh) 6=c6∧aE (eP pE 68 g8 fr lh sh) 9=⟨g9,.cells [op,.i .i64 0,.s [],.isl .L 46 g 0 xs.length 4] 0 true⟩∧(∃cs,aE (eP pE 68 g8 fr lh sh) 46=⟨g,.cells cs 0 false⟩∧aL (br l scope xs) cs)∧(∃m',eJ pE 68 g8 fr lh sh=oo lT kT m'∧mN l m'∧IK l n m m')):=by
 refine a6 (P:=fun g7 dj cq=>aE dj 6=c6∧aE dj 9=⟨g9,.cells [op,.i .i64 0,.s [],.isl .L 46 g 0 xs.length 4] 0 true⟩∧(∃cs,aE dj 46=⟨g,.cells cs 0 false⟩∧aL (br l scope xs) cs)∧(∃m',cq=oo lT kT m'∧mN l m'∧IK l n m m'))
  (bt (fun k st=> ∃(fr:Fr) (dS:aQ aA) (A:List T) (m1:List (List Nat×List T)),st=⟨fr,dS,oo lT kT m1⟩∧an fr 0= .ptr .S 1 1 0∧an fr 1= .i .i64 scope∧an fr 9= .ptr .L 9 g9 0∧an fr 49=a∧an fr 50= .i .i64 (xs.length:Int)∧an fr 51= .i .i64 (k:Int)∧aE dS 6=c6∧aE dS 9=⟨g9,.cells [op,.i .i64 0,.s [],.isl .L 46 g 0 xs.length 4] 0 true⟩∧
    aE dS 46=⟨g,.cells (A++repl [.i .i64 0,.i .i64 0,.s [],.nilsl] (xs.length-k)) 0 false⟩∧aL (br l scope (xs.take k)) A∧mN l m1∧IK l n m m1) _ xs.length ?_ ?_ 0 _ (Nat.zero_le _) ⟨fr,lh,[],m,by rw[iy],h0,h1,h9,tf,sQ,tg,o6,o9,by rw[sR];rfl,by rw[List.take_zero];exact aL.nil,hm,fun _ _ _ _=>rfl⟩)
 ·rintro k _ hk ⟨fr,dS,A,m1,rfl,h0,h1,h9,tf,sQ,tg,o6,o9,sR,hA,UQ,yl⟩
  left
  have dN:(k:Int)<xs.length:=by omega
  have nR:=bE xs
  have NP:=cB (List.getElem_mem hk)
  have hw:=cE (k:=k) (c5 (by omega))
  obtain⟨b,cb,rr,cQ,fu,oq,hb⟩:=dV ha hx k hk
  obtain⟨t,ht⟩:=qM dR k hk
  obtain⟨cf,m2,aB,mK,A3,Ln,_⟩:=ih xs[k] (List.getElem_mem hk) t m1 _ UQ hb (by omega) (gL.1 fy _ (List.getElem_mem hk)) ht
  obtain⟨fa,fc,rfl,jl,NM⟩:=mK.cells
  have NQ:A.length=k*4:=by rw[hA.len,gw];simp;omega
  generalize hy:bX l scope xs[k]=y at*
  have Pb:(A++repl [T.i .i64 0,T.i .i64 0,T.s [],T.nilsl] (xs.length-k)).length=xs.length*4:=by rw[List.length_append,oy,NQ];simp;omega
  have NJ:splice (A++repl [T.i .i64 0,T.i .i64 0,T.s [],T.nilsl] (xs.length-k)) (k*4) [.i .i64 y.op,.i .i64 y.num,.s y.name,fa]=(A++ [.i .i64 y.op,.i .i64 y.num,.s y.name,fa])++repl [T.i .i64 0,T.i .i64 0,T.s [],T.nilsl] (xs.length-(k+1)):=by
   rw[show xs.length-k=(xs.length-(k+1))+1 by omega,mh,m6 A [T.i .i64 0,T.i .i64 0,T.s [],T.nilsl] _ [T.i .i64 y.op,T.i .i64 y.num,T.s y.name,fa] (k*4) NQ rfl]
  have HB:k*4+4≤xs.length*4:=by omega
  simp(maxDischargeDepth:=6) only[qF,ah,ai,ab,aj,ae,ak,splice,Nat.reduceAdd,reduceCtorEq,Nat.reduceLT,Nat.reduceLeDiff,Nat.reduceEqDiff,bV,aV,im,g8,h0,h1,h9,tf,sQ,tg,o9,sR,dN,cQ,hw,aB,IS,Yb,fu.kept1,jl.froz1,hk,Pb,NJ,HB]
  refine⟨_,rfl,_,_,A++ [.i .i64 y.op,.i .i64 y.num,.s y.name,fa],m2,rfl, ?_, ?_, ?_, ?_, ?_, ?_, ?_, ?_, ?_, ?_,A3,fun s j h1 h2=>by rw[Ln s j h1 h2,yl s j h1 h2]⟩
  all_goals first|(simp(maxDischargeDepth:=6) only[ab,ae,reduceCtorEq,Nat.reduceEqDiff,h0,h1,h9,tf,sQ,o6,o9];done)|skip
  rw[List.take_succ_eq_append_getElem hk,kM,List.map_append,←kM,List.map_cons,hy]
  exact aL.append hA (aL.one mK)
 ·rintro _ ⟨fr,dS,A,m1,rfl,h0,h1,h9,tf,sQ,tg,o6,o9,sR,hA,UQ,yl⟩
  rw[Nat.sub_self,show repl [T.i .i64 0,T.i .i64 0,T.s [],T.nilsl] 0= []from rfl,List.append_nil]at sR
  rw[List.take_length]at hA
  simp(maxDischargeDepth:=6) only[ah,ai,ab,ae,ak,Nat.reduceLT,g8,sQ,tg,Int.lt_irrefl]
  exact⟨_,_,(by simp:Out.ext 0≠ .nrm),rfl,rfl,o6,o9,⟨A,sR,hA⟩,m1,rfl,UQ,yl⟩
end
end Go.Proofs.YtfenhjpkomldcaaGreat
namespace Go.Proofs.YtfenhjpkomldcaaGreat
open Go Go.Ev
theorem IK.mono{l:Cs}{n n':Nat}{m m':List (List Nat×List T)}(h:IK l n m m')(hn:n≤n'):IK l n' m m':=fun s j h1 h2=>h s j h1 (by omega)
theorem NR{l:Cs}{n:Nat}(m9:n≤l.length): ∀{xs:List Ex} {ts:List Int},fG xs=true→fE (CL l n) 0 xs= .ok ts→(br l 0 xs).all isLit=true
 | [],ts,_,_=>rfl
 |x::xs,ts,hw,h=>by
  obtain⟨t,us,rfl,e1,e2⟩:=gY h
  rw[fG,Bool.and_eq_true]at hw
  have c1:=(fold_congr 0 (BR m9) x t e1).1
  obtain⟨f1,f2⟩:=BO (sk l) 0 (fun s=>jE s) x t hw.1 c1
  show(isLit (bX l 0 x)&&(br l 0 xs).all isLit)=true
  rw[NR m9 hw.2 e2,Bool.and_true]
  unfold bX
  rw[f1];exact(qL (scope:=0) f2).2.1
theorem HC{l:Cs}{n:Nat}(m9:n≤l.length){scope:Int}: ∀{xs:List Ex} {ts:List Int},fE (CL l n) scope xs= .ok ts→fE (ue l) scope xs= .ok ts
 | [],ts,h=>h
 |x::xs,ts,h=>by
  obtain⟨t,us,rfl,e1,e2⟩:=gY h
  have c1:=(fold_congr scope (BR m9) x t e1).1
  rw[fE,c1,HC m9 e2];rfl
section
variable(l:Cs)(lT kT:T)
def UR(i:Nat):Prop:= ∀s t m,cN l s=some i→ue l s=(t,0)→mN l m→ ∃cs m',aa pE 99 [.ptr .S 1 1 0,.s s] (oo lT kT m)=some (.agg cs,oo lT kT m')∧bj (ew t (sP l s)) cs∧yb cs∧mN l m'∧IK l (i+1) m m'
variable(BJ:froz kT=true)
include BJ
theorem Qm{n:Nat}(m9:n≤l.length){scope k:Int}{x:Ex}(fy:x.wf=true)(ht:x.ty (CL l n) scope=(k,0))(h6:x.op≠6)(dr:x.args.length≠0)(hn:x.nodes≤200)(X:List T)(hX:aL (br l scope x.args) X)(m:List (List Nat×List T)):
  ∃cs,aa pE 100 [.ptr .S 1 1 0,.agg [.i .i64 x.op,.i .i64 0,.s [],.sl X x.args.length false]] (oo lT kT m)=some (.agg cs,oo lT kT m)∧bj (bX l scope x) cs∧(scope=0→yb cs):=by
 obtain⟨h1,h2,aX,gr,iA,jC⟩:=er fy
 have h7:=vI h1 aX dr
 obtain⟨ts,gI,hr,hk⟩:=kL ht h6
 have Zt:=HC m9 gI
 have kZ:uc scope ts (br l scope x.args):=pq (As (sk l)) scope jC Zt
 have hlen:=gw l scope x.args
 have hnd:aR (br l scope x.args)≤2*aR x.args:=p9 (fun s=>m5 _ _) scope x.args
 have hxn:=x.nodes_eq
 have hta:=(fold_congr scope (BR m9) x k ht).1
 have V9:aN (.sl X x.args.length false) (br l scope x.args).length X:=Or.inr ⟨false,by rw[hlen]⟩
 have je:bX l scope x=if(br l scope x.args).all isLit then ew k (oG x.op ((br l scope x.args).map jo))else mB x.op (br l scope x.args):=by
  unfold bX
  rw[Ex.fold_eq,if_neg h6,if_neg (by simp;intro h;rw[h]at dr;exact dr rfl),hta]
  rfl
 rw[je]
 cases aU:(br l scope x.args).all isLit with
 |true=>
  rw[if_pos rfl]
  obtain⟨cs,e1,e2,e3⟩:=DK lT kT BJ kZ aU h7 h2 (by rw[hlen];exact aX) hr hk (by omega) (.sl X x.args.length false) X V9 hX m
  exact⟨cs,e1,e2,fun _=>e3⟩
 |false=>
  rw[if_neg (by simp)]
  obtain⟨cs,e1,e2⟩:=Lc lT kT m aU kZ.wf h7 h2 (by rw[hlen];exact aX) (by omega) (.sl X x.args.length false) X V9 hX
  refine⟨cs,e1,e2,fun h0=> ?_⟩
  subst h0
  rw[NR m9 jC gI]at aU;cases aU
theorem BU(n:Nat)(m9:n≤l.length)(hc: ∀j,j<n→UR l lT kT j)(scope:Int)(x:Ex):NO l lT kT n scope x:=by
 induction x using Ex.ind with
 |h x ih=>
  intro k m cs hm hx hn fy ht
  obtain⟨a,cc,rfl,ha,g5⟩:=hx.cells
  obtain⟨h1,h2,aX,gr,iA,jC⟩:=er fy
  have hnd:=x.nodes_eq
  rw[aD OD (by simp[L3])]
  by_cases h6:x.op=6
  ·have gm:=xY scope x.name
   unfold k6 at gm
   rw[Ex.ty_eq,if_pos h6]at ht
   by_cases hz:dE scope x.name=0
   ·rw[if_neg (by simp[hz])]at ht
    rw[if_pos hz,hz]at gm
    obtain⟨i,lf,kH,th,_,_,DP,_⟩:=ov m9 ht
    obtain⟨c1,m1,aB,jO,hT,UQ,wx⟩:=hc i kH x.name k m th DP hm
    obtain⟨c2,Qn,HD,hT2⟩:=Hv hT jO
    have je:bX l scope x=ew k (sP l x.name):=by
     unfold bX
     rw[Ex.fold_eq,if_pos h6,if_neg (by simp[hz])];unfold DN;rw[DP]
    rw[je]
    generalize ew k (sP l x.name)=y at*
    obtain⟨ca,cb,rfl,oX,wy⟩:=jO.cells
    obtain⟨da,db,rfl,wv,Nu⟩:=HD.cells
    simp(maxDischargeDepth:=6) only[qF,ah,ai,ab,aj,ae,ak,aG,splice,aF,Nat.reduceAdd,reduceCtorEq,Nat.reduceLT,Nat.reduceLeDiff,Nat.reduceEqDiff,Int.reduceEq,im,L3,h6,gm,CC,aB,Yl,Qn,R6,oX.froz1,wv.froz1]
    exact⟨_,m1,rfl,HD,UQ,wx.mono (by omega),fun _=>hT2⟩
   ·rw[if_neg hz]at gm
    have je:bX l scope x=x:=by
     unfold bX
     rw[Ex.fold_eq,if_pos h6,if_pos hz]
    rw[je]
    rw[h6]at gr aX
    have US:x.num=0:=by simp[ga]at gr;omega
    have iB:x.args.length=0:=by simpa[aW]using aX
    have Zu:bj x [.i .i64 6,.i .i64 0,.s x.name,.nilsl]:=by
     have:=bj.of (x:=x) (a:= .nilsl) (cc:= []) (by rw[iB];exact cD) (by rw[List.length_eq_zero_iff.1 iB];exact aL.nil)
     rw[h6,US]at this;exact this
    simp(maxDischargeDepth:=6) only[qF,ah,ai,ab,aj,ae,ak,aG,splice,aF,Nat.reduceAdd,reduceCtorEq,Nat.reduceLT,Nat.reduceLeDiff,Nat.reduceEqDiff,L3,h6,gm,CC]
    exact⟨_,m,rfl,Zu,hm,fun _ _ _ _=>rfl,fun h0=>by rw[h0]at hz;exact absurd (jE _) hz⟩
  ·rw[if_neg h6]at iA
   by_cases iB:x.args.length=0
   ·have je:bX l scope x=x:=by
     unfold bX
     rw[Ex.fold_eq,if_neg h6,if_pos (by simp[List.length_eq_zero_iff.1 iB])]
    rw[je]
    have Zu:bj x [.i .i64 x.op,.i .i64 x.num,.s [],.nilsl]:=by
     have:=bj.of (x:=x) (a:= .nilsl) (cc:= []) (by rw[iB];exact cD) (by rw[List.length_eq_zero_iff.1 iB];exact aL.nil)
     rw[iA]at this;exact this
    have gH:=ha.lenI
    rw[iB]at gH
    simp(maxDischargeDepth:=6) only[qF,ah,ai,ab,aj,ae,ak,aG,splice,aF,Nat.reduceAdd,reduceCtorEq,Nat.reduceLT,Nat.reduceLeDiff,Nat.reduceEqDiff,L3,h6,gH]
    exact⟨_,m,rfl,Zu,hm,fun _ _ _ _=>rfl,fun _=> .inl ⟨_,_,rfl⟩⟩
   ·obtain⟨ts,gI,hr,hk⟩:=kL ht h6
    have sM:=bE x.args
    have qA:x.args.length≤gi:=c5 (by omega)
    have Qo:x.args.length*56≤roomy∧x.args.length≤roomy:=by unfold gi at qA;unfold roomy;omega
    have qa:=fun c6 fr lh sh iy h0 h1 h9 tf sQ tg o6 o9 sR=>UP l lT kT n scope x.args (fun y hy=>ih y hy) a cc ha g5 (by omega) jC ts gI m hm (.i .i64 x.op) 1 1 c6 fr lh sh iy h0 h1 h9 tf sQ tg o6 o9 sR
    have Lo:=fun fr lh sh iy h0 h1 h9 tf sQ tg o6 o9 sR=>qa ⟨1,.cells [.i .i64 0,.i .i64 0,.s [],.nilsl] 0 true⟩ fr lh sh iy h0 h1 h9 tf sQ tg o6 o9 sR
    have hL:=fun fr lh sh iy h0 h1 h9 tf sQ tg o6 o9 sR=>And.intro (Lo fr lh sh iy h0 h1 h9 tf sQ tg o6 o9 sR).1 (And.intro (Lo fr lh sh iy h0 h1 h9 tf sQ tg o6 o9 sR).2.1 (And.intro (Lo fr lh sh iy h0 h1 h9 tf sQ tg o6 o9 sR).2.2.1 (And.intro (vv (Lo fr lh sh iy h0 h1 h9 tf sQ tg o6 o9 sR).2.2.2.1).1 (NN (Lo fr lh sh iy h0 h1 h9 tf sQ tg o6 o9 sR).2.2.2.2).1)))
    have hF:=fun fr lh sh iy h0 h1 h9 tf sQ tg o6 o9 sR=>(vv (Lo fr lh sh iy h0 h1 h9 tf sQ tg o6 o9 sR).2.2.2.1).2
    have hM:=fun fr lh sh iy h0 h1 h9 tf sQ tg o6 o9 sR=>(NN (Lo fr lh sh iy h0 h1 h9 tf sQ tg o6 o9 sR).2.2.2.2).2
    have ym:=fun fr lh sh iy h0 h1 h9 tf sQ tg o6 o9 sR=>(hF fr lh sh iy h0 h1 h9 tf sQ tg o6 o9 sR).len
    rw[gw]at ym
    have Lp: ¬(x.args.length:Int)=0:=by omega
    simp(maxDischargeDepth:=6) only[qF,ah,ai,ab,aj,ae,ak,Nat.reduceShiftRight,Nat.reduceMod,aG,rO,vg,splice,aF,Nat.reduceAdd,reduceCtorEq,Nat.reduceLT,Nat.reduceLeDiff,Nat.reduceEqDiff,bV,gX,aV,vA,im,L3,wD,h6,ha.lenI,Lp,Qo,hL,ym,R9]
    generalize hX:Ai _ _=X
    generalize hMX:mL _ _ _ _ _ _=m'
    have Qp:aL (br l scope x.args) X:=by
     rw[←hX]
     refine hF _ _ _ rfl ?_ ?_ ?_ ?_ ?_ ?_ ?_ ?_ ?_ <;> simp(maxDischargeDepth:=6) only[ab,ae,reduceCtorEq,Nat.reduceEqDiff]
    have hMF:mN l m'∧IK l n m m':=by
     rw[←hMX]
     refine hM _ _ _ rfl ?_ ?_ ?_ ?_ ?_ ?_ ?_ ?_ ?_ <;> simp(maxDischargeDepth:=6) only[ab,ae,reduceCtorEq,Nat.reduceEqDiff]
    have UT:=Qp.len
    rw[gw]at UT
    rw[←UT,List.take_length]
    obtain⟨c1,aB,jO,hT⟩:=Qm l lT kT BJ m9 fy ht h6 iB hn X Qp m'
    generalize bX l scope x=y at*
    obtain⟨ca,cb,rfl,oX,wy⟩:=jO.cells
    simp(maxDischargeDepth:=6) only[qF,ah,ai,ab,aj,ae,ak,Nat.reduceShiftRight,Nat.reduceMod,splice,Nat.reduceAdd,reduceCtorEq,Nat.reduceEqDiff,wD,hL,aB,oX.froz1]
    exact⟨_,m',rfl,jO,hMF.1,hMF.2,hT⟩
end
end Go.Proofs.YtfenhjpkomldcaaGreat
