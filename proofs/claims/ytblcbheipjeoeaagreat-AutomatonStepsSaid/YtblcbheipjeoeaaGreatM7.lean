/- Simplified nodes keep their types: plain. Simplified forms keep their types: plain. Constants and their values; simplified forms by them. The compiler of formulas: its tables. Conditions: the theorems' own. -/
import Derived.Test.YtblcbheipjeoeaaGreatM6
import Derived.KernelRfl
set_option maxRecDepth 100000
set_option linter.unusedSimpArgs false
set_option linter.unusedVariables false
set_option maxHeartbeats 16000000
namespace Go.Proofs.YtblcbheipjeoeaaGreat
open Go Go.Ev
def aox(op:Int)(a b:Ex):Ex:=
    if op=20 then(if a.op=5∨b.op=5 then k7 5 0 else if a.op=4 then b else if b.op=4 then a else .mk op 0 [] [a,b])
    else if op=21 then(if a.op=4∨b.op=4 then k7 4 0 else if a.op=5 then b else if b.op=5 then a else .mk op 0 [] [a,b])
    else if op=22 then(if a.op=5∨b.op=4 then k7 4 0 else if a.op=4 then b else if b.op=5 then(if a.op=19 then a.args.headD (k7 0 0)else .mk 19 0 [] [a])else .mk op 0 [] [a,b])
    else if op=8 then(if De b then a else if De a then b else .mk op 0 [] [a,b])
    else if op=9 then(if De b then a else .mk op 0 [] [a,b])
    else if op=10 then(if M6 b then a else if M6 a then b else .mk op 0 [] [a,b])
    else if op=11 then(if M6 b then a else .mk op 0 [] [a,b])
    else .mk op 0 [] [a,b]
theorem ajM(op:Int)(a b:Ex):abp op [a,b]=aox op a b:=rfl
end Go.Proofs.YtblcbheipjeoeaaGreat
namespace Go.Proofs.YtblcbheipjeoeaaGreat
open Go Go.Ev
theorem Ex.fold_eq(cl:List Nat→Int×Int)(cx:List Nat→Ex)(scope:Int)(x:Ex):x.fold cl cx scope=
  if x.op=6 then(if jc scope x.name≠0 then x else cx x.name)
  else if x.args.isEmpty then x
  else if(qZ cl cx scope x.args).all isLit then uP (x.ty cl scope).1 (NG x.op ((qZ cl cx scope x.args).map VS))
  else abp x.op (qZ cl cx scope x.args):=by obtain⟨_,_,_,_⟩:=x;rw[Ex.fold];rfl
theorem zK{cl:List Nat→Int×Int}{scope k:Int}{x:Ex}(ht:x.ty cl scope=(k,0))(h6:x.op≠6): ∃ts,pB cl scope x.args= .ok ts∧kO x.op ts=k∧k≠0:=by
 rw[Ex.ty_eq,if_neg h6]at ht
 cases hr:pB cl scope x.args with
 |error e=>
  rw[hr]at ht
  have hh:((0:Int),e)=(k,0):=ht
  injection hh with _ h0
  exact absurd h0 (Lb hr)
 |ok ts=>
  rw[hr]at ht
  have hh:(if kO x.op ts=0 then((0:Int),(9:Int))else(kO x.op ts,0))=(k,0):=ht
  split at hh
  ·cases hh
  ·rename_i jC
   have e1:kO x.op ts=k:=by injection hh
   exact⟨ts,rfl,e1,by rw[←e1];exact jC⟩
theorem xq{cl:List Nat→Int×Int}{scope:Int}{x:Ex}{xs:List Ex}{ts:List Int}(h:pB cl scope (x::xs)= .ok ts): ∃t us,ts=t::us∧x.ty cl scope=(t,0)∧pB cl scope xs= .ok us:=by
 rw[pB]at h
 split at h
 ·cases h
 ·rename_i h0
  cases hx:pB cl scope xs with
  |error e=>rw[hx]at h;cases h
  |ok us=>
   rw[hx]at h;cases h
   have e2:(x.ty cl scope).2=0:=by simpa using h0
   exact⟨_,us,rfl,by rw[←e2],rfl⟩
theorem zL{x:Ex}(h:x.wf=true):1≤x.op∧x.op≤22∧iI x.op x.args.length=true∧(0≤x.num∧x.num≤pz x.op)∧(if x.op=6 then pv x.name=true else x.name= [])∧sk x.args=true:=by
 rw[Ex.wf_eq,Bool.and_eq_true]at h
 obtain⟨lU,E3⟩:=h
 simp only[nE,Bool.and_eq_true,decide_eq_true_eq]at lU
 obtain⟨h1,h2,h3,h4,h5⟩:=lU
 refine⟨h1,h2,h3,h4, ?_,E3⟩
 split at h5 <;> rename_i e
 ·rw[if_pos e];exact h5
 ·rw[if_neg e];simpa using h5
theorem abW{op:Int}{n:Nat}(h1:1≤op)(iA:iI op n=true)(hn:n≠0):7≤op:=by
 by_cases h:op≤6
 ·simp[iI,h]at iA;omega
 ·omega
theorem Wl{op:Int}{n:Nat}(h2:op≤22)(iA:iI op n=true)(hn:n=0):op≤6:=by
 subst hn
 by_cases h:op≤6
 ·exact h
 ·rcases oQ (show 1≤op by omega) h2 with rfl|rfl|rfl|rfl|rfl|rfl|rfl|rfl|rfl|rfl|rfl|rfl|rfl|rfl|rfl|rfl|rfl|rfl|rfl|rfl|rfl|rfl <;> simp[iI]at iA h
end Go.Proofs.YtblcbheipjeoeaaGreat
namespace Go.Proofs.YtblcbheipjeoeaaGreat
open Go Go.Ev
mutual
def Ex.val0(vx:List Nat→Int):Ex→Int
 | .mk op num name args=>if op=6 then vx name else if op=1∨op=2∨op=3 then num else if op=4 then 1 else if op=5 then 0 else NG op (ue vx args)
def ue(vx:List Nat→Int):List Ex→List Int
 | []=> []
 |x::xs=>x.val0 vx::ue vx xs
end
theorem Ex.val0_eq(vx:List Nat→Int)(x:Ex):x.val0 vx=if x.op=6 then vx x.name else if x.op=1∨x.op=2∨x.op=3 then x.num else if x.op=4 then 1 else if x.op=5 then 0 else NG x.op (ue vx x.args):=by obtain⟨_,_,_,_⟩:=x;rw[Ex.val0];rfl
def YN(cl:List Nat→Int×Int)(vx:List Nat→Int)(s:List Nat):Ex:=uP (cl s).1 (vx s)
def Sl(cl:List Nat→Int×Int)(vx:List Nat→Int):Prop:= ∀s t,cl s=(t,0)→Js t (vx s)
theorem Sm{cl:List Nat→Int×Int}{scope:Int}{x:Ex}{k:Int}(uE:x.wf=true)(ht:x.ty cl scope=(k,0))(h6:x.op≠6)(jW:x.args= []):x=uP k (if x.op=1∨x.op=2∨x.op=3 then x.num else if x.op=4 then 1 else 0)∧Js k (if x.op=1∨x.op=2∨x.op=3 then x.num else if x.op=4 then 1 else 0)∧x.op≤5:=by
 obtain⟨h1,h2,iA,Ju,BL,E3⟩:=zL uE
 have h5:x.op≤6:=Wl h2 iA (by rw[jW];rfl)
 rw[Ex.ty_eq,if_neg h6,jW,pB]at ht
 rw[if_neg h6]at BL
 obtain⟨op,num,name,args⟩:=x
 simp only[Ex.op,Ex.num,Ex.name,Ex.args]at*
 subst BL jW
 have BO:op=1∨op=2∨op=3∨op=4∨op=5:=by omega
 rcases BO with rfl|rfl|rfl|rfl|rfl
 all_goals
  simp[kO]at ht
  subst ht
  simp[pz]at Ju
 ·refine⟨?_,.inl ⟨.inl rfl, ?_⟩,by decide⟩
  ·simp[uP,k7];omega
  ·simp[bd];omega
 ·refine⟨?_,.inl ⟨.inr rfl, ?_⟩,by decide⟩
  ·simp[uP,k7];omega
  ·simp[bd];omega
 ·refine⟨?_,.inr (.inl ⟨rfl, ?_⟩),by decide⟩
  ·simp[uP,k7]
  ·simpa using Ju
 ·refine⟨?_,.inr (.inr ⟨rfl,.inr rfl⟩),by decide⟩
  simp[uP,k7];omega
 ·refine⟨?_,.inr (.inr ⟨rfl,.inl rfl⟩),by decide⟩
  simp[uP,k7];omega
theorem Lc{cl:List Nat→Int×Int}{vx:List Nat→Int}(hc:Sl cl vx)(scope:Int)(k6: ∀s,jc scope s=0)(x:Ex): ∀k,x.wf=true→x.ty cl scope=(k,0)→x.fold cl (YN cl vx) scope=uP k (x.val0 vx)∧Js k (x.val0 vx):=by
 induction x using Ex.ind with
 |h x ih=>
  intro k uE ht
  obtain⟨h1,h2,iA,Ju,BL,E3⟩:=zL uE
  rw[Ex.fold_eq,Ex.val0_eq]
  by_cases h6:x.op=6
  ·rw[if_pos h6,if_pos h6]
   rw[Ex.ty_eq,if_pos h6,if_neg (by simp[k6])]at ht
   rw[if_neg (by simp[k6])]
   exact⟨by unfold YN;rw[ht],hc _ _ ht⟩
  rw[if_neg h6,if_neg h6]
  by_cases he:x.args.isEmpty=true
  ·rw[if_pos he]
   have jW:x.args= []:=by simpa using he
   obtain⟨e1,e2,e3⟩:=Sm uE ht h6 jW
   by_cases hq:x.op=1∨x.op=2∨x.op=3
   ·rw[if_pos hq]at e1 e2 ⊢; exact⟨e1,e2⟩
   ·rw[if_neg hq]at e1 e2 ⊢
    by_cases h4:x.op=4
    ·rw[if_pos h4]at e1 e2 ⊢; exact⟨e1,e2⟩
    ·rw[if_neg h4]at e1 e2 ⊢
     rw[if_pos (by omega)];exact⟨e1,e2⟩
  ·rw[if_neg he]
   have jC:x.args.length≠0:=by
    intro h;exact he (by simp[List.length_eq_zero_iff.1 h])
   have h7:=abW h1 iA jC
   obtain⟨ts,uI,hr,hk⟩:=zK ht h6
   have SN:yj ts (ue vx x.args)∧(qZ cl (YN cl vx) scope x.args).all isLit=true∧(qZ cl (YN cl vx) scope x.args).map VS=ue vx x.args:=by
    clear ht iA jC he hr uE Ju BL
    generalize x.args=xs at ih uI E3
    induction xs generalizing ts with
    |nil=>rw[pB]at uI;cases uI;exact⟨trivial,rfl,rfl⟩
    |cons z zs ihz=>
     obtain⟨t,us,rfl,e1,e2⟩:=xq uI
     rw[sk,Bool.and_eq_true]at E3
     obtain⟨f1,f2⟩:=ih z (by simp) t E3.1 e1
     obtain⟨g1,g2,g3⟩:=ihz us (fun y hy=>ih y (by simp[hy])) e2 E3.2
     rw[qZ,ue,f1]
     obtain⟨_,q1,q2⟩:=EU (scope:=scope) f2
     refine⟨⟨f2,g1⟩, ?_, ?_⟩
     ·rw[List.all_cons,q1,g2];rfl
     ·rw[List.map_cons,q2,g3]
   obtain⟨i1,i2,i3⟩:=SN
   have hlen:ts.length=x.args.length:=xm uI
   rw[if_pos i2,i3,ht,if_neg (by omega),if_neg (by omega),if_neg (by omega)]
   exact⟨rfl,(YM i1 h7 h2 (by rw[hlen];exact iA) hr hk).2⟩
def vxk(l:Cs)(tab:List Int)(s:List Nat):Int:=match jl l s with
 |none=>0
 |some i=>tab.getD i 0
def Dt(l:Cs):Nat→List Int
 |0=> []
 |n+1=>Dt l n++ [if(Ce (l.take n) (jw l n) (l.getD n ([],.mk 0 0 [] [])).2).2=0 then(l.getD n ([],.mk 0 0 [] [])).2.val0 (vxk (l.take n) (Dt l n))else 0]
theorem zM(l:Cs): ∀n,(Dt l n).length=n
 |0=>rfl
 |n+1=>by rw[Dt,List.length_append,zM l n];rfl
theorem Sn(l:Cs){n:Nat}(h:n<l.length):Dt l (n+1)=Dt l n++ [if(Ce (l.take n) (jw l n) l[n].2).2=0 then l[n].2.val0 (vxk (l.take n) (Dt l n))else 0]:=by
 rw[Dt,List.getD_eq_getElem?_getD,List.getElem?_eq_getElem h];rfl
theorem Ld(l:Cs)(n:Nat): ∀k,∃r,Dt l (n+k)=Dt l n++r
 |0=>⟨[],by simp⟩
 |k+1=>by
  obtain⟨r,h⟩:=Ld l n k
  rw[←Nat.add_assoc,Dt,h]
  exact⟨_,List.append_assoc _ _ _⟩
theorem Le(l:Cs){n i:Nat}(hn:n≤l.length)(hi:i<n):(Dt l n).getD i 0=(Dt l l.length).getD i 0:=by
 obtain⟨r,h⟩:=Ld l n (l.length-n)
 rw[show n+(l.length-n)=l.length by omega]at h
 rw[h,List.getD_eq_getElem?_getD,List.getD_eq_getElem?_getD,List.getElem?_append_left (by rw[zM];exact hi)]
def CL(l:Cs)(n:Nat):List Nat→Int×Int:=xh (l.take n) (jw l n)
def VX(l:Cs)(n:Nat):List Nat→Int:=vxk (l.take n) (Dt l n)
def I5(l:Cs):List Nat→Int×Int:=xh l (jw l l.length)
def sa(l:Cs):List Nat→Int:=vxk l (Dt l l.length)
theorem Bo(l:Cs):CL l l.length=I5 l:=by unfold CL I5;rw[List.take_length]
theorem abY(l:Cs):VX l l.length=sa l:=by unfold VX sa;rw[List.take_length]
theorem zN{l:Cs}{n:Nat}(hn:n≤l.length){s:List Nat}{t:Int}(h:CL l n s=(t,0)): ∃i,∃hi:i<l.length,i<n∧jl l s=some i∧fP l[i].2=0∧l[i].2.ty (CL l i) 0=(t,0)∧I5 l s=(t,0)∧VX l n s=l[i].2.val0 (VX l i)∧sa l s=l[i].2.val0 (VX l i)∧tq l i=(t,0):=by
 unfold CL xh at h
 rw[yc]at h
 cases hd:jl l s with
 |none=>rw[hd]at h;simp at h
 |some i=>
  rw[hd]at h
  simp only at h
  by_cases hi:i<n
  ·rw[if_pos hi]at h
   simp only at h
   have qP:i<l.length:=EL hd
   rw[BH l hn hi]at h
   have he:tq l i=(t,0):=h
   have Tn:=he
   rw[Ej l qP]at he
   have B4:=he
   unfold Ce at he
   by_cases hv:fP l[i].2≠0
   ·rw[if_pos hv]at he;injection he with _ he;exact absurd he hv
   ·rw[if_neg hv]at he
    have sZ:(Dt l l.length).getD i 0=l[i].2.val0 (VX l i):=by
     rw[←Le l (n:=i+1) (by omega) (by omega),Sn l qP,List.getD_eq_getElem?_getD,List.getElem?_append_right (by rw[zM];omega),zM,Nat.sub_self,B4]
     rfl
    refine⟨i,qP,hi,rfl,by simpa using hv,he, ?_, ?_, ?_,Tn⟩
    ·unfold I5 xh;rw[hd];exact h
    ·unfold VX vxk
     rw[yc,hd]
     simp only[if_pos hi]
     rw[Le l hn hi,sZ];rfl
    ·unfold sa vxk;rw[hd];exact sZ
  ·rw[if_neg hi]at h;simp at h
theorem ra(s:List Nat):jc 0 s=0:=by unfold jc;rfl
theorem YP(l:Cs): ∀n,n≤l.length→Sl (CL l n) (VX l n):=by
 intro n
 induction n using Nat.strongRecOn with
 |ind n ih=>
  intro hn s t hs
  obtain⟨i,qP,hi,_,hv,ht,_,e,_⟩:=zN hn hs
  rw[e]
  exact(Lc (ih i hi (by omega)) 0 (fun s=>ra s) l[i].2 t (oP hv) ht).2
theorem Jv(l:Cs):Sl (I5 l) (sa l):=by
 have:=YP l l.length (Nat.le_refl _)
 rwa [Bo,abY]at this
theorem fold_congr{cl C4:List Nat→Int×Int}{cx cx':List Nat→Ex}(scope:Int)(hc: ∀s t,cl s=(t,0)→C4 s=(t,0)∧cx' s=cx s)(x:Ex): ∀k,x.ty cl scope=(k,0)→x.ty C4 scope=(k,0)∧x.fold C4 cx' scope=x.fold cl cx scope:=by
 induction x using Ex.ind with
 |h x ih=>
  intro k ht
  by_cases h6:x.op=6
  ·rw[Ex.ty_eq,if_pos h6]at ht
   rw[Ex.ty_eq,if_pos h6,Ex.fold_eq,if_pos h6,Ex.fold_eq,if_pos h6]
   by_cases hz:jc scope x.name≠0
   ·rw[if_pos hz]at ht ⊢; rw[if_pos hz,if_pos hz];exact⟨ht,rfl⟩
   ·rw[if_neg hz]at ht ⊢; rw[if_neg hz,if_neg hz];exact hc _ _ ht
  ·obtain⟨ts,uI,hr,hk⟩:=zK ht h6
   have hl:pB C4 scope x.args= .ok ts∧qZ C4 cx' scope x.args=qZ cl cx scope x.args:=by
    clear ht hr
    generalize x.args=xs at ih uI
    induction xs generalizing ts with
    |nil=>rw[pB]at uI;cases uI;exact⟨rfl,rfl⟩
    |cons z zs ihz=>
     obtain⟨t,us,rfl,e1,e2⟩:=xq uI
     obtain⟨f1,f2⟩:=ih z (by simp) t e1
     obtain⟨g1,g2⟩:=ihz us (fun y hy=>ih y (by simp[hy])) e2
     rw[pB,qZ,qZ,f1,g1,f2,g2]
     exact⟨rfl,rfl⟩
   have ht':x.ty C4 scope=(k,0):=by
    rw[Ex.ty_eq,if_neg h6,hl.1]
    show(if kO x.op ts=0 then((0:Int),(9:Int))else(kO x.op ts,0))=(k,0)
    rw[hr,if_neg hk]
   refine⟨ht', ?_⟩
   rw[Ex.fold_eq,Ex.fold_eq,if_neg h6,if_neg h6,hl.2,ht',ht]
theorem ajO{l:Cs}{n:Nat}(hn:n≤l.length): ∀s t,CL l n s=(t,0)→I5 l s=(t,0)∧YN (I5 l) (sa l) s=YN (CL l n) (VX l n) s:=fun s t hs=>by
 obtain⟨i,qP,hi,_,hv,ht,ea,e1,e2,_⟩:=zN hn hs
 refine⟨ea, ?_⟩
 unfold YN
 rw[ea,hs,e1,e2]
def So(l:Cs)(scope:Int)(x:Ex):Ex:=x.fold (I5 l) (YN (I5 l) (sa l)) scope
theorem Hv{l:Cs}{s:List Nat}{t:Int}(h:I5 l s=(t,0)): ∃i,∃hi:i<l.length,jl l s=some i∧fP l[i].2=0∧l[i].2.ty (CL l i) 0=(t,0)∧l[i].2.ty (I5 l) 0=(t,0)∧So l 0 l[i].2=uP t (sa l s)∧Js t (sa l s)∧tq l i=(t,0)∧sa l s=(Dt l l.length).getD i 0:=by
 have h':=h
 rw[←Bo]at h'
 obtain⟨i,qP,hi,hd,hv,ht,ea,e1,e2,e3⟩:=zN (Nat.le_refl _) h'
 obtain⟨c1,c2⟩:=fold_congr 0 (ajO (Nat.le_of_lt qP)) l[i].2 t ht
 refine⟨i,qP,hd,hv,ht,c1, ?_,Jv l s t h,e3, ?_⟩
 ·unfold So
  rw[c2,(Lc (YP l i (Nat.le_of_lt qP)) 0 (fun s=>ra s) l[i].2 t (oP hv) ht).1,e2]
 ·unfold sa vxk;rw[hd]
end Go.Proofs.YtblcbheipjeoeaaGreat
namespace Go.Proofs.YtblcbheipjeoeaaGreat
open Go Go.Ev
def je(ns:List (List Nat))(i:Nat):List (List Nat×Nat):=(ns.take i).zipIdx
theorem Sq{ns:List (List Nat)}{i:Nat}(hi:i<ns.length):je ns (i+1)=je ns i++ [(ns[i],i)]:=by
 unfold je
 rw[List.take_succ_eq_append_getElem hi,List.zipIdx_append]
 simp[List.length_take,Nat.min_eq_left (Nat.le_of_lt hi)]
theorem Sr{ns:List (List Nat)}(hnd:ns.Nodup){i:Nat}(hi:i<ns.length):fO (je ns i) ns[i]=none:=by
 have key: ∀(m:List (List Nat×Nat)) (s:List Nat),(∀p∈m,p.1≠s)→fO m s=none:=by
  intro m s h
  induction m with
  |nil=>rfl
  |cons p m ih=>
   rw[fO,if_neg (fun e=>h p (List.mem_cons_self ..) e.symm)]
   exact ih fun q hq=>h q (List.mem_cons_of_mem _ hq)
 refine key _ _ fun p hp e=> ?_
 have hm:p.1∈ns.take i:=List.fst_mem_of_mem_zipIdx hp
 rw[e]at hm
 obtain⟨j,hj,hjj⟩:=List.getElem_of_mem hm
 rw[List.length_take]at hj
 rw[List.getElem_take]at hjj
 exact List.pairwise_iff_getElem.1 hnd j i (by omega) hi (by omega) hjj
def oU(lT:T)(m:List (List Nat×Nat))(kn:List (Nat×Int))(c0 c1 c2 c3:T)(ms:List (List (List Nat×Nat))):List fg:=
 ⟨1,.map (m.map fun p=>sK p.1) (m.map fun p=>nK p.2) false⟩::⟨1,.map (kn.map fun p=>nK p.1) (kn.map fun p=>iV p.2) false⟩::⟨1,.cells [lT,.mp .S 0 1,.mp .S 1 1,c0,c1,c2,c3] 0 true⟩::ms.map fun p=>⟨1,.map (p.map fun p=>sK p.1) (p.map fun p=>nK p.2) false⟩
section
variable(lT:T)(m:List (List Nat×Nat))(kn:List (Nat×Int))(c0 c1 c2 c3:T)(ms:List (List (List Nat×Nat)))
theorem cp0:gC (oU lT m kn c0 c1 c2 c3 ms) 0=⟨1,.map (m.map fun p=>sK p.1) (m.map fun p=>nK p.2) false⟩:=nr rfl
theorem cp2:gC (oU lT m kn c0 c1 c2 c3 ms) 2=⟨1,.cells [lT,.mp .S 0 1,.mp .S 1 1,c0,c1,c2,c3] 0 true⟩:=nr rfl
theorem aoz(m':List (List Nat×Nat)):il (oU lT m kn c0 c1 c2 c3 ms) 0 ⟨1,.map (m'.map fun p=>sK p.1) (m'.map fun p=>nK p.2) false⟩=oU lT m' kn c0 c1 c2 c3 ms:=nr rfl
theorem Wm(d0 d1 d2 d3:T):il (oU lT m kn c0 c1 c2 c3 ms) 2 ⟨1,.cells [lT,.mp .S 0 1,.mp .S 1 1,d0,d1,d2,d3] 0 true⟩=oU lT m kn d0 d1 d2 d3 ms:=nr rfl
theorem ajP:oU lT [] [] .nilmp .nilmp .nilmp .nilmp []= [⟨1,.map [] [] false⟩,⟨1,.map [] [] false⟩,⟨1,.cells [lT,.mp .S 0 1,.mp .S 1 1,.nilmp,.nilmp,.nilmp,.nilmp] 0 true⟩]:=nr rfl
end
section
variable(l:Cs)(lT:T)(cl:List T)(hl:fD lT l.length cl)(kg:iR l cl)(hlen:l.length≤om)
include hl kg hlen
theorem aoA(fr:Fr)(lh:fC fg)(sh:List fg)(jh:sh=oU lT [] [] .nilmp .nilmp .nilmp .nilmp [])
  (h3:an fr 3= .ptr .S 2 1 0) (Ja:an fr 16=lT) (Hf:an fr 17= .i .i64 (l.length:Int)) (oT:an fr 18= .i .i64 0):
  DC pE 71 (.loop rh) ⟨fr,lh,sh⟩=some (.ext 0,⟨gr pE 71 rh fr lh sh,gp pE 71 rh fr lh sh,gn pE 71 rh fr lh sh⟩)∧
  (gn pE 71 rh fr lh sh=oU lT (gG l l.length) [] .nilmp .nilmp .nilmp .nilmp []):=by
 refine fq (P:=fun fR fH fL=>fL=oU lT (gG l l.length) [] .nilmp .nilmp .nilmp .nilmp [])
  (fw (fun k st=> ∃(fr:Fr) (fG:fC fg),st=⟨fr,fG,oU lT (gG l k) [] .nilmp .nilmp .nilmp .nilmp []⟩∧an fr 3= .ptr .S 2 1 0∧an fr 16=lT∧an fr 17= .i .i64 (l.length:Int)∧an fr 18= .i .i64 (k:Int)) _ l.length ?_ ?_ 0 _ (Nat.zero_le _) ⟨fr,lh,by rw[jh];rfl,h3,Ja,Hf,oT⟩)
 ·rintro k _ hk ⟨fr,fG,rfl,h3,Ja,Hf,oT⟩
  left
  have fK:(k:Int)<l.length:=by omega
  have hw:=fQ (k:=k) (by omega)
  obtain⟨b,cb,r,fF,iK,oS,hb⟩:=jZ hl kg k hk
  have ja:=lkS (gG l k) l[k].1
  rw[yg l hk]
  cases hq:fO (gG l k) l[k].1 with
  |some i=>
   rw[hq]at ja
   unfold NK at ja
   simp(maxDischargeDepth:=6) only[qA,seval,gW,fU,iP,rh,h3,Ja,Hf,oT,fK,fF,hw,cp2,cp0,gI,ja]
   refine⟨_,rfl,_,_,rfl, ?_, ?_, ?_, ?_⟩ <;> simp(maxDischargeDepth:=6) only[qA,seval,h3,Ja,Hf]
  |none=>
   rw[hq]at ja
   unfold NK at ja
   have j5:pH (.one .str) (.s l[k].1) (.i .i64 (k:Int)) ((gG l k).map fun p=>sK p.1) ((gG l k).map fun p=>nK p.2)=_:=wQ (kT:=sK) (vT:=nK) Er (gG l k) l[k].1 k hq
   simp(maxDischargeDepth:=6) only[qA,seval,gW,fU,iP,rh,h3,Ja,Hf,oT,fK,fF,hw,cp2,cp0,gI,ja,wN,j5,aoz]
   refine⟨_,rfl,_,_,rfl, ?_, ?_, ?_, ?_⟩ <;> simp(maxDischargeDepth:=6) only[qA,seval,h3,Ja,Hf]
 ·rintro _ ⟨fr,fG,rfl,h3,Ja,Hf,oT⟩
  simp(maxDischargeDepth:=6) only[qA,seval,rh,Hf,oT,Int.lt_irrefl]
  exact⟨_,_,(by simp:Out.ext 0≠ .nrm),rfl,rfl,rfl⟩
end
end Go.Proofs.YtblcbheipjeoeaaGreat
