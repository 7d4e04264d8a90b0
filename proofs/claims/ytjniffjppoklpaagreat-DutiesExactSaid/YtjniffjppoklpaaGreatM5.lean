/- Walks of functions of the program and of the reference, and their plain laws, part 5. Conditions: the theorems' own. -/
import Derived.Test.YtjniffjppoklpaaGreatM4
import Derived.KernelRfl
set_option maxRecDepth 100000
set_option linter.unusedSimpArgs false
set_option linter.unusedVariables false
set_option maxHeartbeats 16000000
namespace Go.Proofs.YtjniffjppoklpaaGreat
open Go Go.Ev
theorem Ex.fold_eq(cl:List Nat→Int×Int)(cx:List Nat→Ex)(scope:Int)(x:Ex):x.fold cl cx scope=
  if x.op=6 then(if lu scope x.name≠0 then x else cx x.name)
  else if x.args.isEmpty then x
  else if(tf cl cx scope x.args).all isLit then yb (x.ty cl scope).1 (GU x.op ((tf cl cx scope x.args).map aeY))
  else avi x.op (tf cl cx scope x.args):=by obtain⟨_,_,_,_⟩:=x;rw[Ex.fold];rfl
theorem xO{cl:List Nat→Int×Int}{scope k:Int}{x:Ex}(r:x.ty cl scope=(k,0))(E:x.op≠6): ∃ts,qI cl scope x.args= .ok ts∧qW x.op ts=k∧k≠0:=by
 rw[Ex.ty_eq,if_neg E]at r
 cases D:qI cl scope x.args with
 |error e=>
  rw[D]at r
  have F:((0:Int),e)=(k,0):=r
  injection F with _ h0
  exact absurd h0 (RZ D)
 |ok ts=>
  grind
theorem uA{cl:List Nat→Int×Int}{scope:Int}{x:Ex}{xs:List Ex}{ts:List Int}(h:qI cl scope (x::xs)= .ok ts): ∃t us,ts=t::us∧x.ty cl scope=(t,0)∧qI cl scope xs= .ok us:=by
 grind [qI]
theorem xK{x:Ex}(h:x.wf=true):1≤x.op∧x.op≤22∧kS x.op x.args.length=true∧(0≤x.num∧x.num≤FE x.op)∧(if x.op=6 then vA x.name=true else x.name= [])∧zq x.args=true:=by
 simp_all[Ex.wf_eq,Bool.and_eq_true,tB]
theorem ane{op:Int}{n:Nat}(r:1≤op)(D:kS op n=true)(E:n≠0):7≤op:=by
 grind [kS]
theorem agc{op:Int}{n:Nat}(r:op≤22)(D:kS op n=true)(E:n=0):op≤6:=by
 grind [kS]
mutual
def Ex.val0(r:List Nat→Int):Ex→Int
 | .mk op num name args=>if op=6 then r name else if op=1∨op=2∨op=3 then num else if op=4 then 1 else if op=5 then 0 else GU op (la r args)
def la(r:List Nat→Int):List Ex→List Int
 | []=> []
 |x::xs=>x.val0 r::la r xs
end
theorem Ex.val0_eq(r:List Nat→Int)(x:Ex):x.val0 r=if x.op=6 then r x.name else if x.op=1∨x.op=2∨x.op=3 then x.num else if x.op=4 then 1 else if x.op=5 then 0 else GU x.op (la r x.args):=by obtain⟨_,_,_,_⟩:=x;rw[Ex.val0];rfl
theorem ur(r:List Nat→Int): ∀xs,la r xs=xs.map (Ex.val0 r)
 | []=>rfl
 |x::xs=>by rw[la,ur r xs];rfl
def cxv(cl:List Nat→Int×Int)(r:List Nat→Int)(s:List Nat):Ex:=yb (cl s).1 (r s)
def PD(cl:List Nat→Int×Int)(r:List Nat→Int):Prop:= ∀s t,cl s=(t,0)→FX t (r s)
theorem abl{cl:List Nat→Int×Int}{scope:Int}{x:Ex}{k:Int}(F:x.wf=true)(r:x.ty cl scope=(k,0))(E:x.op≠6)(D:x.args= []):x=yb k (if x.op=1∨x.op=2∨x.op=3 then x.num else if x.op=4 then 1 else 0)∧FX k (if x.op=1∨x.op=2∨x.op=3 then x.num else if x.op=4 then 1 else 0)∧x.op≤5:=by
 obtain⟨J,H,I,JK,AU,Dd⟩:=xK F
 have K:x.op≤6:=agc H I (by rw[D];rfl)
 rw[Ex.ty_eq,if_neg E,D,qI]at r
 rw[if_neg E]at AU
 obtain⟨op,num,name,args⟩:=x
 simp only[Ex.op,Ex.num,Ex.name,Ex.args]at*
 subst AU D
 have CE:op=1∨op=2∨op=3∨op=4∨op=5:=by omega
 rcases CE with rfl|rfl|rfl|rfl|rfl
 all_goals
  simp[qW]at r
  subst r
  simp[FE]at JK
 ·refine⟨?_,.inl ⟨.inl rfl, ?_⟩,by decide⟩
  ·simp[yb,pc];omega
  ·simp[bd];omega
 ·refine⟨?_,.inl ⟨.inr rfl, ?_⟩,by decide⟩
  ·simp[yb,pc];omega
  ·simp[bd];omega
 ·refine⟨?_,.inr (.inl ⟨rfl, ?_⟩),by decide⟩
  ·simp[yb,pc]
  ·simpa using JK
 ·refine⟨?_,.inr (.inr ⟨rfl,.inr rfl⟩),by decide⟩
  simp[yb,pc];omega
 ·refine⟨?_,.inr (.inr ⟨rfl,.inl rfl⟩),by decide⟩
  simp[yb,pc];omega
theorem ND{cl:List Nat→Int×Int}{r:List Nat→Int}(X:PD cl r)(scope:Int)(N: ∀s,lu scope s=0)(x:Ex): ∀k,x.wf=true→x.ty cl scope=(k,0)→x.fold cl (cxv cl r) scope=yb k (x.val0 r)∧FX k (x.val0 r):=by
 induction x using Ex.ind with
 |h x ih=>
  intro k O D
  obtain⟨Y,Z,H,JK,AU,Dd⟩:=xK O
  rw[Ex.fold_eq,Ex.val0_eq]
  by_cases E:x.op=6
  ·rw[if_pos E,if_pos E]
   rw[Ex.ty_eq,if_pos E,if_neg (by simp[N])]at D
   rw[if_neg (by simp[N])]
   exact⟨by unfold cxv;rw[D],X _ _ D⟩
  rw[if_neg E,if_neg E]
  by_cases I:x.args.isEmpty=true
  ·grind [abl]
  ·rw[if_neg I]
   have U:x.args.length≠0:=by
    intro h;exact I (by simp[List.length_eq_zero_iff.1 h])
   have h7:=ane Y H U
   obtain⟨ts,F,V,hk⟩:=xO D E
   have J:A1 ts (la r x.args)∧(tf cl (cxv cl r) scope x.args).all isLit=true∧(tf cl (cxv cl r) scope x.args).map aeY=la r x.args:=by
    clear D H U I V O JK AU
    generalize x.args=xs at ih F Dd
    induction xs generalizing ts with
    |nil=>rw[qI]at F;cases F;exact⟨trivial,rfl,rfl⟩
    |cons z zs K=>
     obtain⟨t,us,rfl,e1,e2⟩:=uA F
     rw[zq,Bool.and_eq_true]at Dd
     obtain⟨f1,W⟩:=ih z (by simp) t Dd.1 e1
     obtain⟨g1,g2,g3⟩:=K us (fun y hy=>ih y (by simp[hy])) e2 Dd.2
     rw[tf,la,f1]
     obtain⟨_,q1,q2⟩:=Kj (scope:=scope) W
     refine⟨⟨W,g1⟩, ?_, ?_⟩
     ·rw[List.all_cons,q1,g2];rfl
     ·rw[List.map_cons,q2,g3]
   obtain⟨i1,i2,i3⟩:=J
   have hlen:ts.length=x.args.length:=vI F
   rw[if_pos i2,i3,D,if_neg (by omega),if_neg (by omega),if_neg (by omega)]
   exact⟨rfl,(Rw i1 h7 Z (by rw[hlen];exact H) V hk).2⟩
def vxk(l:Cs)(r:List Int)(s:List Nat):Int:=match mS l s with
 |none=>0
 |some i=>r.getD i 0
def uG(l:Cs):Nat→List Int
 |0=> []
 |n+1=>uG l n++ [if(wj (l.take n) (lz l n) (l.getD n ([],.mk 0 0 [] [])).2).2=0 then(l.getD n ([],.mk 0 0 [] [])).2.val0 (vxk (l.take n) (uG l n))else 0]
theorem ow(l:Cs): ∀n,(uG l n).length=n
 |0=>rfl
 |n+1=>by rw[uG,List.length_append,ow l n];rfl
theorem NF(l:Cs){n:Nat}(h:n<l.length):uG l (n+1)=uG l n++ [if(wj (l.take n) (lz l n) l[n].2).2=0 then l[n].2.val0 (vxk (l.take n) (uG l n))else 0]:=by
 rw[uG,List.getD_eq_getElem?_getD,List.getElem?_eq_getElem h];rfl
theorem R5(l:Cs)(n:Nat): ∀k,∃r,uG l (n+k)=uG l n++r
 |0=>⟨[],by simp⟩
 |k+1=>by
  obtain⟨r,h⟩:=R5 l n k
  grind [Nat.add_assoc,uG]
theorem R6(l:Cs){n i:Nat}(D:n≤l.length)(hi:i<n):(uG l n).getD i 0=(uG l l.length).getD i 0:=by
 obtain⟨r,h⟩:=R5 l n (l.length-n)
 grind [ow,hi]
def CL(l:Cs)(n:Nat):List Nat→Int×Int:=clk (l.take n) (lz l n)
def VX(l:Cs)(n:Nat):List Nat→Int:=vxk (l.take n) (uG l n)
def JC(l:Cs):List Nat→Int×Int:=clk l (lz l l.length)
def nH(l:Cs):List Nat→Int:=vxk l (uG l l.length)
theorem B1(l:Cs):CL l l.length=JC l:=by grind [CL,JC]
theorem aan(l:Cs):VX l l.length=nH l:=by grind [VX,nH]
theorem xL{l:Cs}{n:Nat}(I:n≤l.length){s:List Nat}{t:Int}(h:CL l n s=(t,0)): ∃i,∃hi:i<l.length,i<n∧mS l s=some i∧jD l[i].2=0∧l[i].2.ty (CL l i) 0=(t,0)∧JC l s=(t,0)∧VX l n s=l[i].2.val0 (VX l i)∧nH l s=l[i].2.val0 (VX l i)∧yi l i=(t,0):=by
 unfold CL clk at h
 rw[xR]at h
 cases D:mS l s with
 |none=>grind
 |some i=>
  rw[D]at h
  simp only at h
  by_cases hi:i<n
  ·rw[if_pos hi]at h
   simp only at h
   have F:i<l.length:=J2 D
   rw[Gm l I hi]at h
   have r:yi l i=(t,0):=h
   have H:=r
   rw[J7 l F]at r
   have GL:=r
   unfold wj at r
   by_cases E:jD l[i].2≠0
   ·rw[if_pos E]at r;injection r with _ r;exact absurd r E
   ·rw[if_neg E]at r
    have J:(uG l l.length).getD i 0=l[i].2.val0 (VX l i):=by
     rw[←R6 l (n:=i+1) (by omega) (by omega),NF l F,List.getD_eq_getElem?_getD,List.getElem?_append_right (by rw[ow];omega),ow,Nat.sub_self,GL]
     rfl
    refine⟨i,F,hi,rfl,by simpa using E,r, ?_, ?_, ?_,H⟩
    ·unfold JC clk;rw[D];exact h
    ·unfold VX vxk
     rw[xR,D]
     simp only[if_pos hi]
     rw[R6 l I hi,J];rfl
    ·unfold nH vxk;rw[D];exact J
  ·grind
theorem nN(s:List Nat):lu 0 s=0:=by unfold lu;rfl
theorem abm(l:Cs): ∀n,n≤l.length→PD (CL l n) (VX l n):=by
 intro n
 induction n using Nat.strongRecOn with
 |ind n ih=>
  intro r s t hs
  obtain⟨i,F,hi,_,D,E,_,e,_⟩:=xL r hs
  rw[e]
  exact(ND (ih i hi (by omega)) 0 (fun s=>nN s) l[i].2 t (nZ D) E).2
theorem JD(l:Cs):PD (JC l) (nH l):=by
 have:=abm l l.length (Nat.le_refl _)
 rwa [B1,aan]at this
theorem fold_congr{cl J8:List Nat→Int×Int}{cx r:List Nat→Ex}(scope:Int)(X: ∀s t,cl s=(t,0)→J8 s=(t,0)∧r s=cx s)(x:Ex): ∀k,x.ty cl scope=(k,0)→x.ty J8 scope=(k,0)∧x.fold J8 r scope=x.fold cl cx scope:=by
 induction x using Ex.ind with
 |h x ih=>
  intro k F
  by_cases H:x.op=6
  ·grind [Ex.ty_eq,Ex.fold_eq]
  ·obtain⟨ts,D,I,Y⟩:=xO F H
   have hl:qI J8 scope x.args= .ok ts∧tf J8 r scope x.args=tf cl cx scope x.args:=by
    clear F I
    generalize x.args=xs at ih D
    induction xs generalizing ts with
    |nil=>rw[qI]at D;cases D;exact⟨rfl,rfl⟩
    |cons z Z E=>
     obtain⟨t,us,rfl,J,K⟩:=uA D
     obtain⟨N,O⟩:=ih z (by simp) t J
     obtain⟨U,V⟩:=E us (fun y W=>ih y (by simp[W])) K
     rw[qI,tf,tf,N,U,O,V]
     exact⟨rfl,rfl⟩
   grind [Ex.ty_eq,Ex.fold_eq]
theorem axd{l:Cs}{n:Nat}(r:n≤l.length): ∀s t,CL l n s=(t,0)→JC l s=(t,0)∧cxv (JC l) (nH l) s=cxv (CL l n) (VX l n) s:=fun s t hs=>by
 grind [cxv,xL]
def abn(l:Cs)(scope:Int)(x:Ex):Ex:=x.fold (JC l) (cxv (JC l) (nH l)) scope
theorem NG{l:Cs}{s:List Nat}{t:Int}(h:JC l s=(t,0)): ∃i,∃hi:i<l.length,mS l s=some i∧jD l[i].2=0∧l[i].2.ty (CL l i) 0=(t,0)∧l[i].2.ty (JC l) 0=(t,0)∧abn l 0 l[i].2=yb t (nH l s)∧FX t (nH l s)∧yi l i=(t,0)∧nH l s=(uG l l.length).getD i 0:=by
 have E:=h
 rw[←B1]at E
 obtain⟨i,r,hi,F,H,D,K,N,I,J⟩:=xL (Nat.le_refl _) E
 obtain⟨c1,c2⟩:=fold_congr 0 (axd (Nat.le_of_lt r)) l[i].2 t D
 refine⟨i,r,F,H,D,c1, ?_,JD l s t h,J, ?_⟩
 ·unfold abn
  rw[c2,(ND (abm l i (Nat.le_of_lt r)) 0 (fun s=>nN s) l[i].2 t (nZ H) D).1,I]
 ·unfold nH vxk;rw[F]
def lL(ns:List (List Nat))(i:Nat):List (List Nat×Nat):=(ns.take i).zipIdx
theorem abo{ns:List (List Nat)}{i:Nat}(hi:i<ns.length):lL ns (i+1)=lL ns i++ [(ns[i],i)]:=by
 unfold lL
 rw[List.take_succ_eq_append_getElem hi,List.zipIdx_append]
 simp[List.length_take,Nat.min_eq_left (Nat.le_of_lt hi)]
theorem abp{ns:List (List Nat)}(D:ns.Nodup){i:Nat}(hi:i<ns.length):ja (lL ns i) ns[i]=none:=by
 have E: ∀(m:List (List Nat×Nat)) (s:List Nat),(∀p∈m,p.1≠s)→ja m s=none:=by
  intro m s h
  induction m with
  |nil=>rfl
  |cons p m ih=>
   rw[ja,if_neg (fun e=>h p (List.mem_cons_self ..) e.symm)]
   exact ih fun q H=>h q (List.mem_cons_of_mem _ H)
 refine E _ _ fun p I e=> ?_
 have F:p.1∈ns.take i:=List.fst_mem_of_mem_zipIdx I
 rw[e]at F
 obtain⟨j,J,r⟩:=List.getElem_of_mem F
 rw[List.length_take]at J
 rw[List.getElem_take]at r
 exact List.pairwise_iff_getElem.1 D j i (by omega) hi (by omega) r
def qP(lT:T)(m:List (List Nat×Nat))(kn:List (Nat×Int))(c0 c1 c2 c3:T)(ms:List (List (List Nat×Nat))):List iy:=
 ⟨1,.map (m.map fun p=>sK p.1) (m.map fun p=>nK p.2) false⟩::⟨1,.map (kn.map fun p=>nK p.1) (kn.map fun p=>iV p.2) false⟩::⟨1,.cells [lT,.mp .S 0 1,.mp .S 1 1,c0,c1,c2,c3] 0 true⟩::ms.map fun p=>⟨1,.map (p.map fun p=>sK p.1) (p.map fun p=>nK p.2) false⟩
section
variable(lT:T)(m:List (List Nat×Nat))(kn:List (Nat×Int))(c0 c1 c2 c3:T)(ms:List (List (List Nat×Nat)))
theorem cp0:iM (qP lT m kn c0 c1 c2 c3 ms) 0=⟨1,.map (m.map fun p=>sK p.1) (m.map fun p=>nK p.2) false⟩:=nr rfl
theorem cp2:iM (qP lT m kn c0 c1 c2 c3 ms) 2=⟨1,.cells [lT,.mp .S 0 1,.mp .S 1 1,c0,c1,c2,c3] 0 true⟩:=nr rfl
theorem aDx(r:List (List Nat×Nat)):iR (qP lT m kn c0 c1 c2 c3 ms) 0 ⟨1,.map (r.map fun p=>sK p.1) (r.map fun p=>nK p.2) false⟩=qP lT r kn c0 c1 c2 c3 ms:=nr rfl
theorem agd(r D E F:T):iR (qP lT m kn c0 c1 c2 c3 ms) 2 ⟨1,.cells [lT,.mp .S 0 1,.mp .S 1 1,r,D,E,F] 0 true⟩=qP lT m kn r D E F ms:=nr rfl
theorem axe:qP lT [] [] .nilmp .nilmp .nilmp .nilmp []= [⟨1,.map [] [] false⟩,⟨1,.map [] [] false⟩,⟨1,.cells [lT,.mp .S 0 1,.mp .S 1 1,.nilmp,.nilmp,.nilmp,.nilmp] 0 true⟩]:=nr rfl
end
section
variable(l:Cs)(lT:T)(cl:List T)(hl:iJ lT l.length cl)(ls:lB l cl)(hlen:l.length≤pG)
include hl ls hlen
theorem aDy(fr:Fr)(lh:iL iy)(sh:List iy)(W:sh=qP lT [] [] .nilmp .nilmp .nilmp .nilmp [])
  (E:an fr 3= .ptr .S 2 1 0) (F:an fr 16=lT) (D:an fr 17= .i .i64 (l.length:Int)) (H:an fr 18= .i .i64 0):
  qG 71 yC fr lh sh (.ext 0)∧
  (nB pE 71 yC fr lh sh=qP lT (jP l l.length) [] .nilmp .nilmp .nilmp .nilmp []):=by
 refine jh (P:=fun Z je X=>X=qP lT (jP l l.length) [] .nilmp .nilmp .nilmp .nilmp [])
  (jx (fun k st=> ∃(fr:Fr) (J:iL iy),st=⟨fr,J,qP lT (jP l k) [] .nilmp .nilmp .nilmp .nilmp []⟩∧an fr 3= .ptr .S 2 1 0∧an fr 16=lT∧an fr 17= .i .i64 (l.length:Int)∧an fr 18= .i .i64 (k:Int)) _ l.length ?_ ?_ 0 _ (Nat.zero_le _) ⟨fr,lh,by rw[W];rfl,E,F,D,H⟩)
 ·rintro k _ N ⟨fr,J,rfl,E,F,D,H⟩
  left
  have O:(k:Int)<l.length:=by omega
  have U:=iZ (k:=k) (by omega)
  obtain⟨b,cb,r,V,lE,uE,hb⟩:=mH hl ls k N
  have I:=lkS (jP l k) l[k].1
  rw[Ck l N]
  cases K:ja (jP l k) l[k].1 with
  |some i=>
   rw[K]at I
   unfold Vf at I
   simp only[qA,seval,jw,iN,kP,yC,E,F,D,H,O,V,U,cp2,cp0,jZ,I]
   refine⟨_,rfl,_,_,rfl, ?_, ?_, ?_, ?_⟩ <;> simp only[qA,seval,E,F,D]
  |none=>
   rw[K]at I
   unfold Vf at I
   have Y:rL (.one .str) (.s l[k].1) (.i .i64 (k:Int)) ((jP l k).map fun p=>sK p.1) ((jP l k).map fun p=>nK p.2)=_:=Ax (kT:=sK) (vT:=nK) G0 (jP l k) l[k].1 k K
   simp only[qA,seval,jw,iN,kP,yC,E,F,D,H,O,V,U,cp2,cp0,jZ,I,CR,Y,aDx]
   refine⟨_,rfl,_,_,rfl, ?_, ?_, ?_, ?_⟩ <;> simp only[qA,seval,E,F,D]
 ·rintro _ ⟨fr,J,rfl,E,F,D,H⟩
  simp only[qA,seval,yC,D,H,Int.lt_irrefl]
  exact⟨_,_,oH,rfl,rfl,rfl⟩
end
def Vc(scope:Int):List (List Nat):=if scope=1 then jI else if scope=2 then mg else if scope=3 then qH else []
theorem aDz:be pE 57 [.i .i64 1] []=some (.sl (strs jI) 11 true,[]):=kQ (m:=100) (kN (by kernel_rfl))
theorem aDA:be pE 57 [.i .i64 2] []=some (.sl (strs mg) 25 false,[]):=kQ (m:=100) (kN (by kernel_rfl))
theorem aDB:be pE 57 [.i .i64 3] []=some (.sl (strs qH) 7 true,[]):=kQ (m:=100) (kN (by kernel_rfl))
theorem aDC:be pE 57 [.i .i64 0] []=some (.nilsl,[]):=kQ (m:=100) (kN (by kernel_rfl))
theorem M5:jI.Nodup:=by decide+kernel
theorem abq:mg.Nodup:=by decide+kernel
theorem abr:qH.Nodup:=by decide+kernel
theorem Iv{α:Type}(d:α): ∀(l:List α) (x:α),tq d l l.length x=l++ [x]
 | [],x=>rfl
 |a::l,x=>by rw[List.length_cons,tq,Iv d l x];rfl
theorem NH{α:Type}(d:α): ∀(l:List α) (x y:α),tq d (l++ [x]) l.length y=l++ [y]
 | [],x,y=>rfl
 |a::l,x,y=>by rw[List.cons_append,List.length_cons,tq,NH d l x y];rfl
section
variable(lT:T)(m:List (List Nat×Nat))(kn:List (Nat×Int))(c0 c1 c2 c3:T)(ms:List (List (List Nat×Nat)))
theorem cpL:(qP lT m kn c0 c1 c2 c3 ms).length=ms.length+3:=by unfold qP;simp
theorem cpA:iR (qP lT m kn c0 c1 c2 c3 ms) (ms.length+3) ⟨1,.map [] [] false⟩=qP lT m kn c0 c1 c2 c3 (ms++ [[]]):=by
 grind [qP,iR,tq,List.length_map,Iv]
theorem cpq(p:List (List Nat×Nat)):iM (qP lT m kn c0 c1 c2 c3 (ms++ [p])) (ms.length+3)=⟨1,.map (p.map fun p=>sK p.1) (p.map fun p=>nK p.2) false⟩:=by
 grind [qP,iM,iN,List.length_map,xA]
theorem aDD(p q:List (List Nat×Nat)):iR (qP lT m kn c0 c1 c2 c3 (ms++ [p])) (ms.length+3) ⟨1,.map (q.map fun p=>sK p.1) (q.map fun p=>nK p.2) false⟩=qP lT m kn c0 c1 c2 c3 (ms++ [q]):=by
 grind [qP,iR,tq,List.length_map,NH]
theorem Kk(D:Nat)(E:(D=0∧c0= .mp .S (ms.length+3) 1)∨(D=1∧c1= .mp .S (ms.length+3) 1)∨(D=2∧c2= .mp .S (ms.length+3) 1)∨(D=3∧c3= .mp .S (ms.length+3) 1))(ns:List (List Nat))(N:ns.Nodup)(DK:ns.length≤100)(v:T)(U:iJ v ns.length (strs ns))(fr:Fr)(lh:iL iy)(sh:List iy)(V:sh=qP lT m kn c0 c1 c2 c3 (ms++ [[]]))
  (H:an fr 3= .ptr .S 2 1 0) (I:an fr 8= .i .i64 (D:Int)) (J:an fr 53=v) (F:an fr 54= .i .i64 (ns.length:Int)) (r:an fr 55= .i .i64 0):
  qG 71 Bs fr lh sh (.ext 4)∧
  (nB pE 71 Bs fr lh sh=qP lT m kn c0 c1 c2 c3 (ms++ [lL ns ns.length])):=by
 refine jh (P:=fun jB je W=>W=qP lT m kn c0 c1 c2 c3 (ms++ [lL ns ns.length]))
  (jx (fun k st=> ∃(fr:Fr) (O:iL iy),st=⟨fr,O,qP lT m kn c0 c1 c2 c3 (ms++ [lL ns k])⟩∧an fr 3= .ptr .S 2 1 0∧an fr 8= .i .i64 (D:Int)∧an fr 53=v∧an fr 54= .i .i64 (ns.length:Int)∧an fr 55= .i .i64 (k:Int)) _ ns.length ?_ ?_ 0 _ (Nat.zero_le _) ⟨fr,lh,by rw[V];rfl,H,I,J,F,r⟩)
 ·rintro k _ K ⟨fr,O,rfl,H,I,J,F,r⟩
  left
  have X:(k:Int)<ns.length:=by omega
  have Y:=iX (k:=k) (by omega)
  have Z: ∀kk,ng v (.i kk (k:Int)) 1=some (.vp (T.s ns[k]::(strs ns).drop (k+1))):=fun kk=>by rw[U.ia (sz:=1) (by rw[FA];omega) K,Nat.mul_one,HT ns k K]
  have px:rL (.one .str) (.s ns[k]) (.i .i64 (k:Int)) ((lL ns k).map fun p=>sK p.1) ((lL ns k).map fun p=>nK p.2)=_:=Ax (kT:=sK) (vT:=nK) G0 (lL ns k) ns[k] k (abp N K)
  rw[abo K]
  rcases E with⟨rfl,E⟩|⟨rfl,E⟩|⟨rfl,E⟩|⟨rfl,E⟩ <;>
  (simp only[qA,seval,lZ,kP,Bs,H,I,J,F,r,X,Z,Y,cp2,E,cpq,CR,px,aDD]
   refine⟨_,rfl,_,_,rfl, ?_, ?_, ?_, ?_, ?_⟩ <;> simp only[qA,seval,H,I,J,F])
 ·rintro _ ⟨fr,O,rfl,H,I,J,F,r⟩
  simp only[qA,seval,Bs,F,r,Int.lt_irrefl]
  grind
end
def Jq(lT:T)(m:List (List Nat×Nat))(kn:List (Nat×Int)):Nat→List iy
 |0=>qP lT m kn .nilmp .nilmp .nilmp .nilmp []
 |1=>qP lT m kn (.mp .S 3 1) .nilmp .nilmp .nilmp [lL [] 0]
 |2=>qP lT m kn (.mp .S 3 1) (.mp .S 4 1) .nilmp .nilmp [lL [] 0,lL jI 11]
 |3=>qP lT m kn (.mp .S 3 1) (.mp .S 4 1) (.mp .S 5 1) .nilmp [lL [] 0,lL jI 11,lL mg 25]
 |_=>qP lT m kn (.mp .S 3 1) (.mp .S 4 1) (.mp .S 5 1) (.mp .S 6 1) [lL [] 0,lL jI 11,lL mg 25,lL qH 7]
theorem ang(lT:T)(m:List (List Nat×Nat))(kn:List (Nat×Int))(fr:Fr)(lh:iL iy)(r:an fr 3= .ptr .S 2 1 0)(Oc:an fr 43= .i .i64 0):
  ∃D F,DC pE 71 pV ⟨fr,lh,Jq lT m kn 0⟩=some (.nrm,⟨D,F,Jq lT m kn 1⟩)∧an D 3= .ptr .S 2 1 0∧an D 43= .i .i64 1:=by
 have H:iR (qP lT m kn .nilmp .nilmp .nilmp .nilmp []) 3 ⟨1,.map [] [] false⟩=qP lT m kn .nilmp .nilmp .nilmp .nilmp [[]]:=cpA lT m kn .nilmp .nilmp .nilmp .nilmp []
 have I:(qP lT m kn .nilmp .nilmp .nilmp .nilmp []).length=3:=cpL lT m kn .nilmp .nilmp .nilmp .nilmp []
 have E:=fun fr lh sh J K r N O U=>Kk lT m kn (.mp .S 3 1) .nilmp .nilmp .nilmp [] 0 (by simp) [] List.nodup_nil (by decide) .nilsl (Or.inl ⟨rfl,rfl,rfl⟩) fr lh sh J K r N O U
 change ∀fr lh sh,sh=qP lT m kn (.mp .S 3 1) .nilmp .nilmp .nilmp [[]]→an fr 3= .ptr .S 2 1 0→an fr 8= .i .i64 0→an fr 53= .nilsl→an fr 54= .i .i64 0→an fr 55= .i .i64 0→_ at E
 have V:=fun lh=>yR (lh:=lh) (sh:=qP lT m kn .nilmp .nilmp .nilmp .nilmp [[]]) (k:=2) (g:=1) (off:=3) (m:=1) (v:= .mp .S 3 1) Au (cp2 lT m kn .nilmp .nilmp .nilmp .nilmp [[]])
 unfold Jq
 simp only[qA,seval,lZ,jA,pV,qw,r,Oc,I,H,V,agd,aDC,acD,E]
 first|done|refine⟨_,_,rfl, ?_, ?_⟩ <;> simp only[qA,seval,r,qw]
theorem anh(lT:T)(m:List (List Nat×Nat))(kn:List (Nat×Int))(fr:Fr)(lh:iL iy)(r:an fr 3= .ptr .S 2 1 0)(Oc:an fr 43= .i .i64 1):
  ∃D F,DC pE 71 pV ⟨fr,lh,Jq lT m kn 1⟩=some (.nrm,⟨D,F,Jq lT m kn 2⟩)∧an D 3= .ptr .S 2 1 0∧an D 43= .i .i64 2:=by
 have H:iR (qP lT m kn (.mp .S 3 1) .nilmp .nilmp .nilmp [lL [] 0]) 4 ⟨1,.map [] [] false⟩=qP lT m kn (.mp .S 3 1) .nilmp .nilmp .nilmp [lL [] 0,[]]:=cpA lT m kn (.mp .S 3 1) .nilmp .nilmp .nilmp [lL [] 0]
 have I:(qP lT m kn (.mp .S 3 1) .nilmp .nilmp .nilmp [lL [] 0]).length=4:=cpL lT m kn (.mp .S 3 1) .nilmp .nilmp .nilmp [lL [] 0]
 have E:=fun fr lh sh J K r N O U=>Kk lT m kn (.mp .S 3 1) (.mp .S 4 1) .nilmp .nilmp [lL [] 0] 1 (by simp) jI M5 (by decide) (.sl (strs jI) 11 true) (Or.inr ⟨true,rfl⟩) fr lh sh J K r N O U
 change ∀fr lh sh,sh=qP lT m kn (.mp .S 3 1) (.mp .S 4 1) .nilmp .nilmp [lL [] 0,[]]→an fr 3= .ptr .S 2 1 0→an fr 8= .i .i64 1→an fr 53=(.sl (strs jI) 11 true)→an fr 54= .i .i64 11→an fr 55= .i .i64 0→_ at E
 have V:=fun lh=>yR (lh:=lh) (sh:=qP lT m kn (.mp .S 3 1) .nilmp .nilmp .nilmp [lL [] 0,[]]) (k:=2) (g:=1) (off:=4) (m:=1) (v:= .mp .S 4 1) Au (cp2 lT m kn (.mp .S 3 1) .nilmp .nilmp .nilmp [lL [] 0,[]])
 unfold Jq
 simp only[qA,seval,lZ,jA,pV,qw,r,Oc,I,H,V,agd,aDz,acD,E]
 first|done|refine⟨_,_,rfl, ?_, ?_⟩ <;> simp only[qA,seval,r,qw]
theorem ani(lT:T)(m:List (List Nat×Nat))(kn:List (Nat×Int))(fr:Fr)(lh:iL iy)(r:an fr 3= .ptr .S 2 1 0)(Oc:an fr 43= .i .i64 2):
  ∃D F,DC pE 71 pV ⟨fr,lh,Jq lT m kn 2⟩=some (.nrm,⟨D,F,Jq lT m kn 3⟩)∧an D 3= .ptr .S 2 1 0∧an D 43= .i .i64 3:=by
 have H:iR (qP lT m kn (.mp .S 3 1) (.mp .S 4 1) .nilmp .nilmp [lL [] 0,lL jI 11]) 5 ⟨1,.map [] [] false⟩=qP lT m kn (.mp .S 3 1) (.mp .S 4 1) .nilmp .nilmp [lL [] 0,lL jI 11,[]]:=cpA lT m kn (.mp .S 3 1) (.mp .S 4 1) .nilmp .nilmp [lL [] 0,lL jI 11]
 have I:(qP lT m kn (.mp .S 3 1) (.mp .S 4 1) .nilmp .nilmp [lL [] 0,lL jI 11]).length=5:=cpL lT m kn (.mp .S 3 1) (.mp .S 4 1) .nilmp .nilmp [lL [] 0,lL jI 11]
 have E:=fun fr lh sh J K r N O U=>Kk lT m kn (.mp .S 3 1) (.mp .S 4 1) (.mp .S 5 1) .nilmp [lL [] 0,lL jI 11] 2 (by simp) mg abq (by decide) (.sl (strs mg) 25 false) (Or.inr ⟨false,rfl⟩) fr lh sh J K r N O U
 change ∀fr lh sh,sh=qP lT m kn (.mp .S 3 1) (.mp .S 4 1) (.mp .S 5 1) .nilmp [lL [] 0,lL jI 11,[]]→an fr 3= .ptr .S 2 1 0→an fr 8= .i .i64 2→an fr 53=(.sl (strs mg) 25 false)→an fr 54= .i .i64 25→an fr 55= .i .i64 0→_ at E
 have V:=fun lh=>yR (lh:=lh) (sh:=qP lT m kn (.mp .S 3 1) (.mp .S 4 1) .nilmp .nilmp [lL [] 0,lL jI 11,[]]) (k:=2) (g:=1) (off:=5) (m:=1) (v:= .mp .S 5 1) Au (cp2 lT m kn (.mp .S 3 1) (.mp .S 4 1) .nilmp .nilmp [lL [] 0,lL jI 11,[]])
 unfold Jq
 simp only[qA,seval,lZ,jA,pV,qw,r,Oc,I,H,V,agd,aDA,acD,E]
 first|done|refine⟨_,_,rfl, ?_, ?_⟩ <;> simp only[qA,seval,r,qw]
theorem anj(lT:T)(m:List (List Nat×Nat))(kn:List (Nat×Int))(fr:Fr)(lh:iL iy)(r:an fr 3= .ptr .S 2 1 0)(Oc:an fr 43= .i .i64 3):
  ∃D F,DC pE 71 pV ⟨fr,lh,Jq lT m kn 3⟩=some (.nrm,⟨D,F,Jq lT m kn 4⟩)∧an D 3= .ptr .S 2 1 0∧an D 43= .i .i64 4:=by
 have H:iR (qP lT m kn (.mp .S 3 1) (.mp .S 4 1) (.mp .S 5 1) .nilmp [lL [] 0,lL jI 11,lL mg 25]) 6 ⟨1,.map [] [] false⟩=qP lT m kn (.mp .S 3 1) (.mp .S 4 1) (.mp .S 5 1) .nilmp [lL [] 0,lL jI 11,lL mg 25,[]]:=cpA lT m kn (.mp .S 3 1) (.mp .S 4 1) (.mp .S 5 1) .nilmp [lL [] 0,lL jI 11,lL mg 25]
 have I:(qP lT m kn (.mp .S 3 1) (.mp .S 4 1) (.mp .S 5 1) .nilmp [lL [] 0,lL jI 11,lL mg 25]).length=6:=cpL lT m kn (.mp .S 3 1) (.mp .S 4 1) (.mp .S 5 1) .nilmp [lL [] 0,lL jI 11,lL mg 25]
 have E:=fun fr lh sh J K r N O U=>Kk lT m kn (.mp .S 3 1) (.mp .S 4 1) (.mp .S 5 1) (.mp .S 6 1) [lL [] 0,lL jI 11,lL mg 25] 3 (by simp) qH abr (by decide) (.sl (strs qH) 7 true) (Or.inr ⟨true,rfl⟩) fr lh sh J K r N O U
 change ∀fr lh sh,sh=qP lT m kn (.mp .S 3 1) (.mp .S 4 1) (.mp .S 5 1) (.mp .S 6 1) [lL [] 0,lL jI 11,lL mg 25,[]]→an fr 3= .ptr .S 2 1 0→an fr 8= .i .i64 3→an fr 53=(.sl (strs qH) 7 true)→an fr 54= .i .i64 7→an fr 55= .i .i64 0→_ at E
 have V:=fun lh=>yR (lh:=lh) (sh:=qP lT m kn (.mp .S 3 1) (.mp .S 4 1) (.mp .S 5 1) .nilmp [lL [] 0,lL jI 11,lL mg 25,[]]) (k:=2) (g:=1) (off:=6) (m:=1) (v:= .mp .S 6 1) Au (cp2 lT m kn (.mp .S 3 1) (.mp .S 4 1) (.mp .S 5 1) .nilmp [lL [] 0,lL jI 11,lL mg 25,[]])
 unfold Jq
 simp only[qA,seval,lZ,jA,pV,qw,r,Oc,I,H,V,agd,aDB,acD,E]
 first|done|refine⟨_,_,rfl, ?_, ?_⟩ <;> simp only[qA,seval,r,qw]
theorem aDE(lT:T)(m:List (List Nat×Nat))(fr:Fr)(lh:iL iy)(sh:List iy)(I:sh=qP lT m [] .nilmp .nilmp .nilmp .nilmp [])(F:an fr 3= .ptr .S 2 1 0)(Oc:an fr 43= .i .i64 0):
  qG 71 pV fr lh sh (.ext 2)∧
  (nB pE 71 pV fr lh sh=Jq lT m [] 4):=by
 refine jh (P:=fun D E J=>J=Jq lT m [] 4)
  (jx (fun k st=> ∃(fr:Fr) (H:iL iy),st=⟨fr,H,Jq lT m [] k⟩∧an fr 3= .ptr .S 2 1 0∧an fr 43= .i .i64 (k:Int)) _ 4 ?_ ?_ 0 _ (Nat.zero_le _) ⟨fr,lh,by rw[I];rfl,F,Oc⟩)
 ·rintro k _ N ⟨fr,H,rfl,F,Oc⟩
  left
  have K:k=0∨k=1∨k=2∨k=3:=by omega
  rcases K with rfl|rfl|rfl|rfl
  ·obtain⟨D,E,h,r,Qb⟩:=ang lT m [] fr H F Oc
   exact⟨_,h,D,E,rfl,r,Qb⟩
  ·obtain⟨D,E,h,r,Qb⟩:=anh lT m [] fr H F Oc
   exact⟨_,h,D,E,rfl,r,Qb⟩
  ·obtain⟨D,E,h,r,Qb⟩:=ani lT m [] fr H F Oc
   exact⟨_,h,D,E,rfl,r,Qb⟩
  ·obtain⟨D,E,h,r,Qb⟩:=anj lT m [] fr H F Oc
   exact⟨_,h,D,E,rfl,r,Qb⟩
 ·rintro _ ⟨fr,H,rfl,F,Oc⟩
  simp only[qA,seval,pV,Oc]
  exact⟨_,_,oH,rfl,rfl,rfl⟩
section
variable(l:Cs)(lT:T)(cl:List T)(hl:iJ lT l.length cl)(ls:lB l cl)(hlen:l.length≤pG)
include hl ls hlen
theorem alN:be pE 32 [lT] []=some (.ptr .S 2 1 0,Jq lT (jP l l.length) [] 4):=by
 have r:=fun fr lh sh=>aDy l lT cl hl ls hlen fr lh sh
 have D:=fun fr lh sh=>aDE lT (jP l l.length) fr lh sh
 rw[axe]at r
 rw[iD arh (by simp[c32])]
 simp only[qA,seval,jA,kP,c32,Vo,Vn,hl.lenI,hl.cells,hl.noTup,hl.kept1,r,D]
end
def Oa(scope:Int)(s:List Nat):Option Nat:=ja (lL (Vc scope) (Vc scope).length) s
theorem Gs{s:List Nat}: ∀{m:List (List Nat×Nat)},ja m s=none↔ ∀p∈m,p.1≠s
 | []=>by simp[ja]
 |p::m=>by
  rw[ja]
  by_cases h:s=p.1
  ·grind
  ·rw[if_neg h,Gs (m:=m)]
   grind
theorem age{ns:List (List Nat)}{s:List Nat}:ja (lL ns ns.length) s=none↔s∉ns:=by
 rw[Gs]
 unfold lL
 rw[List.take_length]
 constructor
 ·intro h hs
  obtain⟨i,hi,e⟩:=List.getElem_of_mem hs
  exact h (ns[i],i) (List.mk_mem_zipIdx_iff_getElem?.2 (by rw[List.getElem?_eq_getElem hi])) e
 grind
theorem NI{ns:List (List Nat)}{s:List Nat}{i:Nat}: ∀{m:List (List Nat×Nat)},ja m s=some i→(s,i)∈m
 | [],h=>by simp[ja]at h
 |p::m,h=>by
  rw[ja]at h
  by_cases e:s=p.1
  ·grind
  ·rw[if_neg e]at h
   exact List.mem_cons_of_mem _ (NI (ns:=ns) h)
theorem anl{scope:Int}{s:List Nat}{i:Nat}(h:Oa scope s=some i):(Vc scope)[i]? =some s:=by
 have r:=NI (ns:=Vc scope) h
 grind [lL]
theorem Cp(s:List Nat):rj s≠0↔s∈jI:=by
 constructor
 ·intro h
  by_cases r:s∈jI
  ·exact r
  simp_all[jI,List.mem_cons,List.not_mem_nil,rj,aeT,aeU,aeV]
 ·intro h
  simp only[jI,List.mem_cons,List.not_mem_nil,or_false]at h
  rcases h with rfl|rfl|rfl|rfl|rfl|rfl|rfl|rfl|rfl|rfl|rfl <;> decide
theorem US(s:List Nat):AB s≠0↔s∈qH:=by
 grind [qH,AB,Q3,Q4]
theorem UT(s:List Nat):AD s≠0↔s∈mg:=by
 constructor
 ·intro h
  rw[AD]at h
  by_cases E:s= [114,101,115,116]
  ·subst E;decide
  by_cases F:s= [110,105,103,104,116,115]
  ·subst F;decide
  by_cases H:s= [104,111,109,101]
  ·subst H;decide
  rw[if_neg E,if_neg F,if_neg H]at h
  by_cases r:vz N2 s
  ·rw[if_pos r,Cp]at h
   have e:s=N2++s.drop 7:=by rw[←((FC s).1 r).2,List.take_append_drop]
   rw[e]
   generalize s.drop 7=d at h
   simp only[jI,List.mem_cons,List.not_mem_nil,or_false]at h
   rcases h with rfl|rfl|rfl|rfl|rfl|rfl|rfl|rfl|rfl|rfl|rfl <;> decide
  ·rw[if_neg r]at h
   by_cases D:vz O8 s
   ·rw[if_pos D,Cp]at h
    have e:s=O8++s.drop 6:=by rw[←((FD s).1 D).2,List.take_append_drop]
    rw[e]
    generalize s.drop 6=d at h
    simp only[jI,List.mem_cons,List.not_mem_nil,or_false]at h
    rcases h with rfl|rfl|rfl|rfl|rfl|rfl|rfl|rfl|rfl|rfl|rfl <;> decide
   ·rw[if_neg D]at h;exact absurd rfl h
 ·intro hs
  simp only[mg,List.mem_cons,List.not_mem_nil,or_false]at hs
  rcases hs with rfl|rfl|rfl|rfl|rfl|rfl|rfl|rfl|rfl|rfl|rfl|rfl|rfl|rfl|rfl|rfl|rfl|rfl|rfl|rfl|rfl|rfl|rfl|rfl|rfl <;> decide
theorem UU(scope:Int)(s:List Nat):lu scope s≠0↔s∈Vc scope:=by
 grind [lu,Vc,Cp,UT,US]
theorem sj(scope:Int)(s:List Nat):Oa scope s=none↔lu scope s=0:=by
 unfold Oa
 rw[age,←UU]
 grind
mutual
def comp(r:List Nat→Int)(scope:Int):Ex→Fm
 | .mk op num name args=>if op=1∨op=2∨op=3 then .mk 1 num []else if op=4 then .mk 1 1 []else if op=5 then .mk 1 0 []else if op=6 then(match Oa scope name with|some i=> .mk 6 (i:Int) []|none=> .mk 1 (r name) [])else .mk op 0 (mP r scope args)
def mP(r:List Nat→Int)(scope:Int):List Ex→List Fm
 | []=> []
 |x::xs=>comp r scope x::mP r scope xs
end
theorem tm(r:List Nat→Int)(scope:Int)(x:Ex):comp r scope x=if x.op=1∨x.op=2∨x.op=3 then .mk 1 x.num []else if x.op=4 then .mk 1 1 []else if x.op=5 then .mk 1 0 []else if x.op=6 then(match Oa scope x.name with|some i=> .mk 6 (i:Int) []|none=> .mk 1 (r x.name) [])else .mk x.op 0 (mP r scope x.args):=by obtain⟨_,_,_,_⟩:=x;rw[comp];rfl
theorem rJ(r:List Nat→Int)(scope:Int): ∀xs,mP r scope xs=xs.map (comp r scope)
 | []=>rfl
 |x::xs=>by simp_all[mP,rJ]
def Rn(cl:List Nat→Int×Int)(scope:Int)(s:List Nat):Int×Int:=if lu scope s≠0 then(lu scope s,0)else cl s
def wk(D:List Nat→Int)(scope:Int)(r:List Int)(s:List Nat):Int:=match Oa scope s with|some i=>r.getD i 0|none=>D s
theorem aap(cl:List Nat→Int×Int)(scope:Int)(x:Ex):x.ty cl scope=x.ty (Rn cl scope) 0:=by
 induction x using Ex.ind with
 |h x ih=>
  rw[Ex.ty_eq,Ex.ty_eq (cl:=Rn cl scope)]
  have hl:qI cl scope x.args=qI (Rn cl scope) 0 x.args:=by
   generalize x.args=xs at ih
   induction xs with
   |nil=>rfl
   |cons y D X3=>
    rw[qI,qI,ih y (by simp),X3 fun z r=>ih z (by simp[r])]
  grind [Rn,nN]
theorem axf(cl:List Nat→Int×Int):Rn cl 0=cl:=by
 grind [Rn,nN]
theorem axg(s:List Nat):Oa 0 s=none:=(sj 0 s).2 (nN s)
theorem aje(D:List Nat→Int)(r:List Int):wk D 0 r=D:=by
 grind [wk,axg]
theorem Ro{cl:List Nat→Int×Int}{D:List Nat→Int}{scope:Int}{r:List Int}(hc:PD (Rn cl scope) (wk D scope r))(kZ:r.length=(Vc scope).length)(x:Ex): ∀k,x.wf=true→jX x.args≤100000→x.ty cl scope=(k,0)→H2 r (comp D scope x)∧(comp D scope x).val r=x.val0 (wk D scope r)∧FX k (x.val0 (wk D scope r)):=by
 induction x using Ex.ind with
 |h x ih=>
  intro k W hn U
  have X:FX k (x.val0 (wk D scope r)):=by
   rw[aap]at U
   exact(ND hc 0 (fun s=>nN s) x k W U).2
  refine and_assoc.1 ⟨?_,X⟩
  obtain⟨h1,h2,Y,JK,AU,Dd⟩:=xK W
  have Z:=abj X
  have E: ∀f v,comp D scope x=f→x.val0 (wk D scope r)=v→(bd v→H2 r f∧f.val r=v)→H2 r (comp D scope x)∧(comp D scope x).val r=x.val0 (wk D scope r):=by
   rintro f v rfl e h
   rw[e]at Z ⊢
   exact h Z
  have V: ∀n,bd n→H2 r (.mk 1 n [])∧(Fm.mk 1 n []).val r=n:=fun n K=>⟨(Kh _ _).2 (.inl ⟨rfl,K⟩),by rw[Fm.val_eq];rfl⟩
  by_cases F:x.op=1∨x.op=2∨x.op=3
  ·exact E _ _ (by rw[tm,if_pos F]) (by rw[Ex.val0_eq,if_neg (by omega),if_pos F]) (V _)
  by_cases H:x.op=4
  ·exact E _ _ (by rw[tm,if_neg F,if_pos H]) (by rw[Ex.val0_eq,if_neg (by omega),if_neg F,if_pos H]) (V _)
  by_cases J:x.op=5
  ·exact E _ _ (by rw[tm,if_neg F,if_neg H,if_pos J]) (by rw[Ex.val0_eq,if_neg (by omega),if_neg F,if_neg H,if_pos J]) (V _)
  by_cases I:x.op=6
  ·cases N:Oa scope x.name with
   |none=>exact E _ _ (by rw[tm,if_neg F,if_neg H,if_neg J,if_pos I,N]) (by rw[Ex.val0_eq,if_pos I,wk,N]) (V _)
   |some i=>
    have hi:=anl N
    have rW:i<(Vc scope).length:=(List.getElem?_eq_some_iff.1 hi).1
    refine E (.mk 6 (i:Int) []) (r.getD i 0) (by rw[tm,if_neg F,if_neg H,if_neg J,if_pos I,N]) (by rw[Ex.val0_eq,if_pos I,wk,N]) fun K=>⟨(Kh _ _).2 (.inr (.inl ⟨rfl,Int.natCast_nonneg i, ?_,K⟩)),by rw[Fm.val_eq];rfl⟩
    show(i:Int).toNat<r.length
    rw[Int.toNat_natCast,kZ];exact rW
  ·refine E _ _ (by rw[tm,if_neg F,if_neg H,if_neg J,if_neg I]) (by rw[Ex.val0_eq,if_neg I,if_neg F,if_neg H,if_neg J]) fun K=> ?_
   have h7:7≤x.op:=by omega
   obtain⟨ts,O,hr,hk⟩:=xO U I
   have hlen:ts.length=x.args.length:=vI O
   have CG:=kB x.args
   have hys:Gq r (mP D scope x.args)∧mU r (mP D scope x.args)=la (wk D scope r) x.args∧A1 ts (la (wk D scope r) x.args):=by
    clear U Y hr W JK AU hlen Z X CG E K
    generalize x.args=xs at ih O Dd hn
    induction xs generalizing ts with
    |nil=>rw[qI]at O;cases O;exact⟨by rw[mP,Gq];trivial,by rw[mP,mU,la],trivial⟩
    |cons z zs ihz=>
     obtain⟨t,us,rfl,e1,e2⟩:=uA O
     rw[zq,Bool.and_eq_true]at Dd
     rw[jX]at hn
     have hz:=z.nodes_eq
     obtain⟨f1,f2,f3⟩:=ih z (by simp) t Dd.1 (by omega) e1
     obtain⟨g1,g2,g3⟩:=ihz us (fun y hy=>ih y (by simp[hy])) e2 Dd.2 (by omega)
     rw[mP,mU,la,Gq,f2,g2]
     exact⟨⟨f1,g1⟩,rfl,f3,g3⟩
   obtain⟨i1,i2,i3⟩:=hys
   have ls:(mP D scope x.args).length=x.args.length:=by rw[rJ,List.length_map]
   obtain⟨hv,_⟩:=Rw i3 h7 h2 (by rw[hlen];exact Y) hr hk
   refine⟨(Kh _ _).2 (.inr (.inr ⟨h7,h2,by show kS x.op (mP D scope x.args).length=true;rw[ls];exact Y,by show(mP D scope x.args).length≤pG;rw[ls];exact lK (by omega),i1,by show vOk x.op (mU r (mP D scope x.args));rw[i2];exact hv⟩)), ?_⟩
   rw[Fm.val_eq]
   show(if x.op=1 then(0:Int)else if x.op=6 then r.getD (0:Int).toNat 0 else GU x.op (mU r (mP D scope x.args)))=GU x.op (la (wk D scope r) x.args)
   rw[if_neg (by omega),if_neg I,i2]
def mw(lT:T)(m:List (List Nat×Nat))(kn:List (Nat×Int))(R:List iy):List iy:=Jq lT m kn 4++R
section
variable(lT:T)(m:List (List Nat×Nat))(kn:List (Nat×Int))(R:List iy)
theorem axh:iM (mw lT m kn R) 0=⟨1,.map (m.map fun p=>sK p.1) (m.map fun p=>nK p.2) false⟩:=nr rfl
theorem axi:iM (mw lT m kn R) 1=⟨1,.map (kn.map fun p=>nK p.1) (kn.map fun p=>iV p.2) false⟩:=nr rfl
theorem Kl:iM (mw lT m kn R) 2=⟨1,.cells [lT,.mp .S 0 1,.mp .S 1 1,.mp .S 3 1,.mp .S 4 1,.mp .S 5 1,.mp .S 6 1] 0 true⟩:=nr rfl
theorem aDF:iM (mw lT m kn R) 3=⟨1,.map ((lL [] 0).map fun p=>sK p.1) ((lL [] 0).map fun p=>nK p.2) false⟩:=nr rfl
theorem axj:iM (mw lT m kn R) 4=⟨1,.map ((lL jI 11).map fun p=>sK p.1) ((lL jI 11).map fun p=>nK p.2) false⟩:=nr rfl
theorem axk:iM (mw lT m kn R) 5=⟨1,.map ((lL mg 25).map fun p=>sK p.1) ((lL mg 25).map fun p=>nK p.2) false⟩:=nr rfl
theorem axl:iM (mw lT m kn R) 6=⟨1,.map ((lL qH 7).map fun p=>sK p.1) ((lL qH 7).map fun p=>nK p.2) false⟩:=nr rfl
theorem axm(r:List (Nat×Int)):iR (mw lT m kn R) 1 ⟨1,.map (r.map fun p=>nK p.1) (r.map fun p=>iV p.2) false⟩=mw lT m r R:=nr rfl
end
def kOf:List iy→List (Nat×Int)
 |_::⟨_,.map ks r _⟩::_=>(ks.zip r).map fun p=>((match p.1 with| .i _ n=>n.toNat|_=>0),(match p.2 with| .i _ n=>n|_=>0))
 |_=> []
theorem anm(lT:T)(m:List (List Nat×Nat))(R:List iy): ∀kn,kOf (mw lT m kn R)=kn:=by
 intro kn
 unfold kOf mw Jq qP
 simp only[List.cons_append]
 induction kn with
 |nil=>rfl
 |cons p kn ih=>rw[List.map_cons,List.map_cons,List.zip_cons_cons,List.map_cons,ih];obtain⟨a,b⟩:=p;simp[nK,iV]
noncomputable def kL(E:Env)(n:Nat)(a:iA)(fr:Fr)(lh:iL iy)(sh:List iy):List (Nat×Int):=kOf (nB E n a fr lh sh)
theorem ajf{E:Env}{n:Nat}{a:iA}{fr:Fr}{lh:iL iy}{sh:List iy}{lT:T}{m:List (List Nat×Nat)}{R:List iy}{P:List (Nat×Int)→Prop}(h: ∃kn,nB E n a fr lh sh=mw lT m kn R∧P kn):nB E n a fr lh sh=mw lT m (kL E n a fr lh sh) R∧P (kL E n a fr lh sh):=by
 obtain⟨kn,r,D⟩:=h
 have:kL E n a fr lh sh=kn:=by unfold kL;rw[r,anm]
 rw[this];exact⟨r,D⟩
theorem abt{cl:List Nat→Int×Int}{scope:Int}: ∀{xs:List Ex} {ts:List Int},qI cl scope xs= .ok ts→ ∀(k:Nat) (r:k<xs.length),∃t,xs[k].ty cl scope=(t,0)
 | [],ts,h,k,r=>by simp at r
 |x::xs,ts,h,k,r=>by
  obtain⟨t,us,rfl,D,E⟩:=uA h
  cases k with
  |zero=>exact⟨t,D⟩
  |succ k=>exact abt E k (by simpa using r)
section
variable(l:Cs)(lT:T)(R:List iy)(cl:List T)(hl:iJ lT l.length cl)(ls:lB l cl)(hlen:l.length≤pG)
def pJ(kn:List (Nat×Int)):Prop:= ∀i v,ja kn i=some v→v=(uG l l.length).getD i 0
def axn(n:Nat)(scope:Int)(y:Ex):Prop:= ∀k kn cs,pJ l kn→mE y cs→y.nodes≤200→y.wf=true→y.ty (CL l n) scope=(k,0)→
 ∃D r,be pE 33 [.ptr .S 2 1 0,.i .i64 scope,.agg cs] (mw lT (jP l l.length) kn R)=some (.agg D,mw lT (jP l l.length) r R)∧pA (comp (nH l) scope y) D∧pJ l r∧ ∀i,n≤i→ja r i=ja kn i
def axo(j:Nat):Prop:= ∀s t kn,mS l s=some j→JC l s=(t,0)→pJ l kn→ ∃r,be pE 58 [.ptr .S 2 1 0,.s s] (mw lT (jP l l.length) kn R)=some (.i .i64 (nH l s),mw lT (jP l l.length) r R)∧pJ l r∧ ∀i,j<i→ja r i=ja kn i
theorem aDH(n:Nat)(scope:Int)(xs:List Ex)(ih: ∀y∈xs,axn l lT R n scope y)(a:T)(cc:List T)(ha:iJ a xs.length cc)(hx:kz xs cc)(hn:jX xs≤200)(uq:zq xs=true)(ts:List Int)(oh:qI (CL l n) scope xs= .ok ts)(kn:List (Nat×Int))(pK:pJ l kn)(op:T)(g g9:Nat)(U:iy)(fr:Fr)(lh:iL iy)(sh:List iy)(mJ:sh=mw lT (jP l l.length) kn R)
  (H:an fr 0= .ptr .S 2 1 0) (I:an fr 1= .i .i64 scope) (J:an fr 9= .ptr .L 9 g9 0) (Dc:an fr 63=a) (Gc:an fr 64= .i .i64 (xs.length:Int)) (Dl:an fr 65= .i .i64 0) (K:a6 lh 6=U) (E:a6 lh 9=⟨g9,.cells [op,.i .i64 0,.isl .L 60 g 0 xs.length 3] 0 true⟩) (Iw:a6 lh 60=⟨g,.cells (repl [.i .i64 0,.i .i64 0,.nilsl] xs.length) 0 false⟩):
  qG 80 uM fr lh sh (.ext 1)∧
  (a6 (nh pE 80 uM fr lh sh) 6=U∧a6 (nh pE 80 uM fr lh sh) 9=⟨g9,.cells [op,.i .i64 0,.isl .L 60 g 0 xs.length 3] 0 true⟩∧(∃cs,a6 (nh pE 80 uM fr lh sh) 60=⟨g,.cells cs 0 false⟩∧jl (mP (nH l) scope xs) cs)∧
    (∃r,nB pE 80 uM fr lh sh=mw lT (jP l l.length) r R∧pJ l r∧ ∀i,n≤i→ja r i=ja kn i)):=by
 refine jh (P:=fun jB W jk=>a6 W 6=U∧a6 W 9=⟨g9,.cells [op,.i .i64 0,.isl .L 60 g 0 xs.length 3] 0 true⟩∧(∃cs,a6 W 60=⟨g,.cells cs 0 false⟩∧jl (mP (nH l) scope xs) cs)∧(∃r,jk=mw lT (jP l l.length) r R∧pJ l r∧ ∀i,n≤i→ja r i=ja kn i))
  (jx (fun k st=> ∃(fr:Fr) (F:iL iy) (A:List T) (MF:List (Nat×Int)),st=⟨fr,F,mw lT (jP l l.length) MF R⟩∧an fr 0= .ptr .S 2 1 0∧an fr 1= .i .i64 scope∧an fr 9= .ptr .L 9 g9 0∧an fr 63=a∧an fr 64= .i .i64 (xs.length:Int)∧an fr 65= .i .i64 (k:Int)∧a6 F 6=U∧a6 F 9=⟨g9,.cells [op,.i .i64 0,.isl .L 60 g 0 xs.length 3] 0 true⟩∧
    a6 F 60=⟨g,.cells (A++repl [.i .i64 0,.i .i64 0,.nilsl] (xs.length-k)) 0 false⟩∧jl (mP (nH l) scope (xs.take k)) A∧pJ l MF∧ ∀i,n≤i→ja MF i=ja kn i) _ xs.length ?_ ?_ 0 _ (Nat.zero_le _) ⟨fr,lh,[],kn,by rw[mJ],H,I,J,Dc,Gc,Dl,K,E,by rw[Iw];rfl,by rw[List.take_zero,mP];exact jl.nil,pK,fun _ _=>rfl⟩)
 ·rintro k _ D ⟨fr,F,A,MF,rfl,H,I,J,Dc,Gc,Dl,K,E,Iw,N,P4,Nw⟩
  left
  have iU:(k:Int)<xs.length:=by omega
  have Ff:=kB xs
  have hyk:=nz (List.getElem_mem D)
  have hw:=iZ (k:=k) (lK (by omega))
  obtain⟨b,cb,rr,iW,lE,uE,hb⟩:=nY ha hx k D
  obtain⟨t,ht⟩:=abt oh k D
  obtain⟨cf,Q6,iI,BN,X,PN⟩:=ih xs[k] (List.getElem_mem D) t MF _ P4 hb (by omega) (xG.1 uq _ (List.getElem_mem D)) ht
  obtain⟨V,fc,rfl,Ay,Zm⟩:=BN.cells
  have O:A.length=k*3:=by rw[N.len,rJ];simp;omega
  generalize hy:comp (nH l) scope xs[k]=y at*
  have Y:(A++repl [T.i .i64 0,T.i .i64 0,T.nilsl] (xs.length-k)).length=xs.length*3:=by rw[List.length_append,Gl,O];simp;omega
  have A6:splice (A++repl [T.i .i64 0,T.i .i64 0,T.nilsl] (xs.length-k)) (k*3) [.i .i64 y.op,.i .i64 y.num,V]=(A++ [.i .i64 y.op,.i .i64 y.num,V])++repl [T.i .i64 0,T.i .i64 0,T.nilsl] (xs.length-(k+1)):=by
   rw[show xs.length-k=(xs.length-(k+1))+1 by omega,Cj,Gk A [T.i .i64 0,T.i .i64 0,T.nilsl] _ [T.i .i64 y.op,T.i .i64 y.num,V] (k*3) O rfl]
  have Z:k*3+3≤xs.length*3:=by omega
  simp only[qA,seval,jw,iN,kP,uM,H,I,J,Dc,Gc,Dl,E,Iw,iU,iW,hw,iI,sD,tp,lE.kept1,Ay.froz1,D,Y,A6,Z]
  refine⟨_,rfl,_,_,A++ [.i .i64 y.op,.i .i64 y.num,V],Q6,rfl, ?_, ?_, ?_, ?_, ?_, ?_, ?_, ?_, ?_, ?_,X,fun i hi=>by rw[PN i hi,Nw i hi]⟩
  all_goals first|(simp only[qA,seval,H,I,J,Dc,Gc,K,E];done)|skip
  rw[List.take_succ_eq_append_getElem D,rJ,List.map_append,←rJ,List.map_cons,hy]
  exact jl.append N (jl.one BN)
 ·rintro _ ⟨fr,F,A,MF,rfl,H,I,J,Dc,Gc,Dl,K,E,Iw,N,P4,Nw⟩
  rw[Nat.sub_self,show repl [T.i .i64 0,T.i .i64 0,T.nilsl] 0= []from rfl,List.append_nil]at Iw
  rw[List.take_length]at N
  simp only[qA,seval,uM,Gc,Dl,Int.lt_irrefl]
  exact⟨_,_,oH,rfl,rfl,K,E,⟨A,Iw,N⟩,MF,rfl,P4,Nw⟩
end
end Go.Proofs.YtjniffjppoklpaaGreat
