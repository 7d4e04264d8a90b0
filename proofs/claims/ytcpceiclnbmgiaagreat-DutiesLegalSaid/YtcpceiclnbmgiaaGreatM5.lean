/- Walks of functions of the program and of the reference, and their plain laws, part 5. Conditions: the theorems' own. -/
import Derived.Test.YtcpceiclnbmgiaaGreatM4
import Derived.KernelRfl
set_option maxRecDepth 100000
set_option linter.unusedSimpArgs false
set_option linter.unusedVariables false
set_option maxHeartbeats 16000000
namespace Go.Proofs.YtcpceiclnbmgiaaGreat
open Go Go.Ev
theorem Ex.fold_eq(cl:List Nat→Int×Int)(cx:List Nat→Ex)(scope:Int)(x:Ex):x.fold cl cx scope=
  if x.op=6 then(if lX scope x.name≠0 then x else cx x.name)
  else if x.args.isEmpty then x
  else if(rJ cl cx scope x.args).all isLit then wc (x.ty cl scope).1 (SY x.op ((rJ cl cx scope x.args).map acj))
  else asG x.op (rJ cl cx scope x.args):=by obtain⟨_,_,_,_⟩:=x;rw[Ex.fold];rfl
theorem CD{cl:List Nat→Int×Int}{scope k:Int}{x:Ex}(i:x.ty cl scope=(k,0))(r:x.op≠6): ∃ts,se cl scope x.args= .ok ts∧tJ x.op ts=k∧k≠0:=by
 rw[Ex.ty_eq,if_neg r]at i
 cases hr:se cl scope x.args with
 |error e=>
  rw[hr]at i
  have D:((0:Int),e)=(k,0):=i
  injection D with _ h0
  exact absurd h0 (Qf hr)
 |ok ts=>
  grind
theorem zP{cl:List Nat→Int×Int}{scope:Int}{x:Ex}{xs:List Ex}{ts:List Int}(h:se cl scope (x::xs)= .ok ts): ∃t us,ts=t::us∧x.ty cl scope=(t,0)∧se cl scope xs= .ok us:=by
 grind [se]
theorem CE{x:Ex}(h:x.wf=true):1≤x.op∧x.op≤22∧lF x.op x.args.length=true∧(0≤x.num∧x.num≤DX x.op)∧(if x.op=6 then tH x.name=true else x.name= [])∧BV x.args=true:=by
 simp_all[Ex.wf_eq,Bool.and_eq_true,tI]
theorem akT{op:Int}{n:Nat}(i:1≤op)(r:lF op n=true)(D:n≠0):7≤op:=by
 grind [lF]
theorem adI{op:Int}{n:Nat}(i:op≤22)(r:lF op n=true)(D:n=0):op≤6:=by
 grind [lF]
mutual
def Ex.val0(i:List Nat→Int):Ex→Int
 | .mk op num name args=>if op=6 then i name else if op=1∨op=2∨op=3 then num else if op=4 then 1 else if op=5 then 0 else SY op (vg i args)
def vg(i:List Nat→Int):List Ex→List Int
 | []=> []
 |x::xs=>x.val0 i::vg i xs
end
theorem Ex.val0_eq(i:List Nat→Int)(x:Ex):x.val0 i=if x.op=6 then i x.name else if x.op=1∨x.op=2∨x.op=3 then x.num else if x.op=4 then 1 else if x.op=5 then 0 else SY x.op (vg i x.args):=by obtain⟨_,_,_,_⟩:=x;rw[Ex.val0];rfl
def cxv(cl:List Nat→Int×Int)(i:List Nat→Int)(s:List Nat):Ex:=wc (cl s).1 (i s)
def Sd(cl:List Nat→Int×Int)(i:List Nat→Int):Prop:= ∀s t,cl s=(t,0)→E3 t (i s)
theorem Y5{cl:List Nat→Int×Int}{scope:Int}{x:Ex}{k:Int}(Cv:x.wf=true)(i:x.ty cl scope=(k,0))(F:x.op≠6)(r:x.args= []):x=wc k (if x.op=1∨x.op=2∨x.op=3 then x.num else if x.op=4 then 1 else 0)∧E3 k (if x.op=1∨x.op=2∨x.op=3 then x.num else if x.op=4 then 1 else 0)∧x.op≤5:=by
 obtain⟨J,H,I,NV,ER,J4⟩:=CE Cv
 have K:x.op≤6:=adI H I (by rw[r];rfl)
 rw[Ex.ty_eq,if_neg F,r,se]at i
 rw[if_neg F]at ER
 obtain⟨op,num,name,args⟩:=x
 simp only[Ex.op,Ex.num,Ex.name,Ex.args]at*
 subst ER r
 have D:op=1∨op=2∨op=3∨op=4∨op=5:=by omega
 rcases D with rfl|rfl|rfl|rfl|rfl
 all_goals
  simp[tJ]at i
  subst i
  simp[DX]at NV
 ·refine⟨?_,.inl ⟨.inl rfl, ?_⟩,by decide⟩
  ·simp[wc,nQ];omega
  ·simp[bd];omega
 ·refine⟨?_,.inl ⟨.inr rfl, ?_⟩,by decide⟩
  ·simp[wc,nQ];omega
  ·simp[bd];omega
 ·refine⟨?_,.inr (.inl ⟨rfl, ?_⟩),by decide⟩
  ·simp[wc,nQ]
  ·simpa using NV
 ·refine⟨?_,.inr (.inr ⟨rfl,.inr rfl⟩),by decide⟩
  simp[wc,nQ];omega
 ·refine⟨?_,.inr (.inr ⟨rfl,.inl rfl⟩),by decide⟩
  simp[wc,nQ];omega
theorem Qg{cl:List Nat→Int×Int}{i:List Nat→Int}(hc:Sd cl i)(scope:Int)(K: ∀s,lX scope s=0)(x:Ex): ∀k,x.wf=true→x.ty cl scope=(k,0)→x.fold cl (cxv cl i) scope=wc k (x.val0 i)∧E3 k (x.val0 i):=by
 induction x using Ex.ind with
 |h x ih=>
  intro k Cv r
  obtain⟨U,V,H,NV,ER,J4⟩:=CE Cv
  rw[Ex.fold_eq,Ex.val0_eq]
  by_cases D:x.op=6
  ·rw[if_pos D,if_pos D]
   rw[Ex.ty_eq,if_pos D,if_neg (by simp[K])]at r
   rw[if_neg (by simp[K])]
   exact⟨by unfold cxv;rw[r],hc _ _ r⟩
  rw[if_neg D,if_neg D]
  by_cases I:x.args.isEmpty=true
  ·grind [Y5]
  ·rw[if_neg I]
   have N:x.args.length≠0:=by
    intro h;exact I (by simp[List.length_eq_zero_iff.1 h])
   have W:=akT U H N
   obtain⟨ts,F,hr,hk⟩:=CD r D
   have ZA:Bd ts (vg i x.args)∧(rJ cl (cxv cl i) scope x.args).all isLit=true∧(rJ cl (cxv cl i) scope x.args).map acj=vg i x.args:=by
    clear r H N I hr Cv NV ER
    generalize x.args=xs at ih F J4
    induction xs generalizing ts with
    |nil=>rw[se]at F;cases F;exact⟨trivial,rfl,rfl⟩
    |cons z zs J=>
     obtain⟨t,us,rfl,X,Y⟩:=zP F
     rw[BV,Bool.and_eq_true]at J4
     obtain⟨Z,O⟩:=ih z (by simp) t J4.1 X
     obtain⟨g1,g2,g3⟩:=J us (fun y hy=>ih y (by simp[hy])) Y J4.2
     rw[rJ,vg,Z]
     obtain⟨_,q1,q2⟩:=Iy (scope:=scope) O
     refine⟨⟨O,g1⟩, ?_, ?_⟩
     ·rw[List.all_cons,q1,g2];rfl
     ·rw[List.map_cons,q2,g3]
   obtain⟨i1,i2,i3⟩:=ZA
   have hlen:ts.length=x.args.length:=Cw F
   rw[if_pos i2,i3,r,if_neg (by omega),if_neg (by omega),if_neg (by omega)]
   exact⟨rfl,(agb i1 W V (by rw[hlen];exact H) hr hk).2⟩
def vxk(l:Cs)(IJ:List Int)(s:List Nat):Int:=match oX l s with
 |none=>0
 |some i=>IJ.getD i 0
def E7(l:Cs):Nat→List Int
 |0=> []
 |n+1=>E7 l n++ [if(MR (l.take n) (pL l n) (l.getD n ([],.mk 0 0 [] [])).2).2=0 then(l.getD n ([],.mk 0 0 [] [])).2.val0 (vxk (l.take n) (E7 l n))else 0]
theorem CF(l:Cs): ∀n,(E7 l n).length=n
 |0=>rfl
 |n+1=>by rw[E7,List.length_append,CF l n];rfl
theorem Y6(l:Cs){n:Nat}(h:n<l.length):E7 l (n+1)=E7 l n++ [if(MR (l.take n) (pL l n) l[n].2).2=0 then l[n].2.val0 (vxk (l.take n) (E7 l n))else 0]:=by
 rw[E7,List.getD_eq_getElem?_getD,List.getElem?_eq_getElem h];rfl
theorem Qh(l:Cs)(n:Nat): ∀k,∃r,E7 l (n+k)=E7 l n++r
 |0=>⟨[],by simp⟩
 |k+1=>by
  obtain⟨r,h⟩:=Qh l n k
  grind [Nat.add_assoc,E7]
theorem Qi(l:Cs){n i:Nat}(D:n≤l.length)(hi:i<n):(E7 l n).getD i 0=(E7 l l.length).getD i 0:=by
 obtain⟨r,h⟩:=Qh l n (l.length-n)
 grind [CF,hi]
def CL(l:Cs)(n:Nat):List Nat→Int×Int:=clk (l.take n) (pL l n)
def VX(l:Cs)(n:Nat):List Nat→Int:=vxk (l.take n) (E7 l n)
def LY(l:Cs):List Nat→Int×Int:=clk l (pL l l.length)
def pX(l:Cs):List Nat→Int:=vxk l (E7 l l.length)
theorem D3(l:Cs):CL l l.length=LY l:=by grind [CL,LY]
theorem akV(l:Cs):VX l l.length=pX l:=by grind [VX,pX]
theorem CG{l:Cs}{n:Nat}(J:n≤l.length){s:List Nat}{t:Int}(h:CL l n s=(t,0)): ∃i,∃hi:i<l.length,i<n∧oX l s=some i∧jy l[i].2=0∧l[i].2.ty (CL l i) 0=(t,0)∧LY l s=(t,0)∧VX l n s=l[i].2.val0 (VX l i)∧pX l s=l[i].2.val0 (VX l i)∧wq l i=(t,0):=by
 unfold CL clk at h
 rw[A4]at h
 cases D:oX l s with
 |none=>grind
 |some i=>
  rw[D]at h
  simp only at h
  by_cases hi:i<n
  ·rw[if_pos hi]at h
   simp only at h
   have H:i<l.length:=PE D
   rw[EJ l J hi]at h
   have r:wq l i=(t,0):=h
   have I:=r
   rw[P1 l H]at r
   have Fp:=r
   unfold MR at r
   by_cases F:jy l[i].2≠0
   ·rw[if_pos F]at r;injection r with _ r;exact absurd r F
   ·rw[if_neg F]at r
    have K:(E7 l l.length).getD i 0=l[i].2.val0 (VX l i):=by
     rw[←Qi l (n:=i+1) (by omega) (by omega),Y6 l H,List.getD_eq_getElem?_getD,List.getElem?_append_right (by rw[CF];omega),CF,Nat.sub_self,Fp]
     rfl
    refine⟨i,H,hi,rfl,by simpa using F,r, ?_, ?_, ?_,I⟩
    ·unfold LY clk;rw[D];exact h
    ·unfold VX vxk
     rw[A4,D]
     simp only[if_pos hi]
     rw[Qi l J hi,K];rfl
    ·unfold pX vxk;rw[D];exact K
  ·grind
theorem rR(s:List Nat):lX 0 s=0:=by unfold lX;rfl
theorem agd(l:Cs): ∀n,n≤l.length→Sd (CL l n) (VX l n):=by
 intro n
 induction n using Nat.strongRecOn with
 |ind n ih=>
  intro r s t hs
  obtain⟨i,H,hi,_,D,F,_,e,_⟩:=CG r hs
  rw[e]
  exact(Qg (ih i hi (by omega)) 0 (fun s=>rR s) l[i].2 t (oj D) F).2
theorem HZ(l:Cs):Sd (LY l) (pX l):=by
 have:=agd l l.length (Nat.le_refl _)
 rwa [D3,akV]at this
theorem fold_congr{cl Ip:List Nat→Int×Int}{cx i:List Nat→Ex}(scope:Int)(hc: ∀s t,cl s=(t,0)→Ip s=(t,0)∧i s=cx s)(x:Ex): ∀k,x.ty cl scope=(k,0)→x.ty Ip scope=(k,0)∧x.fold Ip i scope=x.fold cl cx scope:=by
 induction x using Ex.ind with
 |h x ih=>
  intro k F
  by_cases H:x.op=6
  ·grind [Ex.ty_eq,Ex.fold_eq]
  ·obtain⟨ts,r,hr,hk⟩:=CD F H
   have hl:se Ip scope x.args= .ok ts∧rJ Ip i scope x.args=rJ cl cx scope x.args:=by
    clear F hr
    generalize x.args=xs at ih r
    induction xs generalizing ts with
    |nil=>rw[se]at r;cases r;exact⟨rfl,rfl⟩
    |cons z W D=>
     obtain⟨t,us,rfl,I,J⟩:=zP r
     obtain⟨K,N⟩:=ih z (by simp) t I
     obtain⟨O,U⟩:=D us (fun y V=>ih y (by simp[V])) J
     rw[se,rJ,rJ,K,O,N,U]
     exact⟨rfl,rfl⟩
   grind [Ex.ty_eq,Ex.fold_eq]
theorem auK{l:Cs}{n:Nat}(i:n≤l.length): ∀s t,CL l n s=(t,0)→LY l s=(t,0)∧cxv (LY l) (pX l) s=cxv (CL l n) (VX l n) s:=fun s t hs=>by
 grind [cxv,CG]
def Y7(l:Cs)(scope:Int)(x:Ex):Ex:=x.fold (LY l) (cxv (LY l) (pX l)) scope
theorem LG{l:Cs}{s:List Nat}{t:Int}(h:LY l s=(t,0)): ∃i,∃hi:i<l.length,oX l s=some i∧jy l[i].2=0∧l[i].2.ty (CL l i) 0=(t,0)∧l[i].2.ty (LY l) 0=(t,0)∧Y7 l 0 l[i].2=wc t (pX l s)∧E3 t (pX l s)∧wq l i=(t,0)∧pX l s=(E7 l l.length).getD i 0:=by
 have F:=h
 rw[←D3]at F
 obtain⟨i,r,hi,H,I,D,N,O,J,K⟩:=CG (Nat.le_refl _) F
 obtain⟨c1,c2⟩:=fold_congr 0 (auK (Nat.le_of_lt r)) l[i].2 t D
 refine⟨i,r,H,I,D,c1, ?_,HZ l s t h,K, ?_⟩
 ·unfold Y7
  rw[c2,(Qg (agd l i (Nat.le_of_lt r)) 0 (fun s=>rR s) l[i].2 t (oj I) D).1,J]
 ·unfold pX vxk;rw[H]
def kV(ns:List (List Nat))(i:Nat):List (List Nat×Nat):=(ns.take i).zipIdx
theorem Y8{ns:List (List Nat)}{i:Nat}(hi:i<ns.length):kV ns (i+1)=kV ns i++ [(ns[i],i)]:=by
 unfold kV
 rw[List.take_succ_eq_append_getElem hi,List.zipIdx_append]
 simp[List.length_take,Nat.min_eq_left (Nat.le_of_lt hi)]
theorem Y9{ns:List (List Nat)}(D:ns.Nodup){i:Nat}(hi:i<ns.length):iJ (kV ns i) ns[i]=none:=by
 have F: ∀(m:List (List Nat×Nat)) (s:List Nat),(∀p∈m,p.1≠s)→iJ m s=none:=by
  intro m s h
  induction m with
  |nil=>rfl
  |cons p m ih=>
   rw[iJ,if_neg (fun e=>h p (List.mem_cons_self ..) e.symm)]
   exact ih fun q I=>h q (List.mem_cons_of_mem _ I)
 refine F _ _ fun p J e=> ?_
 have H:p.1∈ns.take i:=List.fst_mem_of_mem_zipIdx J
 rw[e]at H
 obtain⟨j,K,r⟩:=List.getElem_of_mem H
 rw[List.length_take]at K
 rw[List.getElem_take]at r
 exact List.pairwise_iff_getElem.1 D j i (by omega) hi (by omega) r
def pP(lT:T)(m:List (List Nat×Nat))(kn:List (Nat×Int))(c0 c1 c2 c3:T)(ms:List (List (List Nat×Nat))):List b8:=
 ⟨1,.map (m.map fun p=>sK p.1) (m.map fun p=>nK p.2) false⟩::⟨1,.map (kn.map fun p=>nK p.1) (kn.map fun p=>iV p.2) false⟩::⟨1,.cells [lT,.mp .S 0 1,.mp .S 1 1,c0,c1,c2,c3] 0 true⟩::ms.map fun p=>⟨1,.map (p.map fun p=>sK p.1) (p.map fun p=>nK p.2) false⟩
section
variable(lT:T)(m:List (List Nat×Nat))(kn:List (Nat×Int))(c0 c1 c2 c3:T)(ms:List (List (List Nat×Nat)))
theorem cp0:iz (pP lT m kn c0 c1 c2 c3 ms) 0=⟨1,.map (m.map fun p=>sK p.1) (m.map fun p=>nK p.2) false⟩:=nr rfl
theorem cp2:iz (pP lT m kn c0 c1 c2 c3 ms) 2=⟨1,.cells [lT,.mp .S 0 1,.mp .S 1 1,c0,c1,c2,c3] 0 true⟩:=nr rfl
theorem aBJ(i:List (List Nat×Nat)):iH (pP lT m kn c0 c1 c2 c3 ms) 0 ⟨1,.map (i.map fun p=>sK p.1) (i.map fun p=>nK p.2) false⟩=pP lT i kn c0 c1 c2 c3 ms:=nr rfl
theorem adJ(i r D F:T):iH (pP lT m kn c0 c1 c2 c3 ms) 2 ⟨1,.cells [lT,.mp .S 0 1,.mp .S 1 1,i,r,D,F] 0 true⟩=pP lT m kn i r D F ms:=nr rfl
theorem auL:pP lT [] [] .nilmp .nilmp .nilmp .nilmp []= [⟨1,.map [] [] false⟩,⟨1,.map [] [] false⟩,⟨1,.cells [lT,.mp .S 0 1,.mp .S 1 1,.nilmp,.nilmp,.nilmp,.nilmp] 0 true⟩]:=nr rfl
end
section
variable(l:Cs)(lT:T)(cl:List T)(hl:IsSl lT l.length cl)(mG:mf l cl)(hlen:l.length≤qz)
include hl mG hlen
theorem aBK(fr:Fr)(lh:iw b8)(sh:List b8)(W:sh=pP lT [] [] .nilmp .nilmp .nilmp .nilmp [])
  (F:an fr 3= .ptr .S 2 1 0) (H:an fr 16=lT) (D:an fr 17= .i .i64 (l.length:Int)) (I:an fr 18= .i .i64 0):
  wJ 71 wS fr lh sh (.ext 0)∧
  (ow pE 71 wS fr lh sh=pP lT (js l l.length) [] .nilmp .nilmp .nilmp .nilmp []):=by
 refine jH (P:=fun Z iU X=>X=pP lT (js l l.length) [] .nilmp .nilmp .nilmp .nilmp [])
  (j6 (fun k st=> ∃(fr:Fr) (K:iw b8),st=⟨fr,K,pP lT (js l k) [] .nilmp .nilmp .nilmp .nilmp []⟩∧an fr 3= .ptr .S 2 1 0∧an fr 16=lT∧an fr 17= .i .i64 (l.length:Int)∧an fr 18= .i .i64 (k:Int)) _ l.length ?_ ?_ 0 _ (Nat.zero_le _) ⟨fr,lh,by rw[W];rfl,F,H,D,I⟩)
 ·rintro k _ hk ⟨fr,K,rfl,F,H,D,I⟩
  left
  have O:(k:Int)<l.length:=by omega
  have U:=ji (k:=k) (by omega)
  obtain⟨b,cb,r,V,mZ,sg,hb⟩:=ot hl mG k hk
  have J:=lkS (js l k) l[k].1
  rw[A8 l hk]
  cases N:iJ (js l k) l[k].1 with
  |some i=>
   rw[N]at J
   unfold Te at J
   simp only[qA,seval,jG,iE,j2,wS,F,H,D,I,O,V,U,cp2,cp0,jF,J]
   refine⟨_,rfl,_,_,rfl, ?_, ?_, ?_, ?_⟩ <;> simp only[qA,seval,F,H,D]
  |none=>
   rw[N]at J
   unfold Te at J
   have Y:qE (.one .str) (.s l[k].1) (.i .i64 (k:Int)) ((js l k).map fun p=>sK p.1) ((js l k).map fun p=>nK p.2)=_:=y9 (kT:=sK) (vT:=nK) FD (js l k) l[k].1 k N
   simp only[qA,seval,jG,iE,j2,wS,F,H,D,I,O,V,U,cp2,cp0,jF,J,BB,Y,aBJ]
   refine⟨_,rfl,_,_,rfl, ?_, ?_, ?_, ?_⟩ <;> simp only[qA,seval,F,H,D]
 ·rintro _ ⟨fr,K,rfl,F,H,D,I⟩
  simp only[qA,seval,wS,D,I,Int.lt_irrefl]
  exact⟨_,_,uC,rfl,rfl,rfl⟩
end
def S9(scope:Int):List (List Nat):=if scope=1 then kb else if scope=2 then my else if scope=3 then qQ else []
theorem aBL:be pE 93 [.i .i64 1] []=some (.sl (strs kb) 11 true,[]):=mS (m:=100) (mP (by kernel_rfl))
theorem aBM:be pE 93 [.i .i64 2] []=some (.sl (strs my) 25 false,[]):=mS (m:=100) (mP (by kernel_rfl))
theorem aBN:be pE 93 [.i .i64 3] []=some (.sl (strs qQ) 7 true,[]):=mS (m:=100) (mP (by kernel_rfl))
theorem aBO:be pE 93 [.i .i64 0] []=some (.nilsl,[]):=mS (m:=100) (mP (by kernel_rfl))
theorem Za:kb.Nodup:=by decide+kernel
theorem Zb:my.Nodup:=by decide+kernel
theorem Zc:qQ.Nodup:=by decide+kernel
theorem G2{α:Type}(d:α): ∀(l:List α) (x:α),rU d l l.length x=l++ [x]
 | [],x=>rfl
 |a::l,x=>by rw[List.length_cons,rU,G2 d l x];rfl
theorem LH{α:Type}(d:α): ∀(l:List α) (x y:α),rU d (l++ [x]) l.length y=l++ [y]
 | [],x,y=>rfl
 |a::l,x,y=>by rw[List.cons_append,List.length_cons,rU,LH d l x y];rfl
section
variable(lT:T)(m:List (List Nat×Nat))(kn:List (Nat×Int))(c0 c1 c2 c3:T)(ms:List (List (List Nat×Nat)))
theorem cpL:(pP lT m kn c0 c1 c2 c3 ms).length=ms.length+3:=by unfold pP;simp
theorem cpA:iH (pP lT m kn c0 c1 c2 c3 ms) (ms.length+3) ⟨1,.map [] [] false⟩=pP lT m kn c0 c1 c2 c3 (ms++ [[]]):=by
 grind [pP,iH,rU,List.length_map,G2]
theorem cpq(p:List (List Nat×Nat)):iz (pP lT m kn c0 c1 c2 c3 (ms++ [p])) (ms.length+3)=⟨1,.map (p.map fun p=>sK p.1) (p.map fun p=>nK p.2) false⟩:=by
 grind [pP,iz,iE,List.length_map,vI]
theorem aBP(p q:List (List Nat×Nat)):iH (pP lT m kn c0 c1 c2 c3 (ms++ [p])) (ms.length+3) ⟨1,.map (q.map fun p=>sK p.1) (q.map fun p=>nK p.2) false⟩=pP lT m kn c0 c1 c2 c3 (ms++ [q]):=by
 grind [pP,iH,rU,List.length_map,LH]
theorem Iz(D:Nat)(hc:(D=0∧c0= .mp .S (ms.length+3) 1)∨(D=1∧c1= .mp .S (ms.length+3) 1)∨(D=2∧c2= .mp .S (ms.length+3) 1)∨(D=3∧c3= .mp .S (ms.length+3) 1))(ns:List (List Nat))(K:ns.Nodup)(AW:ns.length≤100)(v:T)(O:IsSl v ns.length (strs ns))(fr:Fr)(lh:iw b8)(sh:List b8)(U:sh=pP lT m kn c0 c1 c2 c3 (ms++ [[]]))
  (H:an fr 3= .ptr .S 2 1 0) (I:an fr 8= .i .i64 (D:Int)) (J:an fr 53=v) (F:an fr 54= .i .i64 (ns.length:Int)) (r:an fr 55= .i .i64 0):
  wJ 71 Ae fr lh sh (.ext 4)∧
  (ow pE 71 Ae fr lh sh=pP lT m kn c0 c1 c2 c3 (ms++ [kV ns ns.length])):=by
 refine jH (P:=fun jN iU V=>V=pP lT m kn c0 c1 c2 c3 (ms++ [kV ns ns.length]))
  (j6 (fun k st=> ∃(fr:Fr) (N:iw b8),st=⟨fr,N,pP lT m kn c0 c1 c2 c3 (ms++ [kV ns k])⟩∧an fr 3= .ptr .S 2 1 0∧an fr 8= .i .i64 (D:Int)∧an fr 53=v∧an fr 54= .i .i64 (ns.length:Int)∧an fr 55= .i .i64 (k:Int)) _ ns.length ?_ ?_ 0 _ (Nat.zero_le _) ⟨fr,lh,by rw[U];rfl,H,I,J,F,r⟩)
 ·rintro k _ hk ⟨fr,N,rfl,H,I,J,F,r⟩
  left
  have W:(k:Int)<ns.length:=by omega
  have X:=iO (k:=k) (by omega)
  have Y: ∀kk,lR v (.i kk (k:Int)) 1=some (.vp (T.s ns[k]::(strs ns).drop (k+1))):=fun kk=>by rw[O.ia (sz:=1) (by rw[KC];omega) hk,Nat.mul_one,RR ns k hk]
  have Z:qE (.one .str) (.s ns[k]) (.i .i64 (k:Int)) ((kV ns k).map fun p=>sK p.1) ((kV ns k).map fun p=>nK p.2)=_:=y9 (kT:=sK) (vT:=nK) FD (kV ns k) ns[k] k (Y9 K hk)
  rw[Y8 hk]
  rcases hc with⟨rfl,hc⟩|⟨rfl,hc⟩|⟨rfl,hc⟩|⟨rfl,hc⟩ <;>
  (simp only[qA,seval,kZ,j2,Ae,H,I,J,F,r,W,Y,X,cp2,hc,cpq,BB,Z,aBP]
   refine⟨_,rfl,_,_,rfl, ?_, ?_, ?_, ?_, ?_⟩ <;> simp only[qA,seval,H,I,J,F])
 ·rintro _ ⟨fr,N,rfl,H,I,J,F,r⟩
  simp only[qA,seval,Ae,F,r,Int.lt_irrefl]
  grind
end
def HR(lT:T)(m:List (List Nat×Nat))(kn:List (Nat×Int)):Nat→List b8
 |0=>pP lT m kn .nilmp .nilmp .nilmp .nilmp []
 |1=>pP lT m kn (.mp .S 3 1) .nilmp .nilmp .nilmp [kV [] 0]
 |2=>pP lT m kn (.mp .S 3 1) (.mp .S 4 1) .nilmp .nilmp [kV [] 0,kV kb 11]
 |3=>pP lT m kn (.mp .S 3 1) (.mp .S 4 1) (.mp .S 5 1) .nilmp [kV [] 0,kV kb 11,kV my 25]
 |_=>pP lT m kn (.mp .S 3 1) (.mp .S 4 1) (.mp .S 5 1) (.mp .S 6 1) [kV [] 0,kV kb 11,kV my 25,kV qQ 7]
theorem akX(lT:T)(m:List (List Nat×Nat))(kn:List (Nat×Int))(fr:Fr)(lh:iw b8)(r:an fr 3= .ptr .S 2 1 0)(L2:an fr 43= .i .i64 0):
  ∃D H,DC pE 71 oL ⟨fr,lh,HR lT m kn 0⟩=some (.nrm,⟨D,H,HR lT m kn 1⟩)∧an D 3= .ptr .S 2 1 0∧an D 43= .i .i64 1:=by
 have I:iH (pP lT m kn .nilmp .nilmp .nilmp .nilmp []) 3 ⟨1,.map [] [] false⟩=pP lT m kn .nilmp .nilmp .nilmp .nilmp [[]]:=cpA lT m kn .nilmp .nilmp .nilmp .nilmp []
 have J:(pP lT m kn .nilmp .nilmp .nilmp .nilmp []).length=3:=cpL lT m kn .nilmp .nilmp .nilmp .nilmp []
 have F:=fun fr lh sh K N r O U V=>Iz lT m kn (.mp .S 3 1) .nilmp .nilmp .nilmp [] 0 (by simp) [] List.nodup_nil (by decide) .nilsl (Or.inl ⟨rfl,rfl,rfl⟩) fr lh sh K N r O U V
 change ∀fr lh sh,sh=pP lT m kn (.mp .S 3 1) .nilmp .nilmp .nilmp [[]]→an fr 3= .ptr .S 2 1 0→an fr 8= .i .i64 0→an fr 53= .nilsl→an fr 54= .i .i64 0→an fr 55= .i .i64 0→_ at F
 have W:=fun lh=>nI (lh:=lh) (sh:=pP lT m kn .nilmp .nilmp .nilmp .nilmp [[]]) (k:=2) (g:=1) (off:=3) (m:=1) (v:= .mp .S 3 1) yZ (cp2 lT m kn .nilmp .nilmp .nilmp .nilmp [[]])
 unfold HR
 simp only[qA,seval,kZ,jm,oL,py,r,L2,J,I,W,adJ,aBO,aad,F]
 first|done|refine⟨_,_,rfl, ?_, ?_⟩ <;> simp only[qA,seval,r,py]
theorem akY(lT:T)(m:List (List Nat×Nat))(kn:List (Nat×Int))(fr:Fr)(lh:iw b8)(r:an fr 3= .ptr .S 2 1 0)(L2:an fr 43= .i .i64 1):
  ∃D H,DC pE 71 oL ⟨fr,lh,HR lT m kn 1⟩=some (.nrm,⟨D,H,HR lT m kn 2⟩)∧an D 3= .ptr .S 2 1 0∧an D 43= .i .i64 2:=by
 have I:iH (pP lT m kn (.mp .S 3 1) .nilmp .nilmp .nilmp [kV [] 0]) 4 ⟨1,.map [] [] false⟩=pP lT m kn (.mp .S 3 1) .nilmp .nilmp .nilmp [kV [] 0,[]]:=cpA lT m kn (.mp .S 3 1) .nilmp .nilmp .nilmp [kV [] 0]
 have J:(pP lT m kn (.mp .S 3 1) .nilmp .nilmp .nilmp [kV [] 0]).length=4:=cpL lT m kn (.mp .S 3 1) .nilmp .nilmp .nilmp [kV [] 0]
 have F:=fun fr lh sh K N r O U V=>Iz lT m kn (.mp .S 3 1) (.mp .S 4 1) .nilmp .nilmp [kV [] 0] 1 (by simp) kb Za (by decide) (.sl (strs kb) 11 true) (Or.inr ⟨true,rfl⟩) fr lh sh K N r O U V
 change ∀fr lh sh,sh=pP lT m kn (.mp .S 3 1) (.mp .S 4 1) .nilmp .nilmp [kV [] 0,[]]→an fr 3= .ptr .S 2 1 0→an fr 8= .i .i64 1→an fr 53=(.sl (strs kb) 11 true)→an fr 54= .i .i64 11→an fr 55= .i .i64 0→_ at F
 have W:=fun lh=>nI (lh:=lh) (sh:=pP lT m kn (.mp .S 3 1) .nilmp .nilmp .nilmp [kV [] 0,[]]) (k:=2) (g:=1) (off:=4) (m:=1) (v:= .mp .S 4 1) yZ (cp2 lT m kn (.mp .S 3 1) .nilmp .nilmp .nilmp [kV [] 0,[]])
 unfold HR
 simp only[qA,seval,kZ,jm,oL,py,r,L2,J,I,W,adJ,aBL,aad,F]
 first|done|refine⟨_,_,rfl, ?_, ?_⟩ <;> simp only[qA,seval,r,py]
theorem akZ(lT:T)(m:List (List Nat×Nat))(kn:List (Nat×Int))(fr:Fr)(lh:iw b8)(r:an fr 3= .ptr .S 2 1 0)(L2:an fr 43= .i .i64 2):
  ∃D H,DC pE 71 oL ⟨fr,lh,HR lT m kn 2⟩=some (.nrm,⟨D,H,HR lT m kn 3⟩)∧an D 3= .ptr .S 2 1 0∧an D 43= .i .i64 3:=by
 have I:iH (pP lT m kn (.mp .S 3 1) (.mp .S 4 1) .nilmp .nilmp [kV [] 0,kV kb 11]) 5 ⟨1,.map [] [] false⟩=pP lT m kn (.mp .S 3 1) (.mp .S 4 1) .nilmp .nilmp [kV [] 0,kV kb 11,[]]:=cpA lT m kn (.mp .S 3 1) (.mp .S 4 1) .nilmp .nilmp [kV [] 0,kV kb 11]
 have J:(pP lT m kn (.mp .S 3 1) (.mp .S 4 1) .nilmp .nilmp [kV [] 0,kV kb 11]).length=5:=cpL lT m kn (.mp .S 3 1) (.mp .S 4 1) .nilmp .nilmp [kV [] 0,kV kb 11]
 have F:=fun fr lh sh K N r O U V=>Iz lT m kn (.mp .S 3 1) (.mp .S 4 1) (.mp .S 5 1) .nilmp [kV [] 0,kV kb 11] 2 (by simp) my Zb (by decide) (.sl (strs my) 25 false) (Or.inr ⟨false,rfl⟩) fr lh sh K N r O U V
 change ∀fr lh sh,sh=pP lT m kn (.mp .S 3 1) (.mp .S 4 1) (.mp .S 5 1) .nilmp [kV [] 0,kV kb 11,[]]→an fr 3= .ptr .S 2 1 0→an fr 8= .i .i64 2→an fr 53=(.sl (strs my) 25 false)→an fr 54= .i .i64 25→an fr 55= .i .i64 0→_ at F
 have W:=fun lh=>nI (lh:=lh) (sh:=pP lT m kn (.mp .S 3 1) (.mp .S 4 1) .nilmp .nilmp [kV [] 0,kV kb 11,[]]) (k:=2) (g:=1) (off:=5) (m:=1) (v:= .mp .S 5 1) yZ (cp2 lT m kn (.mp .S 3 1) (.mp .S 4 1) .nilmp .nilmp [kV [] 0,kV kb 11,[]])
 unfold HR
 simp only[qA,seval,kZ,jm,oL,py,r,L2,J,I,W,adJ,aBM,aad,F]
 first|done|refine⟨_,_,rfl, ?_, ?_⟩ <;> simp only[qA,seval,r,py]
theorem ak0(lT:T)(m:List (List Nat×Nat))(kn:List (Nat×Int))(fr:Fr)(lh:iw b8)(r:an fr 3= .ptr .S 2 1 0)(L2:an fr 43= .i .i64 3):
  ∃D H,DC pE 71 oL ⟨fr,lh,HR lT m kn 3⟩=some (.nrm,⟨D,H,HR lT m kn 4⟩)∧an D 3= .ptr .S 2 1 0∧an D 43= .i .i64 4:=by
 have I:iH (pP lT m kn (.mp .S 3 1) (.mp .S 4 1) (.mp .S 5 1) .nilmp [kV [] 0,kV kb 11,kV my 25]) 6 ⟨1,.map [] [] false⟩=pP lT m kn (.mp .S 3 1) (.mp .S 4 1) (.mp .S 5 1) .nilmp [kV [] 0,kV kb 11,kV my 25,[]]:=cpA lT m kn (.mp .S 3 1) (.mp .S 4 1) (.mp .S 5 1) .nilmp [kV [] 0,kV kb 11,kV my 25]
 have J:(pP lT m kn (.mp .S 3 1) (.mp .S 4 1) (.mp .S 5 1) .nilmp [kV [] 0,kV kb 11,kV my 25]).length=6:=cpL lT m kn (.mp .S 3 1) (.mp .S 4 1) (.mp .S 5 1) .nilmp [kV [] 0,kV kb 11,kV my 25]
 have F:=fun fr lh sh K N r O U V=>Iz lT m kn (.mp .S 3 1) (.mp .S 4 1) (.mp .S 5 1) (.mp .S 6 1) [kV [] 0,kV kb 11,kV my 25] 3 (by simp) qQ Zc (by decide) (.sl (strs qQ) 7 true) (Or.inr ⟨true,rfl⟩) fr lh sh K N r O U V
 change ∀fr lh sh,sh=pP lT m kn (.mp .S 3 1) (.mp .S 4 1) (.mp .S 5 1) (.mp .S 6 1) [kV [] 0,kV kb 11,kV my 25,[]]→an fr 3= .ptr .S 2 1 0→an fr 8= .i .i64 3→an fr 53=(.sl (strs qQ) 7 true)→an fr 54= .i .i64 7→an fr 55= .i .i64 0→_ at F
 have W:=fun lh=>nI (lh:=lh) (sh:=pP lT m kn (.mp .S 3 1) (.mp .S 4 1) (.mp .S 5 1) .nilmp [kV [] 0,kV kb 11,kV my 25,[]]) (k:=2) (g:=1) (off:=6) (m:=1) (v:= .mp .S 6 1) yZ (cp2 lT m kn (.mp .S 3 1) (.mp .S 4 1) (.mp .S 5 1) .nilmp [kV [] 0,kV kb 11,kV my 25,[]])
 unfold HR
 simp only[qA,seval,kZ,jm,oL,py,r,L2,J,I,W,adJ,aBN,aad,F]
 first|done|refine⟨_,_,rfl, ?_, ?_⟩ <;> simp only[qA,seval,r,py]
theorem aBQ(lT:T)(m:List (List Nat×Nat))(fr:Fr)(lh:iw b8)(sh:List b8)(J:sh=pP lT m [] .nilmp .nilmp .nilmp .nilmp [])(H:an fr 3= .ptr .S 2 1 0)(L2:an fr 43= .i .i64 0):
  wJ 71 oL fr lh sh (.ext 2)∧
  (ow pE 71 oL fr lh sh=HR lT m [] 4):=by
 refine jH (P:=fun D F K=>K=HR lT m [] 4)
  (j6 (fun k st=> ∃(fr:Fr) (I:iw b8),st=⟨fr,I,HR lT m [] k⟩∧an fr 3= .ptr .S 2 1 0∧an fr 43= .i .i64 (k:Int)) _ 4 ?_ ?_ 0 _ (Nat.zero_le _) ⟨fr,lh,by rw[J];rfl,H,L2⟩)
 ·rintro k _ hk ⟨fr,I,rfl,H,L2⟩
  left
  have hc:k=0∨k=1∨k=2∨k=3:=by omega
  rcases hc with rfl|rfl|rfl|rfl
  ·obtain⟨D,F,h,r,NW⟩:=akX lT m [] fr I H L2
   exact⟨_,h,D,F,rfl,r,NW⟩
  ·obtain⟨D,F,h,r,NW⟩:=akY lT m [] fr I H L2
   exact⟨_,h,D,F,rfl,r,NW⟩
  ·obtain⟨D,F,h,r,NW⟩:=akZ lT m [] fr I H L2
   exact⟨_,h,D,F,rfl,r,NW⟩
  ·obtain⟨D,F,h,r,NW⟩:=ak0 lT m [] fr I H L2
   exact⟨_,h,D,F,rfl,r,NW⟩
 ·rintro _ ⟨fr,I,rfl,H,L2⟩
  simp only[qA,seval,oL,L2]
  exact⟨_,_,uC,rfl,rfl,rfl⟩
section
variable(l:Cs)(lT:T)(cl:List T)(hl:IsSl lT l.length cl)(mG:mf l cl)(hlen:l.length≤qz)
include hl mG hlen
theorem aiN:be pE 51 [lT] []=some (.ptr .S 2 1 0,HR lT (js l l.length) [] 4):=by
 have i:=fun fr lh sh=>aBK l lT cl hl mG hlen fr lh sh
 have r:=fun fr lh sh=>aBQ lT (js l l.length) fr lh sh
 rw[auL]at i
 rw[il apv (by simp[c51])]
 simp only[qA,seval,jm,j2,c51,Tq,Tp,hl.lenI,hl.cells,hl.noTup,hl.kept1,i,r]
end
def Pm(scope:Int)(s:List Nat):Option Nat:=iJ (kV (S9 scope) (S9 scope).length) s
theorem ES{s:List Nat}: ∀{m:List (List Nat×Nat)},iJ m s=none↔ ∀p∈m,p.1≠s
 | []=>by simp[iJ]
 |p::m=>by
  rw[iJ]
  by_cases h:s=p.1
  ·grind
  ·rw[if_neg h,ES (m:=m)]
   grind
theorem adL{ns:List (List Nat)}{s:List Nat}:iJ (kV ns ns.length) s=none↔s∉ns:=by
 rw[ES]
 unfold kV
 rw[List.take_length]
 constructor
 ·intro h hs
  obtain⟨i,hi,e⟩:=List.getElem_of_mem hs
  exact h (ns[i],i) (List.mk_mem_zipIdx_iff_getElem?.2 (by rw[List.getElem?_eq_getElem hi])) e
 grind
theorem LI{ns:List (List Nat)}{s:List Nat}{i:Nat}: ∀{m:List (List Nat×Nat)},iJ m s=some i→(s,i)∈m
 | [],h=>by simp[iJ]at h
 |p::m,h=>by
  rw[iJ]at h
  by_cases e:s=p.1
  ·grind
  ·rw[if_neg e]at h
   exact List.mem_cons_of_mem _ (LI (ns:=ns) h)
theorem ak2{scope:Int}{s:List Nat}{i:Nat}(h:Pm scope s=some i):(S9 scope)[i]? =some s:=by
 have r:=LI (ns:=S9 scope) h
 grind [kV]
theorem Be(s:List Nat):ze s≠0↔s∈kb:=by
 constructor
 ·intro h
  by_cases i:s∈kb
  ·exact i
  simp_all[kb,List.mem_cons,List.not_mem_nil,ze,aiA,aiB,aiC]
 ·intro h
  simp only[kb,List.mem_cons,List.not_mem_nil,or_false]at h
  rcases h with rfl|rfl|rfl|rfl|rfl|rfl|rfl|rfl|rfl|rfl|rfl <;> decide
theorem SN(s:List Nat):Gy s≠0↔s∈qQ:=by
 grind [qQ,Gy,WG,WH]
theorem SO(s:List Nat):Gz s≠0↔s∈my:=by
 constructor
 ·intro h
  rw[Gz]at h
  by_cases D:s= [114,101,115,116]
  ·subst D;decide
  by_cases F:s= [110,105,103,104,116,115]
  ·subst F;decide
  by_cases H:s= [104,111,109,101]
  ·subst H;decide
  rw[if_neg D,if_neg F,if_neg H]at h
  by_cases i:uM WJ s
  ·rw[if_pos i,Be]at h
   have e:s=WJ++s.drop 7:=by rw[←((WM s).1 i).2,List.take_append_drop]
   rw[e]
   generalize s.drop 7=d at h
   simp only[kb,List.mem_cons,List.not_mem_nil,or_false]at h
   rcases h with rfl|rfl|rfl|rfl|rfl|rfl|rfl|rfl|rfl|rfl|rfl <;> decide
  ·rw[if_neg i]at h
   by_cases r:uM ZE s
   ·rw[if_pos r,Be]at h
    have e:s=ZE++s.drop 6:=by rw[←((WN s).1 r).2,List.take_append_drop]
    rw[e]
    generalize s.drop 6=d at h
    simp only[kb,List.mem_cons,List.not_mem_nil,or_false]at h
    rcases h with rfl|rfl|rfl|rfl|rfl|rfl|rfl|rfl|rfl|rfl|rfl <;> decide
   ·rw[if_neg r]at h;exact absurd rfl h
 ·intro hs
  simp only[my,List.mem_cons,List.not_mem_nil,or_false]at hs
  rcases hs with rfl|rfl|rfl|rfl|rfl|rfl|rfl|rfl|rfl|rfl|rfl|rfl|rfl|rfl|rfl|rfl|rfl|rfl|rfl|rfl|rfl|rfl|rfl|rfl|rfl <;> decide
theorem SP(scope:Int)(s:List Nat):lX scope s≠0↔s∈S9 scope:=by
 grind [lX,S9,Be,SO,SN]
theorem uS(scope:Int)(s:List Nat):Pm scope s=none↔lX scope s=0:=by
 unfold Pm
 rw[adL,←SP]
 grind
mutual
def comp(r:List Nat→Int)(scope:Int):Ex→Fm
 | .mk op num name args=>if op=1∨op=2∨op=3 then .mk 1 num []else if op=4 then .mk 1 1 []else if op=5 then .mk 1 0 []else if op=6 then(match Pm scope name with|some i=> .mk 6 (i:Int) []|none=> .mk 1 (r name) [])else .mk op 0 (lY r scope args)
def lY(i:List Nat→Int)(scope:Int):List Ex→List Fm
 | []=> []
 |x::xs=>comp i scope x::lY i scope xs
end
theorem rS(r:List Nat→Int)(scope:Int)(x:Ex):comp r scope x=if x.op=1∨x.op=2∨x.op=3 then .mk 1 x.num []else if x.op=4 then .mk 1 1 []else if x.op=5 then .mk 1 0 []else if x.op=6 then(match Pm scope x.name with|some i=> .mk 6 (i:Int) []|none=> .mk 1 (r x.name) [])else .mk x.op 0 (lY r scope x.args):=by obtain⟨_,_,_,_⟩:=x;rw[comp];rfl
theorem qC(i:List Nat→Int)(scope:Int): ∀xs,lY i scope xs=xs.map (comp i scope)
 | []=>rfl
 |x::xs=>by simp_all[lY,qC]
def ZM(cl:List Nat→Int×Int)(scope:Int)(s:List Nat):Int×Int:=if lX scope s≠0 then(lX scope s,0)else cl s
def IQ(D:List Nat→Int)(scope:Int)(r:List Int)(s:List Nat):Int:=match Pm scope s with|some i=>r.getD i 0|none=>D s
theorem ak3(cl:List Nat→Int×Int)(scope:Int)(x:Ex):x.ty cl scope=x.ty (ZM cl scope) 0:=by
 induction x using Ex.ind with
 |h x ih=>
  rw[Ex.ty_eq,Ex.ty_eq (cl:=ZM cl scope)]
  have hl:se cl scope x.args=se (ZM cl scope) 0 x.args:=by
   generalize x.args=xs at ih
   induction xs with
   |nil=>rfl
   |cons y r Ve=>
    rw[se,se,ih y (by simp),Ve fun z i=>ih z (by simp[i])]
  grind [ZM,rR]
theorem auM(cl:List Nat→Int×Int):ZM cl 0=cl:=by
 grind [ZM,rR]
theorem auN(s:List Nat):Pm 0 s=none:=(uS 0 s).2 (rR s)
theorem age(r:List Nat→Int)(i:List Int):IQ r 0 i=r:=by
 grind [IQ,auN]
theorem Pn{cl:List Nat→Int×Int}{D:List Nat→Int}{scope:Int}{r:List Int}(hc:Sd (ZM cl scope) (IQ D scope r))(kM:r.length=(S9 scope).length)(x:Ex): ∀k,x.wf=true→jP x.args≤100000→x.ty cl scope=(k,0)→E4 r (comp D scope x)∧(comp D scope x).val r=x.val0 (IQ D scope r)∧E3 k (x.val0 (IQ D scope r)):=by
 induction x using Ex.ind with
 |h x ih=>
  intro k Cv hn V
  have X:E3 k (x.val0 (IQ D scope r)):=by
   rw[ak3]at V
   exact(Qg hc 0 (fun s=>rR s) x k Cv V).2
  refine and_assoc.1 ⟨?_,X⟩
  obtain⟨h1,h2,Y,NV,ER,J4⟩:=CE Cv
  have Z:=Y3 X
  have F: ∀f v,comp D scope x=f→x.val0 (IQ D scope r)=v→(bd v→E4 r f∧f.val r=v)→E4 r (comp D scope x)∧(comp D scope x).val r=x.val0 (IQ D scope r):=by
   rintro f v rfl e h
   rw[e]at Z ⊢
   exact h Z
  have W: ∀n,bd n→E4 r (.mk 1 n [])∧(Fm.mk 1 n []).val r=n:=fun n N=>⟨(Iw _ _).2 (.inl ⟨rfl,N⟩),by rw[Fm.val_eq];rfl⟩
  by_cases H:x.op=1∨x.op=2∨x.op=3
  ·exact F _ _ (by rw[rS,if_pos H]) (by rw[Ex.val0_eq,if_neg (by omega),if_pos H]) (W _)
  by_cases I:x.op=4
  ·exact F _ _ (by rw[rS,if_neg H,if_pos I]) (by rw[Ex.val0_eq,if_neg (by omega),if_neg H,if_pos I]) (W _)
  by_cases K:x.op=5
  ·exact F _ _ (by rw[rS,if_neg H,if_neg I,if_pos K]) (by rw[Ex.val0_eq,if_neg (by omega),if_neg H,if_neg I,if_pos K]) (W _)
  by_cases J:x.op=6
  ·cases O:Pm scope x.name with
   |none=>exact F _ _ (by rw[rS,if_neg H,if_neg I,if_neg K,if_pos J,O]) (by rw[Ex.val0_eq,if_pos J,IQ,O]) (W _)
   |some i=>
    have hi:=ak2 O
    have qZ:i<(S9 scope).length:=(List.getElem?_eq_some_iff.1 hi).1
    refine F (.mk 6 (i:Int) []) (r.getD i 0) (by rw[rS,if_neg H,if_neg I,if_neg K,if_pos J,O]) (by rw[Ex.val0_eq,if_pos J,IQ,O]) fun N=>⟨(Iw _ _).2 (.inr (.inl ⟨rfl,Int.natCast_nonneg i, ?_,N⟩)),by rw[Fm.val_eq];rfl⟩
    show(i:Int).toNat<r.length
    rw[Int.toNat_natCast,kM];exact qZ
  ·refine F _ _ (by rw[rS,if_neg H,if_neg I,if_neg K,if_neg J]) (by rw[Ex.val0_eq,if_neg J,if_neg H,if_neg I,if_neg K]) fun N=> ?_
   have h7:7≤x.op:=by omega
   obtain⟨ts,U,hr,hk⟩:=CD V J
   have hlen:ts.length=x.args.length:=Cw U
   have Mi:=mi x.args
   have ZA:EO r (lY D scope x.args)∧l6 r (lY D scope x.args)=vg (IQ D scope r) x.args∧Bd ts (vg (IQ D scope r) x.args):=by
    clear V Y hr Cv NV ER hlen Z X Mi F N
    generalize x.args=xs at ih U J4 hn
    induction xs generalizing ts with
    |nil=>rw[se]at U;cases U;exact⟨by rw[lY,EO];trivial,by rw[lY,l6,vg],trivial⟩
    |cons z zs ihz=>
     obtain⟨t,us,rfl,e1,e2⟩:=zP U
     rw[BV,Bool.and_eq_true]at J4
     rw[jP]at hn
     have hz:=z.nodes_eq
     obtain⟨f1,f2,f3⟩:=ih z (by simp) t J4.1 (by omega) e1
     obtain⟨g1,g2,g3⟩:=ihz us (fun y hy=>ih y (by simp[hy])) e2 J4.2 (by omega)
     rw[lY,l6,vg,EO,f2,g2]
     exact⟨⟨f1,g1⟩,rfl,f3,g3⟩
   obtain⟨i1,i2,i3⟩:=ZA
   have mG:(lY D scope x.args).length=x.args.length:=by rw[qC,List.length_map]
   obtain⟨hv,_⟩:=agb i3 h7 h2 (by rw[hlen];exact Y) hr hk
   refine⟨(Iw _ _).2 (.inr (.inr ⟨h7,h2,by show lF x.op (lY D scope x.args).length=true;rw[mG];exact Y,by show(lY D scope x.args).length≤qz;rw[mG];exact oi (by omega),i1,by show vOk x.op (l6 r (lY D scope x.args));rw[i2];exact hv⟩)), ?_⟩
   rw[Fm.val_eq]
   show(if x.op=1 then(0:Int)else if x.op=6 then r.getD (0:Int).toNat 0 else SY x.op (l6 r (lY D scope x.args)))=SY x.op (vg (IQ D scope r) x.args)
   rw[if_neg (by omega),if_neg J,i2]
def lI(lT:T)(m:List (List Nat×Nat))(kn:List (Nat×Int))(R:List b8):List b8:=HR lT m kn 4++R
section
variable(lT:T)(m:List (List Nat×Nat))(kn:List (Nat×Int))(R:List b8)
theorem auO:iz (lI lT m kn R) 0=⟨1,.map (m.map fun p=>sK p.1) (m.map fun p=>nK p.2) false⟩:=nr rfl
theorem auP:iz (lI lT m kn R) 1=⟨1,.map (kn.map fun p=>nK p.1) (kn.map fun p=>iV p.2) false⟩:=nr rfl
theorem IA:iz (lI lT m kn R) 2=⟨1,.cells [lT,.mp .S 0 1,.mp .S 1 1,.mp .S 3 1,.mp .S 4 1,.mp .S 5 1,.mp .S 6 1] 0 true⟩:=nr rfl
theorem aBR:iz (lI lT m kn R) 3=⟨1,.map ((kV [] 0).map fun p=>sK p.1) ((kV [] 0).map fun p=>nK p.2) false⟩:=nr rfl
theorem auQ:iz (lI lT m kn R) 4=⟨1,.map ((kV kb 11).map fun p=>sK p.1) ((kV kb 11).map fun p=>nK p.2) false⟩:=nr rfl
theorem auR:iz (lI lT m kn R) 5=⟨1,.map ((kV my 25).map fun p=>sK p.1) ((kV my 25).map fun p=>nK p.2) false⟩:=nr rfl
theorem auS:iz (lI lT m kn R) 6=⟨1,.map ((kV qQ 7).map fun p=>sK p.1) ((kV qQ 7).map fun p=>nK p.2) false⟩:=nr rfl
theorem auT(i:List (Nat×Int)):iH (lI lT m kn R) 1 ⟨1,.map (i.map fun p=>nK p.1) (i.map fun p=>iV p.2) false⟩=lI lT m i R:=nr rfl
end
def kOf:List b8→List (Nat×Int)
 |_::⟨_,.map ks r _⟩::_=>(ks.zip r).map fun p=>((match p.1 with| .i _ n=>n.toNat|_=>0),(match p.2 with| .i _ n=>n|_=>0))
 |_=> []
theorem ak4(lT:T)(m:List (List Nat×Nat))(R:List b8): ∀kn,kOf (lI lT m kn R)=kn:=by
 intro kn
 unfold kOf lI HR pP
 simp only[List.cons_append]
 induction kn with
 |nil=>rfl
 |cons p kn ih=>rw[List.map_cons,List.map_cons,List.zip_cons_cons,List.map_cons,ih];obtain⟨a,b⟩:=p;simp[nK,iV]
noncomputable def kL(E:Env)(n:Nat)(a:fx)(fr:Fr)(lh:iw b8)(sh:List b8):List (Nat×Int):=kOf (ow E n a fr lh sh)
theorem agf{E:Env}{n:Nat}{a:fx}{fr:Fr}{lh:iw b8}{sh:List b8}{lT:T}{m:List (List Nat×Nat)}{R:List b8}{P:List (Nat×Int)→Prop}(h: ∃kn,ow E n a fr lh sh=lI lT m kn R∧P kn):ow E n a fr lh sh=lI lT m (kL E n a fr lh sh) R∧P (kL E n a fr lh sh):=by
 obtain⟨kn,i,r⟩:=h
 have:kL E n a fr lh sh=kn:=by unfold kL;rw[i,ak4]
 rw[this];exact⟨i,r⟩
theorem Zd{cl:List Nat→Int×Int}{scope:Int}: ∀{xs:List Ex} {ts:List Int},se cl scope xs= .ok ts→ ∀(k:Nat) (hk:k<xs.length),∃t,xs[k].ty cl scope=(t,0)
 | [],ts,h,k,hk=>by simp at hk
 |x::xs,ts,h,k,hk=>by
  obtain⟨t,us,rfl,i,r⟩:=zP h
  cases k with
  |zero=>exact⟨t,i⟩
  |succ k=>exact Zd r k (by simpa using hk)
section
variable(l:Cs)(lT:T)(R:List b8)(cl:List T)(hl:IsSl lT l.length cl)(mG:mf l cl)(hlen:l.length≤qz)
def oy(kn:List (Nat×Int)):Prop:= ∀i v,iJ kn i=some v→v=(E7 l l.length).getD i 0
def auU(n:Nat)(scope:Int)(y:Ex):Prop:= ∀k kn cs,oy l kn→mU y cs→y.nodes≤200→y.wf=true→y.ty (CL l n) scope=(k,0)→
 ∃D r,be pE 52 [.ptr .S 2 1 0,.i .i64 scope,.agg cs] (lI lT (js l l.length) kn R)=some (.agg D,lI lT (js l l.length) r R)∧om (comp (pX l) scope y) D∧oy l r∧ ∀i,n≤i→iJ r i=iJ kn i
def auV(j:Nat):Prop:= ∀s t kn,oX l s=some j→LY l s=(t,0)→oy l kn→ ∃r,be pE 94 [.ptr .S 2 1 0,.s s] (lI lT (js l l.length) kn R)=some (.i .i64 (pX l s),lI lT (js l l.length) r R)∧oy l r∧ ∀i,j<i→iJ r i=iJ kn i
theorem aBT(n:Nat)(scope:Int)(xs:List Ex)(ih: ∀y∈xs,auU l lT R n scope y)(a:T)(cc:List T)(ha:IsSl a xs.length cc)(hx:ku xs cc)(hn:jP xs≤200)(Cv:BV xs=true)(ts:List Int)(zS:se (CL l n) scope xs= .ok ts)(kn:List (Nat×Int))(qb:oy l kn)(op:T)(g g9:Nat)(c6:b8)(fr:Fr)(lh:iw b8)(sh:List b8)(lQ:sh=lI lT (js l l.length) kn R)
  (H:an fr 0= .ptr .S 2 1 0) (I:an fr 1= .i .i64 scope) (J:an fr 9= .ptr .L 9 g9 0) (BT:an fr 63=a) (Em:an fr 64= .i .i64 (xs.length:Int)) (B0:an fr 65= .i .i64 0) (K:b7 lh 6=c6) (D:b7 lh 9=⟨g9,.cells [op,.i .i64 0,.isl .L 60 g 0 xs.length 3] 0 true⟩) (G3:b7 lh 60=⟨g,.cells (repl [.i .i64 0,.i .i64 0,.nilsl] xs.length) 0 false⟩):
  wJ 80 te fr lh sh (.ext 1)∧
  (b7 (nU pE 80 te fr lh sh) 6=c6∧b7 (nU pE 80 te fr lh sh) 9=⟨g9,.cells [op,.i .i64 0,.isl .L 60 g 0 xs.length 3] 0 true⟩∧(∃cs,b7 (nU pE 80 te fr lh sh) 60=⟨g,.cells cs 0 false⟩∧iR (lY (pX l) scope xs) cs)∧
    (∃r,ow pE 80 te fr lh sh=lI lT (js l l.length) r R∧oy l r∧ ∀i,n≤i→iJ r i=iJ kn i)):=by
 refine jH (P:=fun jN V iX=>b7 V 6=c6∧b7 V 9=⟨g9,.cells [op,.i .i64 0,.isl .L 60 g 0 xs.length 3] 0 true⟩∧(∃cs,b7 V 60=⟨g,.cells cs 0 false⟩∧iR (lY (pX l) scope xs) cs)∧(∃r,iX=lI lT (js l l.length) r R∧oy l r∧ ∀i,n≤i→iJ r i=iJ kn i))
  (j6 (fun k st=> ∃(fr:Fr) (F:iw b8) (A:List T) (KO:List (Nat×Int)),st=⟨fr,F,lI lT (js l l.length) KO R⟩∧an fr 0= .ptr .S 2 1 0∧an fr 1= .i .i64 scope∧an fr 9= .ptr .L 9 g9 0∧an fr 63=a∧an fr 64= .i .i64 (xs.length:Int)∧an fr 65= .i .i64 (k:Int)∧b7 F 6=c6∧b7 F 9=⟨g9,.cells [op,.i .i64 0,.isl .L 60 g 0 xs.length 3] 0 true⟩∧
    b7 F 60=⟨g,.cells (A++repl [.i .i64 0,.i .i64 0,.nilsl] (xs.length-k)) 0 false⟩∧iR (lY (pX l) scope (xs.take k)) A∧oy l KO∧ ∀i,n≤i→iJ KO i=iJ kn i) _ xs.length ?_ ?_ 0 _ (Nat.zero_le _) ⟨fr,lh,[],kn,by rw[lQ],H,I,J,BT,Em,B0,K,D,by rw[G3];rfl,by rw[List.take_zero,lY];exact iR.nil,qb,fun _ _=>rfl⟩)
 ·rintro k _ hk ⟨fr,F,A,KO,rfl,H,I,J,BT,Em,B0,K,D,G3,N,NJ,Lu⟩
  left
  have iW:(k:Int)<xs.length:=by omega
  have OI:=mi xs
  have hyk:=oV (List.getElem_mem hk)
  have hw:=ji (k:=k) (oi (by omega))
  obtain⟨b,cb,rr,je,mZ,sg,hb⟩:=rY ha hx k hk
  obtain⟨t,ht⟩:=Zd zS k hk
  obtain⟨cf,O4,im,yO,W,X⟩:=ih xs[k] (List.getElem_mem hk) t KO _ NJ hb (by omega) (HL.1 Cv _ (List.getElem_mem hk)) ht
  obtain⟨U,fc,rfl,BU,hf2⟩:=yO.cells
  have O:A.length=k*3:=by rw[N.len,qC];simp;omega
  generalize hy:comp (pX l) scope xs[k]=y at*
  have IE:(A++repl [T.i .i64 0,T.i .i64 0,T.nilsl] (xs.length-k)).length=xs.length*3:=by rw[List.length_append,EI,O];simp;omega
  have Y:splice (A++repl [T.i .i64 0,T.i .i64 0,T.nilsl] (xs.length-k)) (k*3) [.i .i64 y.op,.i .i64 y.num,U]=(A++ [.i .i64 y.op,.i .i64 y.num,U])++repl [T.i .i64 0,T.i .i64 0,T.nilsl] (xs.length-(k+1)):=by
   rw[show xs.length-k=(xs.length-(k+1))+1 by omega,A7,EH A [T.i .i64 0,T.i .i64 0,T.nilsl] _ [T.i .i64 y.op,T.i .i64 y.num,U] (k*3) O rfl]
  have Z:k*3+3≤xs.length*3:=by omega
  simp only[qA,seval,jG,iE,j2,te,H,I,J,BT,Em,B0,D,G3,iW,je,hw,im,qY,rT,mZ.kept1,BU.froz1,hk,IE,Y,Z]
  refine⟨_,rfl,_,_,A++ [.i .i64 y.op,.i .i64 y.num,U],O4,rfl, ?_, ?_, ?_, ?_, ?_, ?_, ?_, ?_, ?_, ?_,W,fun i hi=>by rw[X i hi,Lu i hi]⟩
  all_goals first|(simp only[qA,seval,H,I,J,BT,Em,K,D];done)|skip
  rw[List.take_succ_eq_append_getElem hk,qC,List.map_append,←qC,List.map_cons,hy]
  exact iR.append N (iR.one yO)
 ·rintro _ ⟨fr,F,A,KO,rfl,H,I,J,BT,Em,B0,K,D,G3,N,NJ,Lu⟩
  rw[Nat.sub_self,show repl [T.i .i64 0,T.i .i64 0,T.nilsl] 0= []from rfl,List.append_nil]at G3
  rw[List.take_length]at N
  simp only[qA,seval,te,Em,B0,Int.lt_irrefl]
  exact⟨_,_,uC,rfl,rfl,K,D,⟨A,G3,N⟩,KO,rfl,NJ,Lu⟩
end
end Go.Proofs.YtcpceiclnbmgiaaGreat
