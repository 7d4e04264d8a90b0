/- Walks of functions of the program and of the reference, and their plain laws, part 5. Conditions: the theorems' own. -/
import Derived.Test.YtcpceiclnbmgiaaGreatM4
import Derived.KernelRfl
set_option maxRecDepth 100000
set_option linter.unusedSimpArgs false
set_option linter.unusedVariables false
set_option maxHeartbeats 16000000
namespace Go.Proofs.YtcpceiclnbmgiaaGreat
open Go Go.Ev
theorem Ex.fold_eq(cl:List Nat→Int×Int)(cx:List Nat→Ex)(scope:Int)(x:Ex):x.fold cl cx scope=
  if x.op=6 then(if lI scope x.name≠0 then x else cx x.name)
  else if x.args.isEmpty then x
  else if(rh cl cx scope x.args).all isLit then vI (x.ty cl scope).1 (Sq x.op ((rh cl cx scope x.args).map abJ))
  else ar5 x.op (rh cl cx scope x.args):=by obtain⟨_,_,_,_⟩:=x;rw[Ex.fold];rfl
theorem Cg{cl:List Nat→Int×Int}{scope k:Int}{x:Ex}(i:x.ty cl scope=(k,0))(r:x.op≠6): ∃ts,rM cl scope x.args= .ok ts∧tp x.op ts=k∧k≠0:=by
 rw[Ex.ty_eq,if_neg r]at i
 cases hr:rM cl scope x.args with
 |error e=>
  rw[hr]at i
  have D:((0:Int),e)=(k,0):=i
  injection D with _ h0
  exact absurd h0 (PJ hr)
 |ok ts=>
  grind
theorem y9{cl:List Nat→Int×Int}{scope:Int}{x:Ex}{xs:List Ex}{ts:List Int}(h:rM cl scope (x::xs)= .ok ts): ∃t us,ts=t::us∧x.ty cl scope=(t,0)∧rM cl scope xs= .ok us:=by
 grind [rM]
theorem Ch{x:Ex}(h:x.wf=true):1≤x.op∧x.op≤22∧lj x.op x.args.length=true∧(0≤x.num∧x.num≤DB x.op)∧(if x.op=6 then tm x.name=true else x.name= [])∧By x.args=true:=by
 simp_all[Ex.wf_eq,Bool.and_eq_true,tn]
theorem akC{op:Int}{n:Nat}(i:1≤op)(r:lj op n=true)(D:n≠0):7≤op:=by
 grind [lj]
theorem ac5{op:Int}{n:Nat}(i:op≤22)(r:lj op n=true)(D:n=0):op≤6:=by
 grind [lj]
mutual
def Ex.val0(i:List Nat→Int):Ex→Int
 | .mk op num name args=>if op=6 then i name else if op=1∨op=2∨op=3 then num else if op=4 then 1 else if op=5 then 0 else Sq op (uP i args)
def uP(i:List Nat→Int):List Ex→List Int
 | []=> []
 |x::xs=>x.val0 i::uP i xs
end
theorem Ex.val0_eq(i:List Nat→Int)(x:Ex):x.val0 i=if x.op=6 then i x.name else if x.op=1∨x.op=2∨x.op=3 then x.num else if x.op=4 then 1 else if x.op=5 then 0 else Sq x.op (uP i x.args):=by obtain⟨_,_,_,_⟩:=x;rw[Ex.val0];rfl
def cxv(cl:List Nat→Int×Int)(i:List Nat→Int)(s:List Nat):Ex:=vI (cl s).1 (i s)
def RD(cl:List Nat→Int×Int)(i:List Nat→Int):Prop:= ∀s t,cl s=(t,0)→EA t (i s)
theorem YB{cl:List Nat→Int×Int}{scope:Int}{x:Ex}{k:Int}(B5:x.wf=true)(i:x.ty cl scope=(k,0))(F:x.op≠6)(r:x.args= []):x=vI k (if x.op=1∨x.op=2∨x.op=3 then x.num else if x.op=4 then 1 else 0)∧EA k (if x.op=1∨x.op=2∨x.op=3 then x.num else if x.op=4 then 1 else 0)∧x.op≤5:=by
 obtain⟨J,H,I,No,Ek,JA⟩:=Ch B5
 have K:x.op≤6:=ac5 H I (by rw[r];rfl)
 rw[Ex.ty_eq,if_neg F,r,rM]at i
 rw[if_neg F]at Ek
 obtain⟨op,num,name,args⟩:=x
 simp only[Ex.op,Ex.num,Ex.name,Ex.args]at*
 subst Ek r
 have D:op=1∨op=2∨op=3∨op=4∨op=5:=by omega
 rcases D with rfl|rfl|rfl|rfl|rfl
 all_goals
  simp[tp]at i
  subst i
  simp[DB]at No
 ·refine⟨?_,.inl ⟨.inl rfl, ?_⟩,by decide⟩
  ·simp[vI,ny];omega
  ·simp[bd];omega
 ·refine⟨?_,.inl ⟨.inr rfl, ?_⟩,by decide⟩
  ·simp[vI,ny];omega
  ·simp[bd];omega
 ·refine⟨?_,.inr (.inl ⟨rfl, ?_⟩),by decide⟩
  ·simp[vI,ny]
  ·simpa using No
 ·refine⟨?_,.inr (.inr ⟨rfl,.inr rfl⟩),by decide⟩
  simp[vI,ny];omega
 ·refine⟨?_,.inr (.inr ⟨rfl,.inl rfl⟩),by decide⟩
  simp[vI,ny];omega
theorem PK{cl:List Nat→Int×Int}{i:List Nat→Int}(hc:RD cl i)(scope:Int)(K: ∀s,lI scope s=0)(x:Ex): ∀k,x.wf=true→x.ty cl scope=(k,0)→x.fold cl (cxv cl i) scope=vI k (x.val0 i)∧EA k (x.val0 i):=by
 induction x using Ex.ind with
 |h x ih=>
  intro k B5 r
  obtain⟨U,V,H,No,Ek,JA⟩:=Ch B5
  rw[Ex.fold_eq,Ex.val0_eq]
  by_cases D:x.op=6
  ·rw[if_pos D,if_pos D]
   rw[Ex.ty_eq,if_pos D,if_neg (by simp[K])]at r
   rw[if_neg (by simp[K])]
   exact⟨by unfold cxv;rw[r],hc _ _ r⟩
  rw[if_neg D,if_neg D]
  by_cases I:x.args.isEmpty=true
  ·grind [YB]
  ·rw[if_neg I]
   have N:x.args.length≠0:=by
    intro h;exact I (by simp[List.length_eq_zero_iff.1 h])
   have W:=akC U H N
   obtain⟨ts,F,hr,hk⟩:=Cg r D
   have Y5:AK ts (uP i x.args)∧(rh cl (cxv cl i) scope x.args).all isLit=true∧(rh cl (cxv cl i) scope x.args).map abJ=uP i x.args:=by
    clear r H N I hr B5 No Ek
    generalize x.args=xs at ih F JA
    induction xs generalizing ts with
    |nil=>rw[rM]at F;cases F;exact⟨trivial,rfl,rfl⟩
    |cons z zs J=>
     obtain⟨t,us,rfl,X,Y⟩:=y9 F
     rw[By,Bool.and_eq_true]at JA
     obtain⟨Z,O⟩:=ih z (by simp) t JA.1 X
     obtain⟨g1,g2,g3⟩:=J us (fun y hy=>ih y (by simp[hy])) Y JA.2
     rw[rh,uP,Z]
     obtain⟨_,q1,q2⟩:=H3 (scope:=scope) O
     refine⟨⟨O,g1⟩, ?_, ?_⟩
     ·rw[List.all_cons,q1,g2];rfl
     ·rw[List.map_cons,q2,g3]
   obtain⟨i1,i2,i3⟩:=Y5
   have hlen:ts.length=x.args.length:=B6 F
   rw[if_pos i2,i3,r,if_neg (by omega),if_neg (by omega),if_neg (by omega)]
   exact⟨rfl,(afI i1 W V (by rw[hlen];exact H) hr hk).2⟩
def vxk(l:Cs)(Ic:List Int)(s:List Nat):Int:=match oJ l s with
 |none=>0
 |some i=>Ic.getD i 0
def EB(l:Cs):Nat→List Int
 |0=> []
 |n+1=>EB l n++ [if(Mp (l.take n) (pn l n) (l.getD n ([],.mk 0 0 [] [])).2).2=0 then(l.getD n ([],.mk 0 0 [] [])).2.val0 (vxk (l.take n) (EB l n))else 0]
theorem Ci(l:Cs): ∀n,(EB l n).length=n
 |0=>rfl
 |n+1=>by rw[EB,List.length_append,Ci l n];rfl
theorem YC(l:Cs){n:Nat}(h:n<l.length):EB l (n+1)=EB l n++ [if(Mp (l.take n) (pn l n) l[n].2).2=0 then l[n].2.val0 (vxk (l.take n) (EB l n))else 0]:=by
 rw[EB,List.getD_eq_getElem?_getD,List.getElem?_eq_getElem h];rfl
theorem PL(l:Cs)(n:Nat): ∀k,∃r,EB l (n+k)=EB l n++r
 |0=>⟨[],by simp⟩
 |k+1=>by
  obtain⟨r,h⟩:=PL l n k
  grind [Nat.add_assoc,EB]
theorem PM(l:Cs){n i:Nat}(D:n≤l.length)(hi:i<n):(EB l n).getD i 0=(EB l l.length).getD i 0:=by
 obtain⟨r,h⟩:=PL l n (l.length-n)
 grind [Ci,hi]
def CL(l:Cs)(n:Nat):List Nat→Int×Int:=clk (l.take n) (pn l n)
def VX(l:Cs)(n:Nat):List Nat→Int:=vxk (l.take n) (EB l n)
def Ls(l:Cs):List Nat→Int×Int:=clk l (pn l l.length)
def pJ(l:Cs):List Nat→Int:=vxk l (EB l l.length)
theorem DI(l:Cs):CL l l.length=Ls l:=by grind [CL,Ls]
theorem akE(l:Cs):VX l l.length=pJ l:=by grind [VX,pJ]
theorem Cj{l:Cs}{n:Nat}(I:n≤l.length){s:List Nat}{t:Int}(h:CL l n s=(t,0)): ∃i,∃hi:i<l.length,i<n∧oJ l s=some i∧jo l[i].2=0∧l[i].2.ty (CL l i) 0=(t,0)∧Ls l s=(t,0)∧VX l n s=l[i].2.val0 (VX l i)∧pJ l s=l[i].2.val0 (VX l i)∧vP l i=(t,0):=by
 unfold CL clk at h
 rw[AD]at h
 cases D:oJ l s with
 |none=>grind
 |some i=>
  rw[D]at h
  simp only at h
  by_cases hi:i<n
  ·rw[if_pos hi]at h
   simp only at h
   have H:i<l.length:=Pe D
   rw[Ee l I hi]at h
   have r:vP l i=(t,0):=h
   have ZL:=r
   rw[PA l H]at r
   have EP:=r
   unfold Mp at r
   by_cases F:jo l[i].2≠0
   ·rw[if_pos F]at r;injection r with _ r;exact absurd r F
   ·rw[if_neg F]at r
    have J:(EB l l.length).getD i 0=l[i].2.val0 (VX l i):=by
     rw[←PM l (n:=i+1) (by omega) (by omega),YC l H,List.getD_eq_getElem?_getD,List.getElem?_append_right (by rw[Ci];omega),Ci,Nat.sub_self,EP]
     rfl
    refine⟨i,H,hi,rfl,by simpa using F,r, ?_, ?_, ?_,ZL⟩
    ·unfold Ls clk;rw[D];exact h
    ·unfold VX vxk
     rw[AD,D]
     simp only[if_pos hi]
     rw[PM l I hi,J];rfl
    ·unfold pJ vxk;rw[D];exact J
  ·grind
theorem rk(s:List Nat):lI 0 s=0:=by unfold lI;rfl
theorem afK(l:Cs): ∀n,n≤l.length→RD (CL l n) (VX l n):=by
 intro n
 induction n using Nat.strongRecOn with
 |ind n ih=>
  intro r s t hs
  obtain⟨i,H,hi,_,D,F,_,e,_⟩:=Cj r hs
  rw[e]
  exact(PK (ih i hi (by omega)) 0 (fun s=>rk s) l[i].2 t (nZ D) F).2
theorem Hv(l:Cs):RD (Ls l) (pJ l):=by
 have:=afK l l.length (Nat.le_refl _)
 rwa [DI,akE]at this
theorem fold_congr{cl HR:List Nat→Int×Int}{cx i:List Nat→Ex}(scope:Int)(hc: ∀s t,cl s=(t,0)→HR s=(t,0)∧i s=cx s)(x:Ex): ∀k,x.ty cl scope=(k,0)→x.ty HR scope=(k,0)∧x.fold HR i scope=x.fold cl cx scope:=by
 induction x using Ex.ind with
 |h x ih=>
  intro k F
  by_cases H:x.op=6
  ·grind [Ex.ty_eq,Ex.fold_eq]
  ·obtain⟨ts,r,hr,hk⟩:=Cg F H
   have hl:rM HR scope x.args= .ok ts∧rh HR i scope x.args=rh cl cx scope x.args:=by
    clear F hr
    generalize x.args=xs at ih r
    induction xs generalizing ts with
    |nil=>rw[rM]at r;cases r;exact⟨rfl,rfl⟩
    |cons z W D=>
     obtain⟨t,us,rfl,I,J⟩:=y9 r
     obtain⟨K,N⟩:=ih z (by simp) t I
     obtain⟨O,U⟩:=D us (fun y V=>ih y (by simp[V])) J
     rw[rM,rh,rh,K,O,N,U]
     exact⟨rfl,rfl⟩
   grind [Ex.ty_eq,Ex.fold_eq]
theorem at7{l:Cs}{n:Nat}(i:n≤l.length): ∀s t,CL l n s=(t,0)→Ls l s=(t,0)∧cxv (Ls l) (pJ l) s=cxv (CL l n) (VX l n) s:=fun s t hs=>by
 grind [cxv,Cj]
def YD(l:Cs)(scope:Int)(x:Ex):Ex:=x.fold (Ls l) (cxv (Ls l) (pJ l)) scope
theorem K7{l:Cs}{s:List Nat}{t:Int}(h:Ls l s=(t,0)): ∃i,∃hi:i<l.length,oJ l s=some i∧jo l[i].2=0∧l[i].2.ty (CL l i) 0=(t,0)∧l[i].2.ty (Ls l) 0=(t,0)∧YD l 0 l[i].2=vI t (pJ l s)∧EA t (pJ l s)∧vP l i=(t,0)∧pJ l s=(EB l l.length).getD i 0:=by
 have F:=h
 rw[←DI]at F
 obtain⟨i,r,hi,H,I,D,N,O,J,K⟩:=Cj (Nat.le_refl _) F
 obtain⟨c1,c2⟩:=fold_congr 0 (at7 (Nat.le_of_lt r)) l[i].2 t D
 refine⟨i,r,H,I,D,c1, ?_,Hv l s t h,K, ?_⟩
 ·unfold YD
  rw[c2,(PK (afK l i (Nat.le_of_lt r)) 0 (fun s=>rk s) l[i].2 t (nZ I) D).1,J]
 ·unfold pJ vxk;rw[H]
def kE(ns:List (List Nat))(i:Nat):List (List Nat×Nat):=(ns.take i).zipIdx
theorem YE{ns:List (List Nat)}{i:Nat}(hi:i<ns.length):kE ns (i+1)=kE ns i++ [(ns[i],i)]:=by
 unfold kE
 rw[List.take_succ_eq_append_getElem hi,List.zipIdx_append]
 simp[List.length_take,Nat.min_eq_left (Nat.le_of_lt hi)]
theorem YF{ns:List (List Nat)}(D:ns.Nodup){i:Nat}(hi:i<ns.length):iy (kE ns i) ns[i]=none:=by
 have F: ∀(m:List (List Nat×Nat)) (s:List Nat),(∀p∈m,p.1≠s)→iy m s=none:=by
  intro m s h
  induction m with
  |nil=>rfl
  |cons p m ih=>
   rw[iy,if_neg (fun e=>h p (List.mem_cons_self ..) e.symm)]
   exact ih fun q I=>h q (List.mem_cons_of_mem _ I)
 refine F _ _ fun p J e=> ?_
 have H:p.1∈ns.take i:=List.fst_mem_of_mem_zipIdx J
 rw[e]at H
 obtain⟨j,K,r⟩:=List.getElem_of_mem H
 rw[List.length_take]at K
 rw[List.getElem_take]at r
 exact List.pairwise_iff_getElem.1 D j i (by omega) hi (by omega) r
def py(lT:T)(m:List (List Nat×Nat))(kn:List (Nat×Int))(c0 c1 c2 c3:T)(ms:List (List (List Nat×Nat))):List b8:=
 ⟨1,.map (m.map fun p=>sK p.1) (m.map fun p=>nK p.2) false⟩::⟨1,.map (kn.map fun p=>nK p.1) (kn.map fun p=>iV p.2) false⟩::⟨1,.cells [lT,.mp .S 0 1,.mp .S 1 1,c0,c1,c2,c3] 0 true⟩::ms.map fun p=>⟨1,.map (p.map fun p=>sK p.1) (p.map fun p=>nK p.2) false⟩
section
variable(lT:T)(m:List (List Nat×Nat))(kn:List (Nat×Int))(c0 c1 c2 c3:T)(ms:List (List (List Nat×Nat)))
theorem cp0:gY (py lT m kn c0 c1 c2 c3 ms) 0=⟨1,.map (m.map fun p=>sK p.1) (m.map fun p=>nK p.2) false⟩:=nr rfl
theorem cp2:gY (py lT m kn c0 c1 c2 c3 ms) 2=⟨1,.cells [lT,.mp .S 0 1,.mp .S 1 1,c0,c1,c2,c3] 0 true⟩:=nr rfl
theorem aAT(i:List (List Nat×Nat)):iu (py lT m kn c0 c1 c2 c3 ms) 0 ⟨1,.map (i.map fun p=>sK p.1) (i.map fun p=>nK p.2) false⟩=py lT i kn c0 c1 c2 c3 ms:=nr rfl
theorem ac6(i r D F:T):iu (py lT m kn c0 c1 c2 c3 ms) 2 ⟨1,.cells [lT,.mp .S 0 1,.mp .S 1 1,i,r,D,F] 0 true⟩=py lT m kn i r D F ms:=nr rfl
theorem at8:py lT [] [] .nilmp .nilmp .nilmp .nilmp []= [⟨1,.map [] [] false⟩,⟨1,.map [] [] false⟩,⟨1,.cells [lT,.mp .S 0 1,.mp .S 1 1,.nilmp,.nilmp,.nilmp,.nilmp] 0 true⟩]:=nr rfl
end
section
variable(l:Cs)(lT:T)(cl:List T)(hl:IsSl lT l.length cl)(lX:lS l cl)(hlen:l.length≤qh)
include hl lX hlen
theorem aAU(fr:Fr)(lh:gW b8)(sh:List b8)(W:sh=py lT [] [] .nilmp .nilmp .nilmp .nilmp [])
  (F:an fr 3= .ptr .S 2 1 0) (H:an fr 16=lT) (D:an fr 17= .i .i64 (l.length:Int)) (I:an fr 18= .i .i64 0):
  wJ 71 wg fr lh sh (.ext 0)∧
  (oi pE 71 wg fr lh sh=py lT (je l l.length) [] .nilmp .nilmp .nilmp .nilmp []):=by
 refine jv (P:=fun Z iI X=>X=py lT (je l l.length) [] .nilmp .nilmp .nilmp .nilmp [])
  (jR (fun k st=> ∃(fr:Fr) (K:gW b8),st=⟨fr,K,py lT (je l k) [] .nilmp .nilmp .nilmp .nilmp []⟩∧an fr 3= .ptr .S 2 1 0∧an fr 16=lT∧an fr 17= .i .i64 (l.length:Int)∧an fr 18= .i .i64 (k:Int)) _ l.length ?_ ?_ 0 _ (Nat.zero_le _) ⟨fr,lh,by rw[W];rfl,F,H,D,I⟩)
 ·rintro k _ hk ⟨fr,K,rfl,F,H,D,I⟩
  left
  have O:(k:Int)<l.length:=by omega
  have U:=iT (k:=k) (by omega)
  obtain⟨b,cb,r,V,mP,sL,hb⟩:=n6 hl lX k hk
  have J:=lkS (je l k) l[k].1
  rw[AG l hk]
  cases N:iy (je l k) l[k].1 with
  |some i=>
   rw[N]at J
   unfold SI at J
   simp only[qA,seval,jq,ig,jO,wg,F,H,D,I,O,V,U,cp2,cp0,ju,J]
   refine⟨_,rfl,_,_,rfl, ?_, ?_, ?_, ?_⟩ <;> simp only[qA,seval,F,H,D]
  |none=>
   rw[N]at J
   unfold SI at J
   have Y:qj (.one .str) (.s l[k].1) (.i .i64 (k:Int)) ((je l k).map fun p=>sK p.1) ((je l k).map fun p=>nK p.2)=_:=yq (kT:=sK) (vT:=nK) E1 (je l k) l[k].1 k N
   simp only[qA,seval,jq,ig,jO,wg,F,H,D,I,O,V,U,cp2,cp0,ju,J,Bd,Y,aAT]
   refine⟨_,rfl,_,_,rfl, ?_, ?_, ?_, ?_⟩ <;> simp only[qA,seval,F,H,D]
 ·rintro _ ⟨fr,K,rfl,F,H,D,I⟩
  simp only[qA,seval,wg,D,I,Int.lt_irrefl]
  exact⟨_,_,ui,rfl,rfl,rfl⟩
end
def SE(scope:Int):List (List Nat):=if scope=1 then jS else if scope=2 then mb else if scope=3 then qx else []
theorem aAV:be pE 93 [.i .i64 1] []=some (.sl (strs jS) 11 true,[]):=mB (m:=100) (mz (by kernel_rfl))
theorem aAW:be pE 93 [.i .i64 2] []=some (.sl (strs mb) 25 false,[]):=mB (m:=100) (mz (by kernel_rfl))
theorem aAX:be pE 93 [.i .i64 3] []=some (.sl (strs qx) 7 true,[]):=mB (m:=100) (mz (by kernel_rfl))
theorem aAY:be pE 93 [.i .i64 0] []=some (.nilsl,[]):=mB (m:=100) (mz (by kernel_rfl))
theorem YG:jS.Nodup:=by decide+kernel
theorem YH:mb.Nodup:=by decide+kernel
theorem YI:qx.Nodup:=by decide+kernel
theorem Gx{α:Type}(d:α): ∀(l:List α) (x:α),rv d l l.length x=l++ [x]
 | [],x=>rfl
 |a::l,x=>by rw[List.length_cons,rv,Gx d l x];rfl
theorem K8{α:Type}(d:α): ∀(l:List α) (x y:α),rv d (l++ [x]) l.length y=l++ [y]
 | [],x,y=>rfl
 |a::l,x,y=>by rw[List.cons_append,List.length_cons,rv,K8 d l x y];rfl
section
variable(lT:T)(m:List (List Nat×Nat))(kn:List (Nat×Int))(c0 c1 c2 c3:T)(ms:List (List (List Nat×Nat)))
theorem cpL:(py lT m kn c0 c1 c2 c3 ms).length=ms.length+3:=by unfold py;simp
theorem cpA:iu (py lT m kn c0 c1 c2 c3 ms) (ms.length+3) ⟨1,.map [] [] false⟩=py lT m kn c0 c1 c2 c3 (ms++ [[]]):=by
 grind [py,iu,rv,List.length_map,Gx]
theorem cpq(p:List (List Nat×Nat)):gY (py lT m kn c0 c1 c2 c3 (ms++ [p])) (ms.length+3)=⟨1,.map (p.map fun p=>sK p.1) (p.map fun p=>nK p.2) false⟩:=by
 grind [py,gY,ig,List.length_map,ve]
theorem aAZ(p q:List (List Nat×Nat)):iu (py lT m kn c0 c1 c2 c3 (ms++ [p])) (ms.length+3) ⟨1,.map (q.map fun p=>sK p.1) (q.map fun p=>nK p.2) false⟩=py lT m kn c0 c1 c2 c3 (ms++ [q]):=by
 grind [py,iu,rv,List.length_map,K8]
theorem H4(D:Nat)(hc:(D=0∧c0= .mp .S (ms.length+3) 1)∨(D=1∧c1= .mp .S (ms.length+3) 1)∨(D=2∧c2= .mp .S (ms.length+3) 1)∨(D=3∧c3= .mp .S (ms.length+3) 1))(ns:List (List Nat))(K:ns.Nodup)(F7:ns.length≤100)(v:T)(O:IsSl v ns.length (strs ns))(fr:Fr)(lh:gW b8)(sh:List b8)(U:sh=py lT m kn c0 c1 c2 c3 (ms++ [[]]))
  (H:an fr 3= .ptr .S 2 1 0) (I:an fr 8= .i .i64 (D:Int)) (J:an fr 53=v) (F:an fr 54= .i .i64 (ns.length:Int)) (r:an fr 55= .i .i64 0):
  wJ 71 zF fr lh sh (.ext 4)∧
  (oi pE 71 zF fr lh sh=py lT m kn c0 c1 c2 c3 (ms++ [kE ns ns.length])):=by
 refine jv (P:=fun jA iI V=>V=py lT m kn c0 c1 c2 c3 (ms++ [kE ns ns.length]))
  (jR (fun k st=> ∃(fr:Fr) (N:gW b8),st=⟨fr,N,py lT m kn c0 c1 c2 c3 (ms++ [kE ns k])⟩∧an fr 3= .ptr .S 2 1 0∧an fr 8= .i .i64 (D:Int)∧an fr 53=v∧an fr 54= .i .i64 (ns.length:Int)∧an fr 55= .i .i64 (k:Int)) _ ns.length ?_ ?_ 0 _ (Nat.zero_le _) ⟨fr,lh,by rw[U];rfl,H,I,J,F,r⟩)
 ·rintro k _ hk ⟨fr,N,rfl,H,I,J,F,r⟩
  left
  have W:(k:Int)<ns.length:=by omega
  have X:=iJ (k:=k) (by omega)
  have Y: ∀kk,lH v (.i kk (k:Int)) 1=some (.vp (T.s ns[k]::(strs ns).drop (k+1))):=fun kk=>by rw[O.ia (sz:=1) (by rw[J9];omega) hk,Nat.mul_one,Ri ns k hk]
  have Z:qj (.one .str) (.s ns[k]) (.i .i64 (k:Int)) ((kE ns k).map fun p=>sK p.1) ((kE ns k).map fun p=>nK p.2)=_:=yq (kT:=sK) (vT:=nK) E1 (kE ns k) ns[k] k (YF K hk)
  rw[YE hk]
  rcases hc with⟨rfl,hc⟩|⟨rfl,hc⟩|⟨rfl,hc⟩|⟨rfl,hc⟩ <;>
  (simp only[qA,seval,kS,jO,zF,H,I,J,F,r,W,Y,X,cp2,hc,cpq,Bd,Z,aAZ]
   refine⟨_,rfl,_,_,rfl, ?_, ?_, ?_, ?_, ?_⟩ <;> simp only[qA,seval,H,I,J,F])
 ·rintro _ ⟨fr,N,rfl,H,I,J,F,r⟩
  simp only[qA,seval,zF,F,r,Int.lt_irrefl]
  grind
end
def Ho(lT:T)(m:List (List Nat×Nat))(kn:List (Nat×Int)):Nat→List b8
 |0=>py lT m kn .nilmp .nilmp .nilmp .nilmp []
 |1=>py lT m kn (.mp .S 3 1) .nilmp .nilmp .nilmp [kE [] 0]
 |2=>py lT m kn (.mp .S 3 1) (.mp .S 4 1) .nilmp .nilmp [kE [] 0,kE jS 11]
 |3=>py lT m kn (.mp .S 3 1) (.mp .S 4 1) (.mp .S 5 1) .nilmp [kE [] 0,kE jS 11,kE mb 25]
 |_=>py lT m kn (.mp .S 3 1) (.mp .S 4 1) (.mp .S 5 1) (.mp .S 6 1) [kE [] 0,kE jS 11,kE mb 25,kE qx 7]
theorem akG(lT:T)(m:List (List Nat×Nat))(kn:List (Nat×Int))(fr:Fr)(lh:gW b8)(r:an fr 3= .ptr .S 2 1 0)(Lw:an fr 43= .i .i64 0):
  ∃D H,DC pE 71 oz ⟨fr,lh,Ho lT m kn 0⟩=some (.nrm,⟨D,H,Ho lT m kn 1⟩)∧an D 3= .ptr .S 2 1 0∧an D 43= .i .i64 1:=by
 have I:iu (py lT m kn .nilmp .nilmp .nilmp .nilmp []) 3 ⟨1,.map [] [] false⟩=py lT m kn .nilmp .nilmp .nilmp .nilmp [[]]:=cpA lT m kn .nilmp .nilmp .nilmp .nilmp []
 have J:(py lT m kn .nilmp .nilmp .nilmp .nilmp []).length=3:=cpL lT m kn .nilmp .nilmp .nilmp .nilmp []
 have F:=fun fr lh sh K N r O U V=>H4 lT m kn (.mp .S 3 1) .nilmp .nilmp .nilmp [] 0 (by simp) [] List.nodup_nil (by decide) .nilsl (Or.inl ⟨rfl,rfl,rfl⟩) fr lh sh K N r O U V
 change ∀fr lh sh,sh=py lT m kn (.mp .S 3 1) .nilmp .nilmp .nilmp [[]]→an fr 3= .ptr .S 2 1 0→an fr 8= .i .i64 0→an fr 53= .nilsl→an fr 54= .i .i64 0→an fr 55= .i .i64 0→_ at F
 have W:=fun lh=>nl (lh:=lh) (sh:=py lT m kn .nilmp .nilmp .nilmp .nilmp [[]]) (k:=2) (g:=1) (off:=3) (m:=1) (v:= .mp .S 3 1) yo (cp2 lT m kn .nilmp .nilmp .nilmp .nilmp [[]])
 unfold Ho
 simp only[qA,seval,kS,iY,oz,pb,r,Lw,J,I,W,ac6,aAY,ZG,F]
 first|done|refine⟨_,_,rfl, ?_, ?_⟩ <;> simp only[qA,seval,r,pb]
theorem akH(lT:T)(m:List (List Nat×Nat))(kn:List (Nat×Int))(fr:Fr)(lh:gW b8)(r:an fr 3= .ptr .S 2 1 0)(Lw:an fr 43= .i .i64 1):
  ∃D H,DC pE 71 oz ⟨fr,lh,Ho lT m kn 1⟩=some (.nrm,⟨D,H,Ho lT m kn 2⟩)∧an D 3= .ptr .S 2 1 0∧an D 43= .i .i64 2:=by
 have I:iu (py lT m kn (.mp .S 3 1) .nilmp .nilmp .nilmp [kE [] 0]) 4 ⟨1,.map [] [] false⟩=py lT m kn (.mp .S 3 1) .nilmp .nilmp .nilmp [kE [] 0,[]]:=cpA lT m kn (.mp .S 3 1) .nilmp .nilmp .nilmp [kE [] 0]
 have J:(py lT m kn (.mp .S 3 1) .nilmp .nilmp .nilmp [kE [] 0]).length=4:=cpL lT m kn (.mp .S 3 1) .nilmp .nilmp .nilmp [kE [] 0]
 have F:=fun fr lh sh K N r O U V=>H4 lT m kn (.mp .S 3 1) (.mp .S 4 1) .nilmp .nilmp [kE [] 0] 1 (by simp) jS YG (by decide) (.sl (strs jS) 11 true) (Or.inr ⟨true,rfl⟩) fr lh sh K N r O U V
 change ∀fr lh sh,sh=py lT m kn (.mp .S 3 1) (.mp .S 4 1) .nilmp .nilmp [kE [] 0,[]]→an fr 3= .ptr .S 2 1 0→an fr 8= .i .i64 1→an fr 53=(.sl (strs jS) 11 true)→an fr 54= .i .i64 11→an fr 55= .i .i64 0→_ at F
 have W:=fun lh=>nl (lh:=lh) (sh:=py lT m kn (.mp .S 3 1) .nilmp .nilmp .nilmp [kE [] 0,[]]) (k:=2) (g:=1) (off:=4) (m:=1) (v:= .mp .S 4 1) yo (cp2 lT m kn (.mp .S 3 1) .nilmp .nilmp .nilmp [kE [] 0,[]])
 unfold Ho
 simp only[qA,seval,kS,iY,oz,pb,r,Lw,J,I,W,ac6,aAV,ZG,F]
 first|done|refine⟨_,_,rfl, ?_, ?_⟩ <;> simp only[qA,seval,r,pb]
theorem akI(lT:T)(m:List (List Nat×Nat))(kn:List (Nat×Int))(fr:Fr)(lh:gW b8)(r:an fr 3= .ptr .S 2 1 0)(Lw:an fr 43= .i .i64 2):
  ∃D H,DC pE 71 oz ⟨fr,lh,Ho lT m kn 2⟩=some (.nrm,⟨D,H,Ho lT m kn 3⟩)∧an D 3= .ptr .S 2 1 0∧an D 43= .i .i64 3:=by
 have I:iu (py lT m kn (.mp .S 3 1) (.mp .S 4 1) .nilmp .nilmp [kE [] 0,kE jS 11]) 5 ⟨1,.map [] [] false⟩=py lT m kn (.mp .S 3 1) (.mp .S 4 1) .nilmp .nilmp [kE [] 0,kE jS 11,[]]:=cpA lT m kn (.mp .S 3 1) (.mp .S 4 1) .nilmp .nilmp [kE [] 0,kE jS 11]
 have J:(py lT m kn (.mp .S 3 1) (.mp .S 4 1) .nilmp .nilmp [kE [] 0,kE jS 11]).length=5:=cpL lT m kn (.mp .S 3 1) (.mp .S 4 1) .nilmp .nilmp [kE [] 0,kE jS 11]
 have F:=fun fr lh sh K N r O U V=>H4 lT m kn (.mp .S 3 1) (.mp .S 4 1) (.mp .S 5 1) .nilmp [kE [] 0,kE jS 11] 2 (by simp) mb YH (by decide) (.sl (strs mb) 25 false) (Or.inr ⟨false,rfl⟩) fr lh sh K N r O U V
 change ∀fr lh sh,sh=py lT m kn (.mp .S 3 1) (.mp .S 4 1) (.mp .S 5 1) .nilmp [kE [] 0,kE jS 11,[]]→an fr 3= .ptr .S 2 1 0→an fr 8= .i .i64 2→an fr 53=(.sl (strs mb) 25 false)→an fr 54= .i .i64 25→an fr 55= .i .i64 0→_ at F
 have W:=fun lh=>nl (lh:=lh) (sh:=py lT m kn (.mp .S 3 1) (.mp .S 4 1) .nilmp .nilmp [kE [] 0,kE jS 11,[]]) (k:=2) (g:=1) (off:=5) (m:=1) (v:= .mp .S 5 1) yo (cp2 lT m kn (.mp .S 3 1) (.mp .S 4 1) .nilmp .nilmp [kE [] 0,kE jS 11,[]])
 unfold Ho
 simp only[qA,seval,kS,iY,oz,pb,r,Lw,J,I,W,ac6,aAW,ZG,F]
 first|done|refine⟨_,_,rfl, ?_, ?_⟩ <;> simp only[qA,seval,r,pb]
theorem akJ(lT:T)(m:List (List Nat×Nat))(kn:List (Nat×Int))(fr:Fr)(lh:gW b8)(r:an fr 3= .ptr .S 2 1 0)(Lw:an fr 43= .i .i64 3):
  ∃D H,DC pE 71 oz ⟨fr,lh,Ho lT m kn 3⟩=some (.nrm,⟨D,H,Ho lT m kn 4⟩)∧an D 3= .ptr .S 2 1 0∧an D 43= .i .i64 4:=by
 have I:iu (py lT m kn (.mp .S 3 1) (.mp .S 4 1) (.mp .S 5 1) .nilmp [kE [] 0,kE jS 11,kE mb 25]) 6 ⟨1,.map [] [] false⟩=py lT m kn (.mp .S 3 1) (.mp .S 4 1) (.mp .S 5 1) .nilmp [kE [] 0,kE jS 11,kE mb 25,[]]:=cpA lT m kn (.mp .S 3 1) (.mp .S 4 1) (.mp .S 5 1) .nilmp [kE [] 0,kE jS 11,kE mb 25]
 have J:(py lT m kn (.mp .S 3 1) (.mp .S 4 1) (.mp .S 5 1) .nilmp [kE [] 0,kE jS 11,kE mb 25]).length=6:=cpL lT m kn (.mp .S 3 1) (.mp .S 4 1) (.mp .S 5 1) .nilmp [kE [] 0,kE jS 11,kE mb 25]
 have F:=fun fr lh sh K N r O U V=>H4 lT m kn (.mp .S 3 1) (.mp .S 4 1) (.mp .S 5 1) (.mp .S 6 1) [kE [] 0,kE jS 11,kE mb 25] 3 (by simp) qx YI (by decide) (.sl (strs qx) 7 true) (Or.inr ⟨true,rfl⟩) fr lh sh K N r O U V
 change ∀fr lh sh,sh=py lT m kn (.mp .S 3 1) (.mp .S 4 1) (.mp .S 5 1) (.mp .S 6 1) [kE [] 0,kE jS 11,kE mb 25,[]]→an fr 3= .ptr .S 2 1 0→an fr 8= .i .i64 3→an fr 53=(.sl (strs qx) 7 true)→an fr 54= .i .i64 7→an fr 55= .i .i64 0→_ at F
 have W:=fun lh=>nl (lh:=lh) (sh:=py lT m kn (.mp .S 3 1) (.mp .S 4 1) (.mp .S 5 1) .nilmp [kE [] 0,kE jS 11,kE mb 25,[]]) (k:=2) (g:=1) (off:=6) (m:=1) (v:= .mp .S 6 1) yo (cp2 lT m kn (.mp .S 3 1) (.mp .S 4 1) (.mp .S 5 1) .nilmp [kE [] 0,kE jS 11,kE mb 25,[]])
 unfold Ho
 simp only[qA,seval,kS,iY,oz,pb,r,Lw,J,I,W,ac6,aAX,ZG,F]
 first|done|refine⟨_,_,rfl, ?_, ?_⟩ <;> simp only[qA,seval,r,pb]
theorem aA0(lT:T)(m:List (List Nat×Nat))(fr:Fr)(lh:gW b8)(sh:List b8)(J:sh=py lT m [] .nilmp .nilmp .nilmp .nilmp [])(H:an fr 3= .ptr .S 2 1 0)(Lw:an fr 43= .i .i64 0):
  wJ 71 oz fr lh sh (.ext 2)∧
  (oi pE 71 oz fr lh sh=Ho lT m [] 4):=by
 refine jv (P:=fun D F K=>K=Ho lT m [] 4)
  (jR (fun k st=> ∃(fr:Fr) (I:gW b8),st=⟨fr,I,Ho lT m [] k⟩∧an fr 3= .ptr .S 2 1 0∧an fr 43= .i .i64 (k:Int)) _ 4 ?_ ?_ 0 _ (Nat.zero_le _) ⟨fr,lh,by rw[J];rfl,H,Lw⟩)
 ·rintro k _ hk ⟨fr,I,rfl,H,Lw⟩
  left
  have hc:k=0∨k=1∨k=2∨k=3:=by omega
  rcases hc with rfl|rfl|rfl|rfl
  ·obtain⟨D,F,h,r,Np⟩:=akG lT m [] fr I H Lw
   exact⟨_,h,D,F,rfl,r,Np⟩
  ·obtain⟨D,F,h,r,Np⟩:=akH lT m [] fr I H Lw
   exact⟨_,h,D,F,rfl,r,Np⟩
  ·obtain⟨D,F,h,r,Np⟩:=akI lT m [] fr I H Lw
   exact⟨_,h,D,F,rfl,r,Np⟩
  ·obtain⟨D,F,h,r,Np⟩:=akJ lT m [] fr I H Lw
   exact⟨_,h,D,F,rfl,r,Np⟩
 ·rintro _ ⟨fr,I,rfl,H,Lw⟩
  simp only[qA,seval,oz,Lw]
  exact⟨_,_,ui,rfl,rfl,rfl⟩
section
variable(l:Cs)(lT:T)(cl:List T)(hl:IsSl lT l.length cl)(lX:lS l cl)(hlen:l.length≤qh)
include hl lX hlen
theorem aih:be pE 51 [lT] []=some (.ptr .S 2 1 0,Ho lT (je l l.length) [] 4):=by
 have i:=fun fr lh sh=>aAU l lT cl hl lX hlen fr lh sh
 have r:=fun fr lh sh=>aA0 lT (je l l.length) fr lh sh
 rw[at8]at i
 rw[gQ aoU (by simp[c51])]
 simp only[qA,seval,iY,jO,c51,SU,SS,hl.lenI,hl.cells,hl.noTup,hl.kept1,i,r]
end
def OU(scope:Int)(s:List Nat):Option Nat:=iy (kE (SE scope) (SE scope).length) s
theorem El{s:List Nat}: ∀{m:List (List Nat×Nat)},iy m s=none↔ ∀p∈m,p.1≠s
 | []=>by simp[iy]
 |p::m=>by
  rw[iy]
  by_cases h:s=p.1
  ·grind
  ·rw[if_neg h,El (m:=m)]
   grind
theorem ac7{ns:List (List Nat)}{s:List Nat}:iy (kE ns ns.length) s=none↔s∉ns:=by
 rw[El]
 unfold kE
 rw[List.take_length]
 constructor
 ·intro h hs
  obtain⟨i,hi,e⟩:=List.getElem_of_mem hs
  exact h (ns[i],i) (List.mk_mem_zipIdx_iff_getElem?.2 (by rw[List.getElem?_eq_getElem hi])) e
 grind
theorem K9{ns:List (List Nat)}{s:List Nat}{i:Nat}: ∀{m:List (List Nat×Nat)},iy m s=some i→(s,i)∈m
 | [],h=>by simp[iy]at h
 |p::m,h=>by
  rw[iy]at h
  by_cases e:s=p.1
  ·grind
  ·rw[if_neg e]at h
   exact List.mem_cons_of_mem _ (K9 (ns:=ns) h)
theorem akL{scope:Int}{s:List Nat}{i:Nat}(h:OU scope s=some i):(SE scope)[i]? =some s:=by
 have r:=K9 (ns:=SE scope) h
 grind [kE]
theorem AL(s:List Nat):yu s≠0↔s∈jS:=by
 constructor
 ·intro h
  by_cases i:s∈jS
  ·exact i
  simp_all[jS,List.mem_cons,List.not_mem_nil,yu,ah2,ah3,ah4]
 ·intro h
  simp only[jS,List.mem_cons,List.not_mem_nil,or_false]at h
  rcases h with rfl|rfl|rfl|rfl|rfl|rfl|rfl|rfl|rfl|rfl|rfl <;> decide
theorem Se(s:List Nat):FX s≠0↔s∈qx:=by
 grind [qx,FX,Wi,Wj]
theorem Sf(s:List Nat):FY s≠0↔s∈mb:=by
 constructor
 ·intro h
  rw[FY]at h
  by_cases D:s= [114,101,115,116]
  ·subst D;decide
  by_cases F:s= [110,105,103,104,116,115]
  ·subst F;decide
  by_cases H:s= [104,111,109,101]
  ·subst H;decide
  rw[if_neg D,if_neg F,if_neg H]at h
  by_cases i:uy Wl s
  ·rw[if_pos i,AL]at h
   have e:s=Wl++s.drop 7:=by rw[←((Wo s).1 i).2,List.take_append_drop]
   rw[e]
   generalize s.drop 7=d at h
   simp only[jS,List.mem_cons,List.not_mem_nil,or_false]at h
   rcases h with rfl|rfl|rfl|rfl|rfl|rfl|rfl|rfl|rfl|rfl|rfl <;> decide
  ·rw[if_neg i]at h
   by_cases r:uy Y9 s
   ·rw[if_pos r,AL]at h
    have e:s=Y9++s.drop 6:=by rw[←((Wp s).1 r).2,List.take_append_drop]
    rw[e]
    generalize s.drop 6=d at h
    simp only[jS,List.mem_cons,List.not_mem_nil,or_false]at h
    rcases h with rfl|rfl|rfl|rfl|rfl|rfl|rfl|rfl|rfl|rfl|rfl <;> decide
   ·rw[if_neg r]at h;exact absurd rfl h
 ·intro hs
  simp only[mb,List.mem_cons,List.not_mem_nil,or_false]at hs
  rcases hs with rfl|rfl|rfl|rfl|rfl|rfl|rfl|rfl|rfl|rfl|rfl|rfl|rfl|rfl|rfl|rfl|rfl|rfl|rfl|rfl|rfl|rfl|rfl|rfl|rfl <;> decide
theorem Sg(scope:Int)(s:List Nat):lI scope s≠0↔s∈SE scope:=by
 grind [lI,SE,AL,Sf,Se]
theorem uE(scope:Int)(s:List Nat):OU scope s=none↔lI scope s=0:=by
 unfold OU
 rw[ac7,←Sg]
 grind
mutual
def comp(r:List Nat→Int)(scope:Int):Ex→Fm
 | .mk op num name args=>if op=1∨op=2∨op=3 then .mk 1 num []else if op=4 then .mk 1 1 []else if op=5 then .mk 1 0 []else if op=6 then(match OU scope name with|some i=> .mk 6 (i:Int) []|none=> .mk 1 (r name) [])else .mk op 0 (lJ r scope args)
def lJ(i:List Nat→Int)(scope:Int):List Ex→List Fm
 | []=> []
 |x::xs=>comp i scope x::lJ i scope xs
end
theorem rm(r:List Nat→Int)(scope:Int)(x:Ex):comp r scope x=if x.op=1∨x.op=2∨x.op=3 then .mk 1 x.num []else if x.op=4 then .mk 1 1 []else if x.op=5 then .mk 1 0 []else if x.op=6 then(match OU scope x.name with|some i=> .mk 6 (i:Int) []|none=> .mk 1 (r x.name) [])else .mk x.op 0 (lJ r scope x.args):=by obtain⟨_,_,_,_⟩:=x;rw[comp];rfl
theorem qi(i:List Nat→Int)(scope:Int): ∀xs,lJ i scope xs=xs.map (comp i scope)
 | []=>rfl
 |x::xs=>by simp_all[lJ,qi]
def Zg(cl:List Nat→Int×Int)(scope:Int)(s:List Nat):Int×Int:=if lI scope s≠0 then(lI scope s,0)else cl s
def Ii(D:List Nat→Int)(scope:Int)(r:List Int)(s:List Nat):Int:=match OU scope s with|some i=>r.getD i 0|none=>D s
theorem akM(cl:List Nat→Int×Int)(scope:Int)(x:Ex):x.ty cl scope=x.ty (Zg cl scope) 0:=by
 induction x using Ex.ind with
 |h x ih=>
  rw[Ex.ty_eq,Ex.ty_eq (cl:=Zg cl scope)]
  have hl:rM cl scope x.args=rM (Zg cl scope) 0 x.args:=by
   generalize x.args=xs at ih
   induction xs with
   |nil=>rfl
   |cons y r UN=>
    rw[rM,rM,ih y (by simp),UN fun z i=>ih z (by simp[i])]
  grind [Zg,rk]
theorem at9(cl:List Nat→Int×Int):Zg cl 0=cl:=by
 grind [Zg,rk]
theorem aua(s:List Nat):OU 0 s=none:=(uE 0 s).2 (rk s)
theorem afL(r:List Nat→Int)(i:List Int):Ii r 0 i=r:=by
 grind [Ii,aua]
theorem OV{cl:List Nat→Int×Int}{D:List Nat→Int}{scope:Int}{r:List Int}(hc:RD (Zg cl scope) (Ii D scope r))(k9:r.length=(SE scope).length)(x:Ex): ∀k,x.wf=true→jB x.args≤100000→x.ty cl scope=(k,0)→F8 r (comp D scope x)∧(comp D scope x).val r=x.val0 (Ii D scope r)∧EA k (x.val0 (Ii D scope r)):=by
 induction x using Ex.ind with
 |h x ih=>
  intro k B5 hn V
  have X:EA k (x.val0 (Ii D scope r)):=by
   rw[akM]at V
   exact(PK hc 0 (fun s=>rk s) x k B5 V).2
  refine and_assoc.1 ⟨?_,X⟩
  obtain⟨h1,h2,Y,No,Ek,JA⟩:=Ch B5
  have Z:=Yz X
  have F: ∀f v,comp D scope x=f→x.val0 (Ii D scope r)=v→(bd v→F8 r f∧f.val r=v)→F8 r (comp D scope x)∧(comp D scope x).val r=x.val0 (Ii D scope r):=by
   rintro f v rfl e h
   rw[e]at Z ⊢
   exact h Z
  have W: ∀n,bd n→F8 r (.mk 1 n [])∧(Fm.mk 1 n []).val r=n:=fun n N=>⟨(HZ _ _).2 (.inl ⟨rfl,N⟩),by rw[Fm.val_eq];rfl⟩
  by_cases H:x.op=1∨x.op=2∨x.op=3
  ·exact F _ _ (by rw[rm,if_pos H]) (by rw[Ex.val0_eq,if_neg (by omega),if_pos H]) (W _)
  by_cases I:x.op=4
  ·exact F _ _ (by rw[rm,if_neg H,if_pos I]) (by rw[Ex.val0_eq,if_neg (by omega),if_neg H,if_pos I]) (W _)
  by_cases K:x.op=5
  ·exact F _ _ (by rw[rm,if_neg H,if_neg I,if_pos K]) (by rw[Ex.val0_eq,if_neg (by omega),if_neg H,if_neg I,if_pos K]) (W _)
  by_cases J:x.op=6
  ·cases O:OU scope x.name with
   |none=>exact F _ _ (by rw[rm,if_neg H,if_neg I,if_neg K,if_pos J,O]) (by rw[Ex.val0_eq,if_pos J,Ii,O]) (W _)
   |some i=>
    have hi:=akL O
    have qJ:i<(SE scope).length:=(List.getElem?_eq_some_iff.1 hi).1
    refine F (.mk 6 (i:Int) []) (r.getD i 0) (by rw[rm,if_neg H,if_neg I,if_neg K,if_pos J,O]) (by rw[Ex.val0_eq,if_pos J,Ii,O]) fun N=>⟨(HZ _ _).2 (.inr (.inl ⟨rfl,Int.natCast_nonneg i, ?_,N⟩)),by rw[Fm.val_eq];rfl⟩
    show(i:Int).toNat<r.length
    rw[Int.toNat_natCast,k9];exact qJ
  ·refine F _ _ (by rw[rm,if_neg H,if_neg I,if_neg K,if_neg J]) (by rw[Ex.val0_eq,if_neg J,if_neg H,if_neg I,if_neg K]) fun N=> ?_
   have h7:7≤x.op:=by omega
   obtain⟨ts,U,hr,hk⟩:=Cg V J
   have hlen:ts.length=x.args.length:=B6 U
   have LP:=lZ x.args
   have Y5:Ei r (lJ D scope x.args)∧lL r (lJ D scope x.args)=uP (Ii D scope r) x.args∧AK ts (uP (Ii D scope r) x.args):=by
    clear V Y hr B5 No Ek hlen Z X LP F N
    generalize x.args=xs at ih U JA hn
    induction xs generalizing ts with
    |nil=>rw[rM]at U;cases U;exact⟨by rw[lJ,Ei];trivial,by rw[lJ,lL,uP],trivial⟩
    |cons z zs ihz=>
     obtain⟨t,us,rfl,e1,e2⟩:=y9 U
     rw[By,Bool.and_eq_true]at JA
     rw[jB]at hn
     have hz:=z.nodes_eq
     obtain⟨f1,f2,f3⟩:=ih z (by simp) t JA.1 (by omega) e1
     obtain⟨g1,g2,g3⟩:=ihz us (fun y hy=>ih y (by simp[hy])) e2 JA.2 (by omega)
     rw[lJ,lL,uP,Ei,f2,g2]
     exact⟨⟨f1,g1⟩,rfl,f3,g3⟩
   obtain⟨i1,i2,i3⟩:=Y5
   have lX:(lJ D scope x.args).length=x.args.length:=by rw[qi,List.length_map]
   obtain⟨hv,_⟩:=afI i3 h7 h2 (by rw[hlen];exact Y) hr hk
   refine⟨(HZ _ _).2 (.inr (.inr ⟨h7,h2,by show lj x.op (lJ D scope x.args).length=true;rw[lX];exact Y,by show(lJ D scope x.args).length≤qh;rw[lX];exact nY (by omega),i1,by show vOk x.op (lL r (lJ D scope x.args));rw[i2];exact hv⟩)), ?_⟩
   rw[Fm.val_eq]
   show(if x.op=1 then(0:Int)else if x.op=6 then r.getD (0:Int).toNat 0 else Sq x.op (lL r (lJ D scope x.args)))=Sq x.op (uP (Ii D scope r) x.args)
   rw[if_neg (by omega),if_neg J,i2]
def ln(lT:T)(m:List (List Nat×Nat))(kn:List (Nat×Int))(R:List b8):List b8:=Ho lT m kn 4++R
section
variable(lT:T)(m:List (List Nat×Nat))(kn:List (Nat×Int))(R:List b8)
theorem aub:gY (ln lT m kn R) 0=⟨1,.map (m.map fun p=>sK p.1) (m.map fun p=>nK p.2) false⟩:=nr rfl
theorem auc:gY (ln lT m kn R) 1=⟨1,.map (kn.map fun p=>nK p.1) (kn.map fun p=>iV p.2) false⟩:=nr rfl
theorem H5:gY (ln lT m kn R) 2=⟨1,.cells [lT,.mp .S 0 1,.mp .S 1 1,.mp .S 3 1,.mp .S 4 1,.mp .S 5 1,.mp .S 6 1] 0 true⟩:=nr rfl
theorem aA1:gY (ln lT m kn R) 3=⟨1,.map ((kE [] 0).map fun p=>sK p.1) ((kE [] 0).map fun p=>nK p.2) false⟩:=nr rfl
theorem aud:gY (ln lT m kn R) 4=⟨1,.map ((kE jS 11).map fun p=>sK p.1) ((kE jS 11).map fun p=>nK p.2) false⟩:=nr rfl
theorem aue:gY (ln lT m kn R) 5=⟨1,.map ((kE mb 25).map fun p=>sK p.1) ((kE mb 25).map fun p=>nK p.2) false⟩:=nr rfl
theorem auf:gY (ln lT m kn R) 6=⟨1,.map ((kE qx 7).map fun p=>sK p.1) ((kE qx 7).map fun p=>nK p.2) false⟩:=nr rfl
theorem aug(i:List (Nat×Int)):iu (ln lT m kn R) 1 ⟨1,.map (i.map fun p=>nK p.1) (i.map fun p=>iV p.2) false⟩=ln lT m i R:=nr rfl
end
def kOf:List b8→List (Nat×Int)
 |_::⟨_,.map ks r _⟩::_=>(ks.zip r).map fun p=>((match p.1 with| .i _ n=>n.toNat|_=>0),(match p.2 with| .i _ n=>n|_=>0))
 |_=> []
theorem akN(lT:T)(m:List (List Nat×Nat))(R:List b8): ∀kn,kOf (ln lT m kn R)=kn:=by
 intro kn
 unfold kOf ln Ho py
 simp only[List.cons_append]
 induction kn with
 |nil=>rfl
 |cons p kn ih=>rw[List.map_cons,List.map_cons,List.zip_cons_cons,List.map_cons,ih];obtain⟨a,b⟩:=p;simp[nK,iV]
noncomputable def kL(E:Env)(n:Nat)(a:fx)(fr:Fr)(lh:gW b8)(sh:List b8):List (Nat×Int):=kOf (oi E n a fr lh sh)
theorem afM{E:Env}{n:Nat}{a:fx}{fr:Fr}{lh:gW b8}{sh:List b8}{lT:T}{m:List (List Nat×Nat)}{R:List b8}{P:List (Nat×Int)→Prop}(h: ∃kn,oi E n a fr lh sh=ln lT m kn R∧P kn):oi E n a fr lh sh=ln lT m (kL E n a fr lh sh) R∧P (kL E n a fr lh sh):=by
 obtain⟨kn,i,r⟩:=h
 have:kL E n a fr lh sh=kn:=by unfold kL;rw[i,akN]
 rw[this];exact⟨i,r⟩
theorem YJ{cl:List Nat→Int×Int}{scope:Int}: ∀{xs:List Ex} {ts:List Int},rM cl scope xs= .ok ts→ ∀(k:Nat) (hk:k<xs.length),∃t,xs[k].ty cl scope=(t,0)
 | [],ts,h,k,hk=>by simp at hk
 |x::xs,ts,h,k,hk=>by
  obtain⟨t,us,rfl,i,r⟩:=y9 h
  cases k with
  |zero=>exact⟨t,i⟩
  |succ k=>exact YJ r k (by simpa using hk)
section
variable(l:Cs)(lT:T)(R:List b8)(cl:List T)(hl:IsSl lT l.length cl)(lX:lS l cl)(hlen:l.length≤qh)
def od(kn:List (Nat×Int)):Prop:= ∀i v,iy kn i=some v→v=(EB l l.length).getD i 0
def auh(n:Nat)(scope:Int)(y:Ex):Prop:= ∀k kn cs,od l kn→mC y cs→y.nodes≤200→y.wf=true→y.ty (CL l n) scope=(k,0)→
 ∃D r,be pE 52 [.ptr .S 2 1 0,.i .i64 scope,.agg cs] (ln lT (je l l.length) kn R)=some (.agg D,ln lT (je l l.length) r R)∧n4 (comp (pJ l) scope y) D∧od l r∧ ∀i,n≤i→iy r i=iy kn i
def aui(j:Nat):Prop:= ∀s t kn,oJ l s=some j→Ls l s=(t,0)→od l kn→ ∃r,be pE 94 [.ptr .S 2 1 0,.s s] (ln lT (je l l.length) kn R)=some (.i .i64 (pJ l s),ln lT (je l l.length) r R)∧od l r∧ ∀i,j<i→iy r i=iy kn i
theorem aA3(n:Nat)(scope:Int)(xs:List Ex)(ih: ∀y∈xs,auh l lT R n scope y)(a:T)(cc:List T)(ha:IsSl a xs.length cc)(hx:j3 xs cc)(hn:jB xs≤200)(B5:By xs=true)(ts:List Int)(zh:rM (CL l n) scope xs= .ok ts)(kn:List (Nat×Int))(pR:od l kn)(op:T)(g g9:Nat)(U:b8)(fr:Fr)(lh:gW b8)(sh:List b8)(lC:sh=ln lT (je l l.length) kn R)
  (H:an fr 0= .ptr .S 2 1 0) (I:an fr 1= .i .i64 scope) (J:an fr 9= .ptr .L 9 g9 0) (Bw:an fr 63=a) (DZ:an fr 64= .i .i64 (xs.length:Int)) (BE:an fr 65= .i .i64 0) (K:b7 lh 6=U) (D:b7 lh 9=⟨g9,.cells [op,.i .i64 0,.isl .L 60 g 0 xs.length 3] 0 true⟩) (Gy:b7 lh 60=⟨g,.cells (repl [.i .i64 0,.i .i64 0,.nilsl] xs.length) 0 false⟩):
  wJ 80 sO fr lh sh (.ext 1)∧
  (b7 (nE pE 80 sO fr lh sh) 6=U∧b7 (nE pE 80 sO fr lh sh) 9=⟨g9,.cells [op,.i .i64 0,.isl .L 60 g 0 xs.length 3] 0 true⟩∧(∃cs,b7 (nE pE 80 sO fr lh sh) 60=⟨g,.cells cs 0 false⟩∧iF (lJ (pJ l) scope xs) cs)∧
    (∃r,oi pE 80 sO fr lh sh=ln lT (je l l.length) r R∧od l r∧ ∀i,n≤i→iy r i=iy kn i)):=by
 refine jv (P:=fun jA W iE=>b7 W 6=U∧b7 W 9=⟨g9,.cells [op,.i .i64 0,.isl .L 60 g 0 xs.length 3] 0 true⟩∧(∃cs,b7 W 60=⟨g,.cells cs 0 false⟩∧iF (lJ (pJ l) scope xs) cs)∧(∃r,iE=ln lT (je l l.length) r R∧od l r∧ ∀i,n≤i→iy r i=iy kn i))
  (jR (fun k st=> ∃(fr:Fr) (F:gW b8) (A:List T) (Kl:List (Nat×Int)),st=⟨fr,F,ln lT (je l l.length) Kl R⟩∧an fr 0= .ptr .S 2 1 0∧an fr 1= .i .i64 scope∧an fr 9= .ptr .L 9 g9 0∧an fr 63=a∧an fr 64= .i .i64 (xs.length:Int)∧an fr 65= .i .i64 (k:Int)∧b7 F 6=U∧b7 F 9=⟨g9,.cells [op,.i .i64 0,.isl .L 60 g 0 xs.length 3] 0 true⟩∧
    b7 F 60=⟨g,.cells (A++repl [.i .i64 0,.i .i64 0,.nilsl] (xs.length-k)) 0 false⟩∧iF (lJ (pJ l) scope (xs.take k)) A∧od l Kl∧ ∀i,n≤i→iy Kl i=iy kn i) _ xs.length ?_ ?_ 0 _ (Nat.zero_le _) ⟨fr,lh,[],kn,by rw[lC],H,I,J,Bw,DZ,BE,K,D,by rw[Gy];rfl,by rw[List.take_zero,lJ];exact iF.nil,pR,fun _ _=>rfl⟩)
 ·rintro k _ hk ⟨fr,F,A,Kl,rfl,H,I,J,Bw,DZ,BE,K,D,Gy,N,Nd,KW⟩
  left
  have iP:(k:Int)<xs.length:=by omega
  have N6:=lZ xs
  have hyk:=oH (List.getElem_mem hk)
  have hw:=iT (k:=k) (nY (by omega))
  obtain⟨b,cb,rr,iU,mP,sL,hb⟩:=rF ha hx k hk
  obtain⟨t,ht⟩:=YJ zh k hk
  obtain⟨cf,OA,gU,zY,X,Y⟩:=ih xs[k] (List.getElem_mem hk) t Kl _ Nd hb (by omega) (Hj.1 B5 _ (List.getElem_mem hk)) ht
  obtain⟨V,fc,rfl,Bx,hf2⟩:=zY.cells
  have O:A.length=k*3:=by rw[N.len,qi];simp;omega
  generalize hy:comp (pJ l) scope xs[k]=y at*
  have H9:(A++repl [T.i .i64 0,T.i .i64 0,T.nilsl] (xs.length-k)).length=xs.length*3:=by rw[List.length_append,Ed,O];simp;omega
  have Z:splice (A++repl [T.i .i64 0,T.i .i64 0,T.nilsl] (xs.length-k)) (k*3) [.i .i64 y.op,.i .i64 y.num,V]=(A++ [.i .i64 y.op,.i .i64 y.num,V])++repl [T.i .i64 0,T.i .i64 0,T.nilsl] (xs.length-(k+1)):=by
   rw[show xs.length-k=(xs.length-(k+1))+1 by omega,AF,Ec A [T.i .i64 0,T.i .i64 0,T.nilsl] _ [T.i .i64 y.op,T.i .i64 y.num,V] (k*3) O rfl]
  have aj8:k*3+3≤xs.length*3:=by omega
  simp only[qA,seval,jq,ig,jO,sO,H,I,J,Bw,DZ,BE,D,Gy,iP,iU,hw,gU,qI,rq,mP.kept1,Bx.froz1,hk,H9,Z,aj8]
  refine⟨_,rfl,_,_,A++ [.i .i64 y.op,.i .i64 y.num,V],OA,rfl, ?_, ?_, ?_, ?_, ?_, ?_, ?_, ?_, ?_, ?_,X,fun i hi=>by rw[Y i hi,KW i hi]⟩
  all_goals first|(simp only[qA,seval,H,I,J,Bw,DZ,K,D];done)|skip
  rw[List.take_succ_eq_append_getElem hk,qi,List.map_append,←qi,List.map_cons,hy]
  exact iF.append N (iF.one zY)
 ·rintro _ ⟨fr,F,A,Kl,rfl,H,I,J,Bw,DZ,BE,K,D,Gy,N,Nd,KW⟩
  rw[Nat.sub_self,show repl [T.i .i64 0,T.i .i64 0,T.nilsl] 0= []from rfl,List.append_nil]at Gy
  rw[List.take_length]at N
  simp only[qA,seval,sO,DZ,BE,Int.lt_irrefl]
  exact⟨_,_,ui,rfl,rfl,K,D,⟨A,Gy,N⟩,Kl,rfl,Nd,KW⟩
end
end Go.Proofs.YtcpceiclnbmgiaaGreat
