/- Walks of functions of the program and of the reference, and their plain laws, part 5. Conditions: the theorems' own. -/
import Derived.Test.YtbdfboojnfinkaaGreatM4
import Derived.KernelRfl
set_option maxRecDepth 100000
set_option linter.unusedSimpArgs false
set_option linter.unusedVariables false
set_option maxHeartbeats 16000000
namespace Go.Proofs.YtbdfboojnfinkaaGreat
open Go Go.Ev
theorem Ex.fold_eq(cl:List Nat→Int×Int)(cx:List Nat→Ex)(scope:Int)(x:Ex):x.fold cl cx scope=
  if x.op=6 then(if kA scope x.name≠0 then x else cx x.name)
  else if x.args.isEmpty then x
  else if(rf cl cx scope x.args).all isLit then vP (x.ty cl scope).1 (DL x.op ((rf cl cx scope x.args).map Zm))
  else aor x.op (rf cl cx scope x.args):=by obtain⟨_,_,_,_⟩:=x;rw[Ex.fold];rfl
theorem vF{cl:List Nat→Int×Int}{scope k:Int}{x:Ex}(h:x.ty cl scope=(k,0))(E:x.op≠6): ∃ts,pc cl scope x.args= .ok ts∧py x.op ts=k∧k≠0:=by
 rw[Ex.ty_eq,if_neg E]at h
 cases D:pc cl scope x.args with
 |error e=>
  rw[D]at h
  have F:((0:Int),e)=(k,0):=h
  injection F with _ h0
  exact absurd h0 (NI D)
 |ok ts=>
  grind
theorem sD{cl:List Nat→Int×Int}{scope:Int}{x:Ex}{xs:List Ex}{ts:List Int}(h:pc cl scope (x::xs)= .ok ts): ∃t us,ts=t::us∧x.ty cl scope=(t,0)∧pc cl scope xs= .ok us:=by
 grind [pc]
theorem vC{x:Ex}(h:x.wf=true):1≤x.op∧x.op≤22∧j5 x.op x.args.length=true∧(0≤x.num∧x.num≤CE x.op)∧(if x.op=6 then tl x.name=true else x.name= [])∧wP x.args=true:=by
 simp_all[Ex.wf_eq,Bool.and_eq_true,rF]
theorem agR{op:Int}{n:Nat}(h:1≤op)(D:j5 op n=true)(E:n≠0):7≤op:=by
 grind [j5]
theorem aae{op:Int}{n:Nat}(h:op≤22)(D:j5 op n=true)(E:n=0):op≤6:=by
 grind [j5]
mutual
def Ex.val0(h:List Nat→Int):Ex→Int
 | .mk op num name args=>if op=6 then h name else if op=1∨op=2∨op=3 then num else if op=4 then 1 else if op=5 then 0 else DL op (kj h args)
def kj(h:List Nat→Int):List Ex→List Int
 | []=> []
 |x::xs=>x.val0 h::kj h xs
end
theorem Ex.val0_eq(h:List Nat→Int)(x:Ex):x.val0 h=if x.op=6 then h x.name else if x.op=1∨x.op=2∨x.op=3 then x.num else if x.op=4 then 1 else if x.op=5 then 0 else DL x.op (kj h x.args):=by obtain⟨_,_,_,_⟩:=x;rw[Ex.val0];rfl
theorem sw(h:List Nat→Int): ∀xs,kj h xs=xs.map (Ex.val0 h)
 | []=>rfl
 |x::xs=>by rw[kj,sw h xs];rfl
def cxv(cl:List Nat→Int×Int)(h:List Nat→Int)(s:List Nat):Ex:=vP (cl s).1 (h s)
def LC(cl:List Nat→Int×Int)(h:List Nat→Int):Prop:= ∀s t,cl s=(t,0)→CX t (h s)
theorem V5{cl:List Nat→Int×Int}{scope:Int}{x:Ex}{k:Int}(I:x.wf=true)(D:x.ty cl scope=(k,0))(F:x.op≠6)(h:x.args= []):x=vP k (if x.op=1∨x.op=2∨x.op=3 then x.num else if x.op=4 then 1 else 0)∧CX k (if x.op=1∨x.op=2∨x.op=3 then x.num else if x.op=4 then 1 else 0)∧x.op≤5:=by
 obtain⟨N,J,K,Gy,H,AI⟩:=vC I
 have O:x.op≤6:=aae J K (by rw[h];rfl)
 rw[Ex.ty_eq,if_neg F,h,pc]at D
 rw[if_neg F]at H
 obtain⟨op,num,name,args⟩:=x
 simp only[Ex.op,Ex.num,Ex.name,Ex.args]at*
 subst H h
 have E:op=1∨op=2∨op=3∨op=4∨op=5:=by omega
 rcases E with rfl|rfl|rfl|rfl|rfl
 all_goals
  simp[py]at D
  subst D
  simp[CE]at Gy
 ·refine⟨?_,.inl ⟨.inl rfl, ?_⟩,by decide⟩
  ·simp[vP,nP];omega
  ·simp[bd];omega
 ·refine⟨?_,.inl ⟨.inr rfl, ?_⟩,by decide⟩
  ·simp[vP,nP];omega
  ·simp[bd];omega
 ·refine⟨?_,.inr (.inl ⟨rfl, ?_⟩),by decide⟩
  ·simp[vP,nP]
  ·simpa using Gy
 ·refine⟨?_,.inr (.inr ⟨rfl,.inr rfl⟩),by decide⟩
  simp[vP,nP];omega
 ·refine⟨?_,.inr (.inr ⟨rfl,.inl rfl⟩),by decide⟩
  simp[vP,nP];omega
theorem JI{cl:List Nat→Int×Int}{D:List Nat→Int}(X:LC cl D)(scope:Int)(N: ∀s,kA scope s=0)(x:Ex): ∀k,x.wf=true→x.ty cl scope=(k,0)→x.fold cl (cxv cl D) scope=vP k (x.val0 D)∧CX k (x.val0 D):=by
 induction x using Ex.ind with
 |h x ih=>
  intro k O E
  obtain⟨Y,Z,I,Gy,yo,AI⟩:=vC O
  rw[Ex.fold_eq,Ex.val0_eq]
  by_cases F:x.op=6
  ·rw[if_pos F,if_pos F]
   rw[Ex.ty_eq,if_pos F,if_neg (by simp[N])]at E
   rw[if_neg (by simp[N])]
   exact⟨by unfold cxv;rw[E],X _ _ E⟩
  rw[if_neg F,if_neg F]
  by_cases J:x.args.isEmpty=true
  ·grind [V5]
  ·rw[if_neg J]
   have U:x.args.length≠0:=by
    intro h;exact J (by simp[List.length_eq_zero_iff.1 h])
   have h7:=agR Y I U
   obtain⟨ts,H,V,hk⟩:=vF E F
   have WI:yx ts (kj D x.args)∧(rf cl (cxv cl D) scope x.args).all isLit=true∧(rf cl (cxv cl D) scope x.args).map Zm=kj D x.args:=by
    clear E I U J V O Gy yo
    generalize x.args=xs at ih H AI
    induction xs generalizing ts with
    |nil=>rw[pc]at H;cases H;exact⟨trivial,rfl,rfl⟩
    |cons z zs K=>
     obtain⟨t,us,rfl,e1,e2⟩:=sD H
     rw[wP,Bool.and_eq_true]at AI
     obtain⟨f1,W⟩:=ih z (by simp) t AI.1 e1
     obtain⟨g1,g2,g3⟩:=K us (fun y hy=>ih y (by simp[hy])) e2 AI.2
     rw[rf,kj,f1]
     obtain⟨_,q1,q2⟩:=GU (scope:=scope) W
     refine⟨⟨W,g1⟩, ?_, ?_⟩
     ·rw[List.all_cons,q1,g2];rfl
     ·rw[List.map_cons,q2,g3]
   obtain⟨i1,i2,i3⟩:=WI
   have hlen:ts.length=x.args.length:=tq H
   rw[if_pos i2,i3,E,if_neg (by omega),if_neg (by omega),if_neg (by omega)]
   exact⟨rfl,(Nq i1 h7 Z (by rw[hlen];exact I) V hk).2⟩
def Vu(l:Cs)(h:List Int)(s:List Nat):Int:=match lN l s with
 |none=>0
 |some i=>h.getD i 0
def tX(l:Cs):Nat→List Int
 |0=> []
 |n+1=>tX l n++ [if(tV (l.take n) (kB l n) (l.getD n ([],.mk 0 0 [] [])).2).2=0 then(l.getD n ([],.mk 0 0 [] [])).2.val0 (Vu (l.take n) (tX l n))else 0]
theorem m8(l:Cs): ∀n,(tX l n).length=n
 |0=>rfl
 |n+1=>by rw[tX,List.length_append,m8 l n];rfl
theorem JJ(l:Cs){n:Nat}(h:n<l.length):tX l (n+1)=tX l n++ [if(tV (l.take n) (kB l n) l[n].2).2=0 then l[n].2.val0 (Vu (l.take n) (tX l n))else 0]:=by
 rw[tX,List.getD_eq_getElem?_getD,List.getElem?_eq_getElem h];rfl
theorem NJ(l:Cs)(n:Nat): ∀k,∃r,tX l (n+k)=tX l n++r
 |0=>⟨[],by simp⟩
 |k+1=>by
  obtain⟨r,h⟩:=NJ l n k
  grind [Nat.add_assoc,tX]
theorem NK(l:Cs){n i:Nat}(D:n≤l.length)(hi:i<n):(tX l n).getD i 0=(tX l l.length).getD i 0:=by
 obtain⟨r,h⟩:=NJ l n (l.length-n)
 grind [m8,hi]
def CL(l:Cs)(n:Nat):List Nat→Int×Int:=clk (l.take n) (kB l n)
def VX(l:Cs)(n:Nat):List Nat→Int:=Vu (l.take n) (tX l n)
def Gr(l:Cs):List Nat→Int×Int:=clk l (kB l l.length)
def mZ(l:Cs):List Nat→Int:=Vu l (tX l l.length)
theorem zN(l:Cs):CL l l.length=Gr l:=by grind [CL,Gr]
theorem Vv(l:Cs):VX l l.length=mZ l:=by grind [VX,mZ]
theorem vD{l:Cs}{n:Nat}(I:n≤l.length){s:List Nat}{t:Int}(h:CL l n s=(t,0)): ∃i,∃hi:i<l.length,i<n∧lN l s=some i∧jh l[i].2=0∧l[i].2.ty (CL l i) 0=(t,0)∧Gr l s=(t,0)∧VX l n s=l[i].2.val0 (VX l i)∧mZ l s=l[i].2.val0 (VX l i)∧vR l i=(t,0):=by
 unfold CL clk at h
 rw[vG]at h
 cases E:lN l s with
 |none=>grind
 |some i=>
  rw[E]at h
  simp only at h
  by_cases hi:i<n
  ·rw[if_pos hi]at h
   simp only at h
   have H:i<l.length:=GD E
   rw[C9 l I hi]at h
   have D:vR l i=(t,0):=h
   have Xk:=D
   rw[GI l H]at D
   have DD:=D
   unfold tV at D
   by_cases F:jh l[i].2≠0
   ·rw[if_pos F]at D;injection D with _ D;exact absurd D F
   ·rw[if_neg F]at D
    have J:(tX l l.length).getD i 0=l[i].2.val0 (VX l i):=by
     rw[←NK l (n:=i+1) (by omega) (by omega),JJ l H,List.getD_eq_getElem?_getD,List.getElem?_append_right (by rw[m8];omega),m8,Nat.sub_self,DD]
     rfl
    refine⟨i,H,hi,rfl,by simpa using F,D, ?_, ?_, ?_,Xk⟩
    ·unfold Gr clk;rw[E];exact h
    ·unfold VX Vu
     rw[vG,E]
     simp only[if_pos hi]
     rw[NK l I hi,J];rfl
    ·unfold mZ Vu;rw[E];exact J
  ·grind
theorem my(s:List Nat):kA 0 s=0:=by unfold kA;rfl
theorem V6(l:Cs): ∀n,n≤l.length→LC (CL l n) (VX l n):=by
 intro n
 induction n using Nat.strongRecOn with
 |ind n ih=>
  intro h s t hs
  obtain⟨i,F,hi,_,D,E,_,e,_⟩:=vD h hs
  rw[e]
  exact(JI (ih i hi (by omega)) 0 (fun s=>my s) l[i].2 t (mM D) E).2
theorem Gs(l:Cs):LC (Gr l) (mZ l):=by
 have:=V6 l l.length (Nat.le_refl _)
 rwa [zN,Vv]at this
theorem fold_congr{cl GJ:List Nat→Int×Int}{cx D:List Nat→Ex}(scope:Int)(Y: ∀s t,cl s=(t,0)→GJ s=(t,0)∧D s=cx s)(x:Ex): ∀k,x.ty cl scope=(k,0)→x.ty GJ scope=(k,0)∧x.fold GJ D scope=x.fold cl cx scope:=by
 induction x using Ex.ind with
 |h x ih=>
  intro k H
  by_cases I:x.op=6
  ·grind [Ex.ty_eq,Ex.fold_eq]
  ·obtain⟨ts,E,J,Z⟩:=vF H I
   have hl:pc GJ scope x.args= .ok ts∧rf GJ D scope x.args=rf cl cx scope x.args:=by
    clear H J
    generalize x.args=xs at ih E
    induction xs generalizing ts with
    |nil=>rw[pc]at E;cases E;exact⟨rfl,rfl⟩
    |cons z zs F=>
     obtain⟨t,us,rfl,K,N⟩:=sD E
     obtain⟨O,U⟩:=ih z (by simp) t K
     obtain⟨V,W⟩:=F us (fun y X=>ih y (by simp[X])) N
     rw[pc,rf,rf,O,V,U,W]
     exact⟨rfl,rfl⟩
   grind [Ex.ty_eq,Ex.fold_eq]
theorem ap4{l:Cs}{n:Nat}(h:n≤l.length): ∀s t,CL l n s=(t,0)→Gr l s=(t,0)∧cxv (Gr l) (mZ l) s=cxv (CL l n) (VX l n) s:=fun s t hs=>by
 grind [cxv,vD]
def V7(l:Cs)(scope:Int)(x:Ex):Ex:=x.fold (Gr l) (cxv (Gr l) (mZ l)) scope
theorem JK{l:Cs}{s:List Nat}{t:Int}(h:Gr l s=(t,0)): ∃i,∃hi:i<l.length,lN l s=some i∧jh l[i].2=0∧l[i].2.ty (CL l i) 0=(t,0)∧l[i].2.ty (Gr l) 0=(t,0)∧V7 l 0 l[i].2=vP t (mZ l s)∧CX t (mZ l s)∧vR l i=(t,0)∧mZ l s=(tX l l.length).getD i 0:=by
 have F:=h
 rw[←zN]at F
 obtain⟨i,D,hi,H,I,E,N,O,J,K⟩:=vD (Nat.le_refl _) F
 obtain⟨c1,c2⟩:=fold_congr 0 (ap4 (Nat.le_of_lt D)) l[i].2 t E
 refine⟨i,D,H,I,E,c1, ?_,Gs l s t h,K, ?_⟩
 ·unfold V7
  rw[c2,(JI (V6 l i (Nat.le_of_lt D)) 0 (fun s=>my s) l[i].2 t (mM I) E).1,J]
 ·unfold mZ Vu;rw[H]
def kK(ns:List (List Nat))(i:Nat):List (List Nat×Nat):=(ns.take i).zipIdx
theorem V8{ns:List (List Nat)}{i:Nat}(hi:i<ns.length):kK ns (i+1)=kK ns i++ [(ns[i],i)]:=by
 unfold kK
 rw[List.take_succ_eq_append_getElem hi,List.zipIdx_append]
 simp[List.length_take,Nat.min_eq_left (Nat.le_of_lt hi)]
theorem V9{ns:List (List Nat)}(E:ns.Nodup){i:Nat}(hi:i<ns.length):iH (kK ns i) ns[i]=none:=by
 have F: ∀(m:List (List Nat×Nat)) (s:List Nat),(∀p∈m,p.1≠s)→iH m s=none:=by
  intro m s h
  induction m with
  |nil=>rfl
  |cons p m ih=>
   rw[iH,if_neg (fun e=>h p (List.mem_cons_self ..) e.symm)]
   exact ih fun q I=>h q (List.mem_cons_of_mem _ I)
 refine F _ _ fun p J e=> ?_
 have H:p.1∈ns.take i:=List.fst_mem_of_mem_zipIdx J
 rw[e]at H
 obtain⟨j,K,D⟩:=List.getElem_of_mem H
 rw[List.length_take]at K
 rw[List.getElem_take]at D
 exact List.pairwise_iff_getElem.1 E j i (by omega) hi (by omega) D
def pj(lT:T)(m:List (List Nat×Nat))(kn:List (Nat×Int))(c0 c1 c2 c3:T)(ms:List (List (List Nat×Nat))):List ib:=
 ⟨1,.map (m.map fun p=>sK p.1) (m.map fun p=>nK p.2) false⟩::⟨1,.map (kn.map fun p=>nK p.1) (kn.map fun p=>iV p.2) false⟩::⟨1,.cells [lT,.mp .S 0 1,.mp .S 1 1,c0,c1,c2,c3] 0 true⟩::ms.map fun p=>⟨1,.map (p.map fun p=>sK p.1) (p.map fun p=>nK p.2) false⟩
section
variable(lT:T)(m:List (List Nat×Nat))(kn:List (Nat×Int))(c0 c1 c2 c3:T)(ms:List (List (List Nat×Nat)))
theorem cp0:jr (pj lT m kn c0 c1 c2 c3 ms) 0=⟨1,.map (m.map fun p=>sK p.1) (m.map fun p=>nK p.2) false⟩:=nr rfl
theorem cp2:jr (pj lT m kn c0 c1 c2 c3 ms) 2=⟨1,.cells [lT,.mp .S 0 1,.mp .S 1 1,c0,c1,c2,c3] 0 true⟩:=nr rfl
theorem awp(h:List (List Nat×Nat)):jO (pj lT m kn c0 c1 c2 c3 ms) 0 ⟨1,.map (h.map fun p=>sK p.1) (h.map fun p=>nK p.2) false⟩=pj lT h kn c0 c1 c2 c3 ms:=nr rfl
theorem aaf(h D E F:T):jO (pj lT m kn c0 c1 c2 c3 ms) 2 ⟨1,.cells [lT,.mp .S 0 1,.mp .S 1 1,h,D,E,F] 0 true⟩=pj lT m kn h D E F ms:=nr rfl
theorem ap5:pj lT [] [] .nilmp .nilmp .nilmp .nilmp []= [⟨1,.map [] [] false⟩,⟨1,.map [] [] false⟩,⟨1,.cells [lT,.mp .S 0 1,.mp .S 1 1,.nilmp,.nilmp,.nilmp,.nilmp] 0 true⟩]:=nr rfl
end
section
variable(l:Cs)(lT:T)(cl:List T)(hl:IsSl lT l.length cl)(l9:kN l cl)(hlen:l.length≤oh)
include hl l9 hlen
theorem awq(fr:Fr)(lh:iz ib)(sh:List ib)(U:sh=pj lT [] [] .nilmp .nilmp .nilmp .nilmp [])
  (D:an fr 3= .ptr .S 2 1 0) (E:an fr 16=lT) (CN:an fr 17= .i .i64 (l.length:Int)) (F:an fr 18= .i .i64 0):
  rD 71 wi fr lh sh (.ext 0)∧
  (ng pE 71 wi fr lh sh=pj lT (jo l l.length) [] .nilmp .nilmp .nilmp .nilmp []):=by
 refine jc (P:=fun X Y V=>V=pj lT (jo l l.length) [] .nilmp .nilmp .nilmp .nilmp [])
  (jm (fun k st=> ∃(fr:Fr) (H:iz ib),st=⟨fr,H,pj lT (jo l k) [] .nilmp .nilmp .nilmp .nilmp []⟩∧an fr 3= .ptr .S 2 1 0∧an fr 16=lT∧an fr 17= .i .i64 (l.length:Int)∧an fr 18= .i .i64 (k:Int)) _ l.length ?_ ?_ 0 _ (Nat.zero_le _) ⟨fr,lh,by rw[U];rfl,D,E,CN,F⟩)
 ·rintro k _ J ⟨fr,H,rfl,D,E,CN,F⟩
  left
  have K:(k:Int)<l.length:=by omega
  have N:=iG (k:=k) (by omega)
  obtain⟨b,Z,r,O,kg,tK,hb⟩:=lW hl l9 k J
  have h:=lkS (jo l k) l[k].1
  rw[zS l J]
  cases I:iH (jo l k) l[k].1 with
  |some i=>
   rw[I]at h
   unfold QD at h
   simp only[qA,seval,iY,iC,kD,wi,D,E,CN,F,K,O,N,cp2,cp0,jB,h]
   refine⟨_,rfl,_,_,rfl, ?_, ?_, ?_, ?_⟩ <;> simp only[qA,seval,D,E,CN]
  |none=>
   rw[I]at h
   unfold QD at h
   have W:p6 (.one .str) (.s l[k].1) (.i .i64 (k:Int)) ((jo l k).map fun p=>sK p.1) ((jo l k).map fun p=>nK p.2)=_:=xS (kT:=sK) (vT:=nK) DT (jo l k) l[k].1 k I
   simp only[qA,seval,iY,iC,kD,wi,D,E,CN,F,K,O,N,cp2,cp0,jB,h,Aq,W,awp]
   refine⟨_,rfl,_,_,rfl, ?_, ?_, ?_, ?_⟩ <;> simp only[qA,seval,D,E,CN]
 ·rintro _ ⟨fr,H,rfl,D,E,CN,F⟩
  simp only[qA,seval,wi,CN,F,Int.lt_irrefl]
  exact⟨_,_,qH,rfl,rfl,rfl⟩
end
def QC(scope:Int):List (List Nat):=if scope=1 then iK else if scope=2 then k8 else if scope=3 then pb else []
theorem ao9:hZ pE 37 [.i .i64 1] []=some (.sl (strs iK) 11 true,[]):=jZ (m:=100) (jX (by kernel_rfl))
theorem awr:hZ pE 37 [.i .i64 2] []=some (.sl (strs k8) 25 false,[]):=jZ (m:=100) (jX (by kernel_rfl))
theorem aws:hZ pE 37 [.i .i64 3] []=some (.sl (strs pb) 7 true,[]):=jZ (m:=100) (jX (by kernel_rfl))
theorem awt:hZ pE 37 [.i .i64 0] []=some (.nilsl,[]):=jZ (m:=100) (jX (by kernel_rfl))
theorem Jn:iK.Nodup:=by decide+kernel
theorem Wa:k8.Nodup:=by decide+kernel
theorem Wb:pb.Nodup:=by decide+kernel
theorem E8{α:Type}(d:α): ∀(l:List α) (x:α),ry d l l.length x=l++ [x]
 | [],x=>rfl
 |a::l,x=>by rw[List.length_cons,ry,E8 d l x];rfl
theorem JL{α:Type}(d:α): ∀(l:List α) (x y:α),ry d (l++ [x]) l.length y=l++ [y]
 | [],x,y=>rfl
 |a::l,x,y=>by rw[List.cons_append,List.length_cons,ry,JL d l x y];rfl
section
variable(lT:T)(m:List (List Nat×Nat))(kn:List (Nat×Int))(c0 c1 c2 c3:T)(ms:List (List (List Nat×Nat)))
theorem cpL:(pj lT m kn c0 c1 c2 c3 ms).length=ms.length+3:=by unfold pj;simp
theorem cpA:jO (pj lT m kn c0 c1 c2 c3 ms) (ms.length+3) ⟨1,.map [] [] false⟩=pj lT m kn c0 c1 c2 c3 (ms++ [[]]):=by
 grind [pj,jO,ry,List.length_map,E8]
theorem cpq(p:List (List Nat×Nat)):jr (pj lT m kn c0 c1 c2 c3 (ms++ [p])) (ms.length+3)=⟨1,.map (p.map fun p=>sK p.1) (p.map fun p=>nK p.2) false⟩:=by
 grind [pj,jr,iC,List.length_map,vg]
theorem awu(p q:List (List Nat×Nat)):jO (pj lT m kn c0 c1 c2 c3 (ms++ [p])) (ms.length+3) ⟨1,.map (q.map fun p=>sK p.1) (q.map fun p=>nK p.2) false⟩=pj lT m kn c0 c1 c2 c3 (ms++ [q]):=by
 grind [pj,jO,ry,List.length_map,JL]
theorem GV(D:Nat)(E:(D=0∧c0= .mp .S (ms.length+3) 1)∨(D=1∧c1= .mp .S (ms.length+3) 1)∨(D=2∧c2= .mp .S (ms.length+3) 1)∨(D=3∧c3= .mp .S (ms.length+3) 1))(ns:List (List Nat))(J:ns.Nodup)(AO:ns.length≤100)(v:T)(N:IsSl v ns.length (strs ns))(fr:Fr)(lh:iz ib)(sh:List ib)(O:sh=pj lT m kn c0 c1 c2 c3 (ms++ [[]]))
  (F:an fr 3= .ptr .S 2 1 0) (H:an fr 8= .i .i64 (D:Int)) (EG:an fr 53=v) (Hc:an fr 54= .i .i64 (ns.length:Int)) (h:an fr 55= .i .i64 0):
  rD 71 yN fr lh sh (.ext 4)∧
  (ng pE 71 yN fr lh sh=pj lT m kn c0 c1 c2 c3 (ms++ [kK ns ns.length])):=by
 refine jc (P:=fun Z iN U=>U=pj lT m kn c0 c1 c2 c3 (ms++ [kK ns ns.length]))
  (jm (fun k st=> ∃(fr:Fr) (K:iz ib),st=⟨fr,K,pj lT m kn c0 c1 c2 c3 (ms++ [kK ns k])⟩∧an fr 3= .ptr .S 2 1 0∧an fr 8= .i .i64 (D:Int)∧an fr 53=v∧an fr 54= .i .i64 (ns.length:Int)∧an fr 55= .i .i64 (k:Int)) _ ns.length ?_ ?_ 0 _ (Nat.zero_le _) ⟨fr,lh,by rw[O];rfl,F,H,EG,Hc,h⟩)
 ·rintro k _ I ⟨fr,K,rfl,F,H,EG,Hc,h⟩
  left
  have V:(k:Int)<ns.length:=by omega
  have W:=iM (k:=k) (by omega)
  have X: ∀kk,pv v (.i kk (k:Int)) 1=some (.vp (T.s ns[k]::(strs ns).drop (k+1))):=fun kk=>by rw[N.ia (sz:=1) (by rw[CA];omega) I,Nat.mul_one,EE ns k I]
  have Y:p6 (.one .str) (.s ns[k]) (.i .i64 (k:Int)) ((kK ns k).map fun p=>sK p.1) ((kK ns k).map fun p=>nK p.2)=_:=xS (kT:=sK) (vT:=nK) DT (kK ns k) ns[k] k (V9 J I)
  rw[V8 I]
  rcases E with⟨rfl,E⟩|⟨rfl,E⟩|⟨rfl,E⟩|⟨rfl,E⟩ <;>
  (simp only[qA,seval,mf,kD,yN,F,H,EG,Hc,h,V,X,W,cp2,E,cpq,Aq,Y,awu]
   refine⟨_,rfl,_,_,rfl, ?_, ?_, ?_, ?_, ?_⟩ <;> simp only[qA,seval,F,H,EG,Hc])
 ·rintro _ ⟨fr,K,rfl,F,H,EG,Hc,h⟩
  simp only[qA,seval,yN,Hc,h,Int.lt_irrefl]
  grind
end
def Gh(lT:T)(m:List (List Nat×Nat))(kn:List (Nat×Int)):Nat→List ib
 |0=>pj lT m kn .nilmp .nilmp .nilmp .nilmp []
 |1=>pj lT m kn (.mp .S 3 1) .nilmp .nilmp .nilmp [kK [] 0]
 |2=>pj lT m kn (.mp .S 3 1) (.mp .S 4 1) .nilmp .nilmp [kK [] 0,kK iK 11]
 |3=>pj lT m kn (.mp .S 3 1) (.mp .S 4 1) (.mp .S 5 1) .nilmp [kK [] 0,kK iK 11,kK k8 25]
 |_=>pj lT m kn (.mp .S 3 1) (.mp .S 4 1) (.mp .S 5 1) (.mp .S 6 1) [kK [] 0,kK iK 11,kK k8 25,kK pb 7]
theorem agT(lT:T)(m:List (List Nat×Nat))(kn:List (Nat×Int))(fr:Fr)(lh:iz ib)(h:an fr 3= .ptr .S 2 1 0)(Kf:an fr 43= .i .i64 0):
  ∃D H,DC pE 71 oA ⟨fr,lh,Gh lT m kn 0⟩=some (.nrm,⟨D,H,Gh lT m kn 1⟩)∧an D 3= .ptr .S 2 1 0∧an D 43= .i .i64 1:=by
 have I:jO (pj lT m kn .nilmp .nilmp .nilmp .nilmp []) 3 ⟨1,.map [] [] false⟩=pj lT m kn .nilmp .nilmp .nilmp .nilmp [[]]:=cpA lT m kn .nilmp .nilmp .nilmp .nilmp []
 have Dz:(pj lT m kn .nilmp .nilmp .nilmp .nilmp []).length=3:=cpL lT m kn .nilmp .nilmp .nilmp .nilmp []
 have F:=fun fr lh sh J K h N O U=>GV lT m kn (.mp .S 3 1) .nilmp .nilmp .nilmp [] 0 (by simp) [] List.nodup_nil (by decide) .nilsl (Or.inl ⟨rfl,rfl,rfl⟩) fr lh sh J K h N O U
 change ∀fr lh sh,sh=pj lT m kn (.mp .S 3 1) .nilmp .nilmp .nilmp [[]]→an fr 3= .ptr .S 2 1 0→an fr 8= .i .i64 0→an fr 53= .nilsl→an fr 54= .i .i64 0→an fr 55= .i .i64 0→_ at F
 have E:=fun lh=>F6 (lh:=lh) (sh:=pj lT m kn .nilmp .nilmp .nilmp .nilmp [[]]) (k:=2) (g:=1) (off:=3) (m:=1) (v:= .mp .S 3 1) xQ (cp2 lT m kn .nilmp .nilmp .nilmp .nilmp [[]])
 unfold Gh
 simp only[qA,seval,mf,nl,oA,oW,h,Kf,Dz,I,E,aaf,awt,RP,F]
 first|done|refine⟨_,_,rfl, ?_, ?_⟩ <;> simp only[qA,seval,h,oW]
theorem agU(lT:T)(m:List (List Nat×Nat))(kn:List (Nat×Int))(fr:Fr)(lh:iz ib)(h:an fr 3= .ptr .S 2 1 0)(Kf:an fr 43= .i .i64 1):
  ∃D H,DC pE 71 oA ⟨fr,lh,Gh lT m kn 1⟩=some (.nrm,⟨D,H,Gh lT m kn 2⟩)∧an D 3= .ptr .S 2 1 0∧an D 43= .i .i64 2:=by
 have I:jO (pj lT m kn (.mp .S 3 1) .nilmp .nilmp .nilmp [kK [] 0]) 4 ⟨1,.map [] [] false⟩=pj lT m kn (.mp .S 3 1) .nilmp .nilmp .nilmp [kK [] 0,[]]:=cpA lT m kn (.mp .S 3 1) .nilmp .nilmp .nilmp [kK [] 0]
 have Dz:(pj lT m kn (.mp .S 3 1) .nilmp .nilmp .nilmp [kK [] 0]).length=4:=cpL lT m kn (.mp .S 3 1) .nilmp .nilmp .nilmp [kK [] 0]
 have F:=fun fr lh sh J K h N O U=>GV lT m kn (.mp .S 3 1) (.mp .S 4 1) .nilmp .nilmp [kK [] 0] 1 (by simp) iK Jn (by decide) (.sl (strs iK) 11 true) (Or.inr ⟨true,rfl⟩) fr lh sh J K h N O U
 change ∀fr lh sh,sh=pj lT m kn (.mp .S 3 1) (.mp .S 4 1) .nilmp .nilmp [kK [] 0,[]]→an fr 3= .ptr .S 2 1 0→an fr 8= .i .i64 1→an fr 53=(.sl (strs iK) 11 true)→an fr 54= .i .i64 11→an fr 55= .i .i64 0→_ at F
 have E:=fun lh=>F6 (lh:=lh) (sh:=pj lT m kn (.mp .S 3 1) .nilmp .nilmp .nilmp [kK [] 0,[]]) (k:=2) (g:=1) (off:=4) (m:=1) (v:= .mp .S 4 1) xQ (cp2 lT m kn (.mp .S 3 1) .nilmp .nilmp .nilmp [kK [] 0,[]])
 unfold Gh
 simp only[qA,seval,mf,nl,oA,oW,h,Kf,Dz,I,E,aaf,ao9,RP,F]
 first|done|refine⟨_,_,rfl, ?_, ?_⟩ <;> simp only[qA,seval,h,oW]
theorem agV(lT:T)(m:List (List Nat×Nat))(kn:List (Nat×Int))(fr:Fr)(lh:iz ib)(h:an fr 3= .ptr .S 2 1 0)(Kf:an fr 43= .i .i64 2):
  ∃D H,DC pE 71 oA ⟨fr,lh,Gh lT m kn 2⟩=some (.nrm,⟨D,H,Gh lT m kn 3⟩)∧an D 3= .ptr .S 2 1 0∧an D 43= .i .i64 3:=by
 have I:jO (pj lT m kn (.mp .S 3 1) (.mp .S 4 1) .nilmp .nilmp [kK [] 0,kK iK 11]) 5 ⟨1,.map [] [] false⟩=pj lT m kn (.mp .S 3 1) (.mp .S 4 1) .nilmp .nilmp [kK [] 0,kK iK 11,[]]:=cpA lT m kn (.mp .S 3 1) (.mp .S 4 1) .nilmp .nilmp [kK [] 0,kK iK 11]
 have Dz:(pj lT m kn (.mp .S 3 1) (.mp .S 4 1) .nilmp .nilmp [kK [] 0,kK iK 11]).length=5:=cpL lT m kn (.mp .S 3 1) (.mp .S 4 1) .nilmp .nilmp [kK [] 0,kK iK 11]
 have F:=fun fr lh sh J K h N O U=>GV lT m kn (.mp .S 3 1) (.mp .S 4 1) (.mp .S 5 1) .nilmp [kK [] 0,kK iK 11] 2 (by simp) k8 Wa (by decide) (.sl (strs k8) 25 false) (Or.inr ⟨false,rfl⟩) fr lh sh J K h N O U
 change ∀fr lh sh,sh=pj lT m kn (.mp .S 3 1) (.mp .S 4 1) (.mp .S 5 1) .nilmp [kK [] 0,kK iK 11,[]]→an fr 3= .ptr .S 2 1 0→an fr 8= .i .i64 2→an fr 53=(.sl (strs k8) 25 false)→an fr 54= .i .i64 25→an fr 55= .i .i64 0→_ at F
 have E:=fun lh=>F6 (lh:=lh) (sh:=pj lT m kn (.mp .S 3 1) (.mp .S 4 1) .nilmp .nilmp [kK [] 0,kK iK 11,[]]) (k:=2) (g:=1) (off:=5) (m:=1) (v:= .mp .S 5 1) xQ (cp2 lT m kn (.mp .S 3 1) (.mp .S 4 1) .nilmp .nilmp [kK [] 0,kK iK 11,[]])
 unfold Gh
 simp only[qA,seval,mf,nl,oA,oW,h,Kf,Dz,I,E,aaf,awr,RP,F]
 first|done|refine⟨_,_,rfl, ?_, ?_⟩ <;> simp only[qA,seval,h,oW]
theorem agW(lT:T)(m:List (List Nat×Nat))(kn:List (Nat×Int))(fr:Fr)(lh:iz ib)(h:an fr 3= .ptr .S 2 1 0)(Kf:an fr 43= .i .i64 3):
  ∃D H,DC pE 71 oA ⟨fr,lh,Gh lT m kn 3⟩=some (.nrm,⟨D,H,Gh lT m kn 4⟩)∧an D 3= .ptr .S 2 1 0∧an D 43= .i .i64 4:=by
 have I:jO (pj lT m kn (.mp .S 3 1) (.mp .S 4 1) (.mp .S 5 1) .nilmp [kK [] 0,kK iK 11,kK k8 25]) 6 ⟨1,.map [] [] false⟩=pj lT m kn (.mp .S 3 1) (.mp .S 4 1) (.mp .S 5 1) .nilmp [kK [] 0,kK iK 11,kK k8 25,[]]:=cpA lT m kn (.mp .S 3 1) (.mp .S 4 1) (.mp .S 5 1) .nilmp [kK [] 0,kK iK 11,kK k8 25]
 have Dz:(pj lT m kn (.mp .S 3 1) (.mp .S 4 1) (.mp .S 5 1) .nilmp [kK [] 0,kK iK 11,kK k8 25]).length=6:=cpL lT m kn (.mp .S 3 1) (.mp .S 4 1) (.mp .S 5 1) .nilmp [kK [] 0,kK iK 11,kK k8 25]
 have F:=fun fr lh sh J K h N O U=>GV lT m kn (.mp .S 3 1) (.mp .S 4 1) (.mp .S 5 1) (.mp .S 6 1) [kK [] 0,kK iK 11,kK k8 25] 3 (by simp) pb Wb (by decide) (.sl (strs pb) 7 true) (Or.inr ⟨true,rfl⟩) fr lh sh J K h N O U
 change ∀fr lh sh,sh=pj lT m kn (.mp .S 3 1) (.mp .S 4 1) (.mp .S 5 1) (.mp .S 6 1) [kK [] 0,kK iK 11,kK k8 25,[]]→an fr 3= .ptr .S 2 1 0→an fr 8= .i .i64 3→an fr 53=(.sl (strs pb) 7 true)→an fr 54= .i .i64 7→an fr 55= .i .i64 0→_ at F
 have E:=fun lh=>F6 (lh:=lh) (sh:=pj lT m kn (.mp .S 3 1) (.mp .S 4 1) (.mp .S 5 1) .nilmp [kK [] 0,kK iK 11,kK k8 25,[]]) (k:=2) (g:=1) (off:=6) (m:=1) (v:= .mp .S 6 1) xQ (cp2 lT m kn (.mp .S 3 1) (.mp .S 4 1) (.mp .S 5 1) .nilmp [kK [] 0,kK iK 11,kK k8 25,[]])
 unfold Gh
 simp only[qA,seval,mf,nl,oA,oW,h,Kf,Dz,I,E,aaf,aws,RP,F]
 first|done|refine⟨_,_,rfl, ?_, ?_⟩ <;> simp only[qA,seval,h,oW]
theorem awv(lT:T)(m:List (List Nat×Nat))(fr:Fr)(lh:iz ib)(sh:List ib)(J:sh=pj lT m [] .nilmp .nilmp .nilmp .nilmp [])(H:an fr 3= .ptr .S 2 1 0)(Kf:an fr 43= .i .i64 0):
  rD 71 oA fr lh sh (.ext 2)∧
  (ng pE 71 oA fr lh sh=Gh lT m [] 4):=by
 refine jc (P:=fun E F K=>K=Gh lT m [] 4)
  (jm (fun k st=> ∃(fr:Fr) (I:iz ib),st=⟨fr,I,Gh lT m [] k⟩∧an fr 3= .ptr .S 2 1 0∧an fr 43= .i .i64 (k:Int)) _ 4 ?_ ?_ 0 _ (Nat.zero_le _) ⟨fr,lh,by rw[J];rfl,H,Kf⟩)
 ·rintro k _ O ⟨fr,I,rfl,H,Kf⟩
  left
  have N:k=0∨k=1∨k=2∨k=3:=by omega
  rcases N with rfl|rfl|rfl|rfl
  ·obtain⟨E,F,h,D,LY⟩:=agT lT m [] fr I H Kf
   exact⟨_,h,E,F,rfl,D,LY⟩
  ·obtain⟨E,F,h,D,LY⟩:=agU lT m [] fr I H Kf
   exact⟨_,h,E,F,rfl,D,LY⟩
  ·obtain⟨E,F,h,D,LY⟩:=agV lT m [] fr I H Kf
   exact⟨_,h,E,F,rfl,D,LY⟩
  ·obtain⟨E,F,h,D,LY⟩:=agW lT m [] fr I H Kf
   exact⟨_,h,E,F,rfl,D,LY⟩
 ·rintro _ ⟨fr,I,rfl,H,Kf⟩
  simp only[qA,seval,oA,Kf]
  exact⟨_,_,qH,rfl,rfl,rfl⟩
section
variable(l:Cs)(lT:T)(cl:List T)(hl:IsSl lT l.length cl)(l9:kN l cl)(hlen:l.length≤oh)
include hl l9 hlen
theorem afD:hZ pE 31 [lT] []=some (.ptr .S 2 1 0,Gh lT (jo l l.length) [] 4):=by
 have h:=fun fr lh sh=>awq l lT cl hl l9 hlen fr lh sh
 have D:=fun fr lh sh=>awv lT (jo l l.length) fr lh sh
 rw[ap5]at h
 rw[im akO (by simp[c31])]
 simp only[qA,seval,nl,kD,c31,QN,QM,hl.lenI,hl.cells,hl.noTup,hl.kept1,h,D]
end
def Kb(scope:Int)(s:List Nat):Option Nat:=iH (kK (QC scope) (QC scope).length) s
theorem De{s:List Nat}: ∀{m:List (List Nat×Nat)},iH m s=none↔ ∀p∈m,p.1≠s
 | []=>by simp[iH]
 |p::m=>by
  rw[iH]
  by_cases h:s=p.1
  ·grind
  ·rw[if_neg h,De (m:=m)]
   grind
theorem aag{ns:List (List Nat)}{s:List Nat}:iH (kK ns ns.length) s=none↔s∉ns:=by
 rw[De]
 unfold kK
 rw[List.take_length]
 constructor
 ·intro h hs
  obtain⟨i,hi,e⟩:=List.getElem_of_mem hs
  exact h (ns[i],i) (List.mk_mem_zipIdx_iff_getElem?.2 (by rw[List.getElem?_eq_getElem hi])) e
 grind
theorem JM{ns:List (List Nat)}{s:List Nat}{i:Nat}: ∀{m:List (List Nat×Nat)},iH m s=some i→(s,i)∈m
 | [],h=>by simp[iH]at h
 |p::m,h=>by
  rw[iH]at h
  by_cases e:s=p.1
  ·grind
  ·rw[if_neg e]at h
   exact List.mem_cons_of_mem _ (JM (ns:=ns) h)
theorem agY{scope:Int}{s:List Nat}{i:Nat}(h:Kb scope s=some i):(QC scope)[i]? =some s:=by
 have D:=JM (ns:=QC scope) h
 grind [kK]
theorem zW(s:List Nat):pH s≠0↔s∈iK:=by
 constructor
 ·intro h
  by_cases D:s∈iK
  ·exact D
  simp_all[iK,List.mem_cons,List.not_mem_nil,pH,Zh,Zi,Zj]
 ·intro h
  simp only[iK,List.mem_cons,List.not_mem_nil,or_false]at h
  rcases h with rfl|rfl|rfl|rfl|rfl|rfl|rfl|rfl|rfl|rfl|rfl <;> decide
theorem Qk(s:List Nat):xV s≠0↔s∈pb:=by
 grind [pb,xV,MV,MW]
theorem Ql(s:List Nat):xW s≠0↔s∈k8:=by
 constructor
 ·intro h
  rw[xW]at h
  by_cases F:s= [114,101,115,116]
  ·subst F;decide
  by_cases H:s= [110,105,103,104,116,115]
  ·subst H;decide
  by_cases I:s= [104,111,109,101]
  ·subst I;decide
  rw[if_neg F,if_neg H,if_neg I]at h
  by_cases D:tj J6 s
  ·rw[if_pos D,zW]at h
   have e:s=J6++s.drop 7:=by rw[←((CC s).1 D).2,List.take_append_drop]
   rw[e]
   generalize s.drop 7=d at h
   simp only[iK,List.mem_cons,List.not_mem_nil,or_false]at h
   rcases h with rfl|rfl|rfl|rfl|rfl|rfl|rfl|rfl|rfl|rfl|rfl <;> decide
  ·rw[if_neg D]at h
   by_cases E:tj K4 s
   ·rw[if_pos E,zW]at h
    have e:s=K4++s.drop 6:=by rw[←((CD s).1 E).2,List.take_append_drop]
    rw[e]
    generalize s.drop 6=d at h
    simp only[iK,List.mem_cons,List.not_mem_nil,or_false]at h
    rcases h with rfl|rfl|rfl|rfl|rfl|rfl|rfl|rfl|rfl|rfl|rfl <;> decide
   ·rw[if_neg E]at h;exact absurd rfl h
 ·intro hs
  simp only[k8,List.mem_cons,List.not_mem_nil,or_false]at hs
  rcases hs with rfl|rfl|rfl|rfl|rfl|rfl|rfl|rfl|rfl|rfl|rfl|rfl|rfl|rfl|rfl|rfl|rfl|rfl|rfl|rfl|rfl|rfl|rfl|rfl|rfl <;> decide
theorem Qm(scope:Int)(s:List Nat):kA scope s≠0↔s∈QC scope:=by
 grind [kA,QC,zW,Ql,Qk]
theorem qy(scope:Int)(s:List Nat):Kb scope s=none↔kA scope s=0:=by
 unfold Kb
 rw[aag,←Qm]
 grind
mutual
def comp(h:List Nat→Int)(scope:Int):Ex→Fm
 | .mk op num name args=>if op=1∨op=2∨op=3 then .mk 1 num []else if op=4 then .mk 1 1 []else if op=5 then .mk 1 0 []else if op=6 then(match Kb scope name with|some i=> .mk 6 (i:Int) []|none=> .mk 1 (h name) [])else .mk op 0 (lK h scope args)
def lK(h:List Nat→Int)(scope:Int):List Ex→List Fm
 | []=> []
 |x::xs=>comp h scope x::lK h scope xs
end
theorem rm(h:List Nat→Int)(scope:Int)(x:Ex):comp h scope x=if x.op=1∨x.op=2∨x.op=3 then .mk 1 x.num []else if x.op=4 then .mk 1 1 []else if x.op=5 then .mk 1 0 []else if x.op=6 then(match Kb scope x.name with|some i=> .mk 6 (i:Int) []|none=> .mk 1 (h x.name) [])else .mk x.op 0 (lK h scope x.args):=by obtain⟨_,_,_,_⟩:=x;rw[comp];rfl
theorem p5(h:List Nat→Int)(scope:Int): ∀xs,lK h scope xs=xs.map (comp h scope)
 | []=>rfl
 |x::xs=>by simp_all[lK,p5]
def Nm(cl:List Nat→Int×Int)(scope:Int)(s:List Nat):Int×Int:=if kA scope s≠0 then(kA scope s,0)else cl s
def tW(D:List Nat→Int)(scope:Int)(h:List Int)(s:List Nat):Int:=match Kb scope s with|some i=>h.getD i 0|none=>D s
theorem Vw(cl:List Nat→Int×Int)(scope:Int)(x:Ex):x.ty cl scope=x.ty (Nm cl scope) 0:=by
 induction x using Ex.ind with
 |h x ih=>
  rw[Ex.ty_eq,Ex.ty_eq (cl:=Nm cl scope)]
  have hl:pc cl scope x.args=pc (Nm cl scope) 0 x.args:=by
   generalize x.args=xs at ih
   induction xs with
   |nil=>rfl
   |cons y E Ta=>
    rw[pc,pc,ih y (by simp),Ta fun z D=>ih z (by simp[D])]
  grind [Nm,my]
theorem ap7(cl:List Nat→Int×Int):Nm cl 0=cl:=by
 grind [Nm,my]
theorem ap8(s:List Nat):Kb 0 s=none:=(qy 0 s).2 (my s)
theorem acS(D:List Nat→Int)(h:List Int):tW D 0 h=D:=by
 grind [tW,ap8]
theorem Nn{cl:List Nat→Int×Int}{E:List Nat→Int}{scope:Int}{D:List Int}(hc:LC (Nm cl scope) (tW E scope D))(X:D.length=(QC scope).length)(x:Ex): ∀k,x.wf=true→jz x.args≤100000→x.ty cl scope=(k,0)→Kc D (comp E scope x)∧(comp E scope x).val D=x.val0 (tW E scope D)∧CX k (x.val0 (tW E scope D)):=by
 induction x using Ex.ind with
 |h x ih=>
  intro k Y hn V
  have Z:CX k (x.val0 (tW E scope D)):=by
   rw[Vw]at V
   exact(JI hc 0 (fun s=>my s) x k Y V).2
  refine and_assoc.1 ⟨?_,Z⟩
  obtain⟨h1,h2,lD,Gy,yo,AI⟩:=vC Y
  have tU:=V4 Z
  have F: ∀f v,comp E scope x=f→x.val0 (tW E scope D)=v→(bd v→Kc D f∧f.val D=v)→Kc D (comp E scope x)∧(comp E scope x).val D=x.val0 (tW E scope D):=by
   rintro f v rfl e h
   rw[e]at tU ⊢
   exact h tU
  have W: ∀n,bd n→Kc D (.mk 1 n [])∧(Fm.mk 1 n []).val D=n:=fun n N=>⟨(GR _ _).2 (.inl ⟨rfl,N⟩),by rw[Fm.val_eq];rfl⟩
  by_cases H:x.op=1∨x.op=2∨x.op=3
  ·exact F _ _ (by rw[rm,if_pos H]) (by rw[Ex.val0_eq,if_neg (by omega),if_pos H]) (W _)
  by_cases I:x.op=4
  ·exact F _ _ (by rw[rm,if_neg H,if_pos I]) (by rw[Ex.val0_eq,if_neg (by omega),if_neg H,if_pos I]) (W _)
  by_cases K:x.op=5
  ·exact F _ _ (by rw[rm,if_neg H,if_neg I,if_pos K]) (by rw[Ex.val0_eq,if_neg (by omega),if_neg H,if_neg I,if_pos K]) (W _)
  by_cases J:x.op=6
  ·cases O:Kb scope x.name with
   |none=>exact F _ _ (by rw[rm,if_neg H,if_neg I,if_neg K,if_pos J,O]) (by rw[Ex.val0_eq,if_pos J,tW,O]) (W _)
   |some i=>
    have hi:=agY O
    have qh:i<(QC scope).length:=(List.getElem?_eq_some_iff.1 hi).1
    refine F (.mk 6 (i:Int) []) (D.getD i 0) (by rw[rm,if_neg H,if_neg I,if_neg K,if_pos J,O]) (by rw[Ex.val0_eq,if_pos J,tW,O]) fun N=>⟨(GR _ _).2 (.inr (.inl ⟨rfl,Int.natCast_nonneg i, ?_,N⟩)),by rw[Fm.val_eq];rfl⟩
    show(i:Int).toNat<D.length
    rw[Int.toNat_natCast,X];exact qh
  ·refine F _ _ (by rw[rm,if_neg H,if_neg I,if_neg K,if_neg J]) (by rw[Ex.val0_eq,if_neg J,if_neg H,if_neg I,if_neg K]) fun N=> ?_
   have h7:7≤x.op:=by omega
   obtain⟨ts,U,hr,hk⟩:=vF V J
   have hlen:ts.length=x.args.length:=tq U
   have yB:=jQ x.args
   have WI:Dc D (lK E scope x.args)∧lO D (lK E scope x.args)=kj (tW E scope D) x.args∧yx ts (kj (tW E scope D) x.args):=by
    clear V lD hr Y Gy yo hlen tU Z yB F N
    generalize x.args=xs at ih U AI hn
    induction xs generalizing ts with
    |nil=>rw[pc]at U;cases U;exact⟨by rw[lK,Dc];trivial,by rw[lK,lO,kj],trivial⟩
    |cons z zs ihz=>
     obtain⟨t,us,rfl,e1,e2⟩:=sD U
     rw[wP,Bool.and_eq_true]at AI
     rw[jz]at hn
     have hz:=z.nodes_eq
     obtain⟨f1,f2,f3⟩:=ih z (by simp) t AI.1 (by omega) e1
     obtain⟨g1,g2,g3⟩:=ihz us (fun y hy=>ih y (by simp[hy])) e2 AI.2 (by omega)
     rw[lK,lO,kj,Dc,f2,g2]
     exact⟨⟨f1,g1⟩,rfl,f3,g3⟩
   obtain⟨i1,i2,i3⟩:=WI
   have l9:(lK E scope x.args).length=x.args.length:=by rw[p5,List.length_map]
   obtain⟨hv,_⟩:=Nq i3 h7 h2 (by rw[hlen];exact lD) hr hk
   refine⟨(GR _ _).2 (.inr (.inr ⟨h7,h2,by show j5 x.op (lK E scope x.args).length=true;rw[l9];exact lD,by show(lK E scope x.args).length≤oh;rw[l9];exact kI (by omega),i1,by show vOk x.op (lO D (lK E scope x.args));rw[i2];exact hv⟩)), ?_⟩
   rw[Fm.val_eq]
   show(if x.op=1 then(0:Int)else if x.op=6 then D.getD (0:Int).toNat 0 else DL x.op (lO D (lK E scope x.args)))=DL x.op (kj (tW E scope D) x.args)
   rw[if_neg (by omega),if_neg J,i2]
def lp(lT:T)(m:List (List Nat×Nat))(kn:List (Nat×Int))(R:List ib):List ib:=Gh lT m kn 4++R
section
variable(lT:T)(m:List (List Nat×Nat))(kn:List (Nat×Int))(R:List ib)
theorem ap9:jr (lp lT m kn R) 0=⟨1,.map (m.map fun p=>sK p.1) (m.map fun p=>nK p.2) false⟩:=nr rfl
theorem aqa:jr (lp lT m kn R) 1=⟨1,.map (kn.map fun p=>nK p.1) (kn.map fun p=>iV p.2) false⟩:=nr rfl
theorem GW:jr (lp lT m kn R) 2=⟨1,.cells [lT,.mp .S 0 1,.mp .S 1 1,.mp .S 3 1,.mp .S 4 1,.mp .S 5 1,.mp .S 6 1] 0 true⟩:=nr rfl
theorem aww:jr (lp lT m kn R) 3=⟨1,.map ((kK [] 0).map fun p=>sK p.1) ((kK [] 0).map fun p=>nK p.2) false⟩:=nr rfl
theorem aqb:jr (lp lT m kn R) 4=⟨1,.map ((kK iK 11).map fun p=>sK p.1) ((kK iK 11).map fun p=>nK p.2) false⟩:=nr rfl
theorem aqc:jr (lp lT m kn R) 5=⟨1,.map ((kK k8 25).map fun p=>sK p.1) ((kK k8 25).map fun p=>nK p.2) false⟩:=nr rfl
theorem aqd:jr (lp lT m kn R) 6=⟨1,.map ((kK pb 7).map fun p=>sK p.1) ((kK pb 7).map fun p=>nK p.2) false⟩:=nr rfl
theorem aqe(h:List (Nat×Int)):jO (lp lT m kn R) 1 ⟨1,.map (h.map fun p=>nK p.1) (h.map fun p=>iV p.2) false⟩=lp lT m h R:=nr rfl
end
def kOf:List ib→List (Nat×Int)
 |_::⟨_,.map ks h _⟩::_=>(ks.zip h).map fun p=>((match p.1 with| .i _ n=>n.toNat|_=>0),(match p.2 with| .i _ n=>n|_=>0))
 |_=> []
theorem agZ(lT:T)(m:List (List Nat×Nat))(R:List ib): ∀kn,kOf (lp lT m kn R)=kn:=by
 intro kn
 unfold kOf lp Gh pj
 simp only[List.cons_append]
 induction kn with
 |nil=>rfl
 |cons p kn ih=>rw[List.map_cons,List.map_cons,List.zip_cons_cons,List.map_cons,ih];obtain⟨a,b⟩:=p;simp[nK,iV]
noncomputable def kL(E:Env)(n:Nat)(a:ic)(fr:Fr)(lh:iz ib)(sh:List ib):List (Nat×Int):=kOf (ng E n a fr lh sh)
theorem acT{E:Env}{n:Nat}{a:ic}{fr:Fr}{lh:iz ib}{sh:List ib}{lT:T}{m:List (List Nat×Nat)}{R:List ib}{P:List (Nat×Int)→Prop}(h: ∃kn,ng E n a fr lh sh=lp lT m kn R∧P kn):ng E n a fr lh sh=lp lT m (kL E n a fr lh sh) R∧P (kL E n a fr lh sh):=by
 obtain⟨kn,D,F⟩:=h
 have:kL E n a fr lh sh=kn:=by unfold kL;rw[D,agZ]
 rw[this];exact⟨D,F⟩
theorem Wc{cl:List Nat→Int×Int}{scope:Int}: ∀{xs:List Ex} {ts:List Int},pc cl scope xs= .ok ts→ ∀(k:Nat) (D:k<xs.length),∃t,xs[k].ty cl scope=(t,0)
 | [],ts,h,k,D=>by simp at D
 |x::xs,ts,h,k,D=>by
  obtain⟨t,us,rfl,E,F⟩:=sD h
  cases k with
  |zero=>exact⟨t,E⟩
  |succ k=>exact Wc F k (by simpa using D)
section
variable(l:Cs)(lT:T)(R:List ib)(cl:List T)(hl:IsSl lT l.length cl)(l9:kN l cl)(hlen:l.length≤oh)
def oi(kn:List (Nat×Int)):Prop:= ∀i v,iH kn i=some v→v=(tX l l.length).getD i 0
def aqf(n:Nat)(scope:Int)(y:Ex):Prop:= ∀k kn cs,oi l kn→lv y cs→y.nodes≤200→y.wf=true→y.ty (CL l n) scope=(k,0)→
 ∃D h,hZ pE 32 [.ptr .S 2 1 0,.i .i64 scope,.agg cs] (lp lT (jo l l.length) kn R)=some (.agg D,lp lT (jo l l.length) h R)∧og (comp (mZ l) scope y) D∧oi l h∧ ∀i,n≤i→iH h i=iH kn i
def aqg(j:Nat):Prop:= ∀s t kn,lN l s=some j→Gr l s=(t,0)→oi l kn→ ∃h,hZ pE 65 [.ptr .S 2 1 0,.s s] (lp lT (jo l l.length) kn R)=some (.i .i64 (mZ l s),lp lT (jo l l.length) h R)∧oi l h∧ ∀i,j<i→iH h i=iH kn i
theorem awy(n:Nat)(scope:Int)(xs:List Ex)(ih: ∀y∈xs,aqf l lT R n scope y)(a:T)(cc:List T)(ha:IsSl a xs.length cc)(hx:jx xs cc)(hn:jz xs≤200)(sv:wP xs=true)(ts:List Int)(mV:pc (CL l n) scope xs= .ok ts)(kn:List (Nat×Int))(ph:oi l kn)(op:T)(g E:Nat)(V:ib)(fr:Fr)(lh:iz ib)(sh:List ib)(lC:sh=lp lT (jo l l.length) kn R)
  (I:an fr 0= .ptr .S 2 1 0) (J:an fr 1= .i .i64 scope) (K:an fr 9= .ptr .L 9 E 0) (B9:an fr 63=a) (E9:an fr 64= .i .i64 (xs.length:Int)) (GX:an fr 65= .i .i64 0) (N:a6 lh 6=V) (F:a6 lh 9=⟨E,.cells [op,.i .i64 0,.isl .L 60 g 0 xs.length 3] 0 true⟩) (Fa:a6 lh 60=⟨g,.cells (repl [.i .i64 0,.i .i64 0,.nilsl] xs.length) 0 false⟩):
  rD 80 sL fr lh sh (.ext 1)∧
  (a6 (lZ pE 80 sL fr lh sh) 6=V∧a6 (lZ pE 80 sL fr lh sh) 9=⟨E,.cells [op,.i .i64 0,.isl .L 60 g 0 xs.length 3] 0 true⟩∧(∃cs,a6 (lZ pE 80 sL fr lh sh) 60=⟨g,.cells cs 0 false⟩∧iT (lK (mZ l) scope xs) cs)∧
    (∃h,ng pE 80 sL fr lh sh=lp lT (jo l l.length) h R∧oi l h∧ ∀i,n≤i→iH h i=iH kn i)):=by
 refine jc (P:=fun js X jb=>a6 X 6=V∧a6 X 9=⟨E,.cells [op,.i .i64 0,.isl .L 60 g 0 xs.length 3] 0 true⟩∧(∃cs,a6 X 60=⟨g,.cells cs 0 false⟩∧iT (lK (mZ l) scope xs) cs)∧(∃h,jb=lp lT (jo l l.length) h R∧oi l h∧ ∀i,n≤i→iH h i=iH kn i))
  (jm (fun k st=> ∃(fr:Fr) (H:iz ib) (A:List T) (I4:List (Nat×Int)),st=⟨fr,H,lp lT (jo l l.length) I4 R⟩∧an fr 0= .ptr .S 2 1 0∧an fr 1= .i .i64 scope∧an fr 9= .ptr .L 9 E 0∧an fr 63=a∧an fr 64= .i .i64 (xs.length:Int)∧an fr 65= .i .i64 (k:Int)∧a6 H 6=V∧a6 H 9=⟨E,.cells [op,.i .i64 0,.isl .L 60 g 0 xs.length 3] 0 true⟩∧
    a6 H 60=⟨g,.cells (A++repl [.i .i64 0,.i .i64 0,.nilsl] (xs.length-k)) 0 false⟩∧iT (lK (mZ l) scope (xs.take k)) A∧oi l I4∧ ∀i,n≤i→iH I4 i=iH kn i) _ xs.length ?_ ?_ 0 _ (Nat.zero_le _) ⟨fr,lh,[],kn,by rw[lC],I,J,K,B9,E9,GX,N,F,by rw[Fa];rfl,by rw[List.take_zero,lK];exact iT.nil,ph,fun _ _=>rfl⟩)
 ·rintro k _ D ⟨fr,H,A,I4,rfl,I,J,K,B9,E9,GX,N,F,Fa,O,LQ,JB⟩
  left
  have iR:(k:Int)<xs.length:=by omega
  have Y:=jQ xs
  have hyk:=l8 (List.getElem_mem D)
  have hw:=iG (k:=k) (kI (by omega))
  obtain⟨b,cb,rr,iS,kg,tK,hb⟩:=nJ ha hx k D
  obtain⟨t,ht⟩:=Wc mV k D
  obtain⟨cf,MZ,iu,zj,Z4,Z5⟩:=ih xs[k] (List.getElem_mem D) t I4 _ LQ hb (by omega) (vw.1 sv _ (List.getElem_mem D)) ht
  obtain⟨W,fc,rfl,vv,MU⟩:=zj.cells
  have U:A.length=k*3:=by rw[O.len,p5];simp;omega
  generalize hy:comp (mZ l) scope xs[k]=y at*
  have WB:(A++repl [T.i .i64 0,T.i .i64 0,T.nilsl] (xs.length-k)).length=xs.length*3:=by rw[List.length_append,C8,U];simp;omega
  have Z:splice (A++repl [T.i .i64 0,T.i .i64 0,T.nilsl] (xs.length-k)) (k*3) [.i .i64 y.op,.i .i64 y.num,W]=(A++ [.i .i64 y.op,.i .i64 y.num,W])++repl [T.i .i64 0,T.i .i64 0,T.nilsl] (xs.length-(k+1)):=by
   rw[show xs.length-k=(xs.length-(k+1))+1 by omega,zR,C7 A [T.i .i64 0,T.i .i64 0,T.nilsl] _ [T.i .i64 y.op,T.i .i64 y.num,W] (k*3) U rfl]
  have agK:k*3+3≤xs.length*3:=by omega
  simp only[qA,seval,iY,iC,kD,sL,I,J,K,B9,E9,GX,F,Fa,iR,iS,hw,iu,qI,rv,kg.kept1,vv.froz1,D,WB,Z,agK]
  refine⟨_,rfl,_,_,A++ [.i .i64 y.op,.i .i64 y.num,W],MZ,rfl, ?_, ?_, ?_, ?_, ?_, ?_, ?_, ?_, ?_, ?_,Z4,fun i hi=>by rw[Z5 i hi,JB i hi]⟩
  all_goals first|(simp only[qA,seval,I,J,K,B9,E9,N,F];done)|skip
  rw[List.take_succ_eq_append_getElem D,p5,List.map_append,←p5,List.map_cons,hy]
  exact iT.append O (iT.one zj)
 ·rintro _ ⟨fr,H,A,I4,rfl,I,J,K,B9,E9,GX,N,F,Fa,O,LQ,JB⟩
  rw[Nat.sub_self,show repl [T.i .i64 0,T.i .i64 0,T.nilsl] 0= []from rfl,List.append_nil]at Fa
  rw[List.take_length]at O
  simp only[qA,seval,sL,E9,GX,Int.lt_irrefl]
  exact⟨_,_,qH,rfl,rfl,N,F,⟨A,Fa,O⟩,I4,rfl,LQ,JB⟩
end
end Go.Proofs.YtbdfboojnfinkaaGreat
