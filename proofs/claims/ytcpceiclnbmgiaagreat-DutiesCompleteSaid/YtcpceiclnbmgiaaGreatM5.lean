/- Walks of functions of the program and of the reference, and their plain laws, part 5. Conditions: the theorems' own. -/
import Derived.Test.YtcpceiclnbmgiaaGreatM4
import Derived.KernelRfl
set_option maxRecDepth 100000
set_option linter.unusedSimpArgs false
set_option linter.unusedVariables false
set_option maxHeartbeats 16000000
namespace Go.Proofs.YtcpceiclnbmgiaaGreat
open Go Go.Ev
theorem Ex.fold_eq(cl:List Nat→Int×Int)(cx:List Nat→Ex)(scope:Int)(x:Ex):x.fold cl cx scope=
  if x.op=6 then(if l6 scope x.name≠0 then x else cx x.name)
  else if x.args.isEmpty then x
  else if(rR cl cx scope x.args).all isLit then wy (x.ty cl scope).1 (Tm x.op ((rR cl cx scope x.args).map acB))
  else as1 x.op (rR cl cx scope x.args):=by obtain⟨_,_,_,_⟩:=x;rw[Ex.fold];rfl
theorem CY{cl:List Nat→Int×Int}{scope k:Int}{x:Ex}(i:x.ty cl scope=(k,0))(r:x.op≠6): ∃ts,sw cl scope x.args= .ok ts∧tV x.op ts=k∧k≠0:=by
 rw[Ex.ty_eq,if_neg r]at i
 cases hr:sw cl scope x.args with
 |error e=>
  rw[hr]at i
  have D:((0:Int),e)=(k,0):=i
  injection D with _ h0
  exact absurd h0 (Qz hr)
 |ok ts=>
  grind
theorem zY{cl:List Nat→Int×Int}{scope:Int}{x:Ex}{xs:List Ex}{ts:List Int}(h:sw cl scope (x::xs)= .ok ts): ∃t us,ts=t::us∧x.ty cl scope=(t,0)∧sw cl scope xs= .ok us:=by
 grind [sw]
theorem CZ{x:Ex}(h:x.wf=true):1≤x.op∧x.op≤22∧lJ x.op x.args.length=true∧(0≤x.num∧x.num≤Eg x.op)∧(if x.op=6 then tS x.name=true else x.name= [])∧B9 x.args=true:=by
 simp_all[Ex.wf_eq,Bool.and_eq_true,tU]
theorem alr{op:Int}{n:Nat}(i:1≤op)(r:lJ op n=true)(D:n≠0):7≤op:=by
 grind [lJ]
theorem ad4{op:Int}{n:Nat}(i:op≤22)(r:lJ op n=true)(D:n=0):op≤6:=by
 grind [lJ]
mutual
def Ex.val0(i:List Nat→Int):Ex→Int
 | .mk op num name args=>if op=6 then i name else if op=1∨op=2∨op=3 then num else if op=4 then 1 else if op=5 then 0 else Tm op (vF i args)
def vF(i:List Nat→Int):List Ex→List Int
 | []=> []
 |x::xs=>x.val0 i::vF i xs
end
theorem Ex.val0_eq(i:List Nat→Int)(x:Ex):x.val0 i=if x.op=6 then i x.name else if x.op=1∨x.op=2∨x.op=3 then x.num else if x.op=4 then 1 else if x.op=5 then 0 else Tm x.op (vF i x.args):=by obtain⟨_,_,_,_⟩:=x;rw[Ex.val0];rfl
def cxv(cl:List Nat→Int×Int)(i:List Nat→Int)(s:List Nat):Ex:=wy (cl s).1 (i s)
def Sw(cl:List Nat→Int×Int)(i:List Nat→Int):Prop:= ∀s t,cl s=(t,0)→Fh t (i s)
theorem Zm{cl:List Nat→Int×Int}{scope:Int}{x:Ex}{k:Int}(Bf:x.wf=true)(i:x.ty cl scope=(k,0))(F:x.op≠6)(r:x.args= []):x=wy k (if x.op=1∨x.op=2∨x.op=3 then x.num else if x.op=4 then 1 else 0)∧Fh k (if x.op=1∨x.op=2∨x.op=3 then x.num else if x.op=4 then 1 else 0)∧x.op≤5:=by
 obtain⟨J,H,I,On,E4,Kj⟩:=CZ Bf
 have K:x.op≤6:=ad4 H I (by rw[r];rfl)
 rw[Ex.ty_eq,if_neg F,r,sw]at i
 rw[if_neg F]at E4
 obtain⟨op,num,name,args⟩:=x
 simp only[Ex.op,Ex.num,Ex.name,Ex.args]at*
 subst E4 r
 have D:op=1∨op=2∨op=3∨op=4∨op=5:=by omega
 rcases D with rfl|rfl|rfl|rfl|rfl
 all_goals
  simp[tV]at i
  subst i
  simp[Eg]at On
 ·refine⟨?_,.inl ⟨.inl rfl, ?_⟩,by decide⟩
  ·simp[wy,nY];omega
  ·simp[bd];omega
 ·refine⟨?_,.inl ⟨.inr rfl, ?_⟩,by decide⟩
  ·simp[wy,nY];omega
  ·simp[bd];omega
 ·refine⟨?_,.inr (.inl ⟨rfl, ?_⟩),by decide⟩
  ·simp[wy,nY]
  ·simpa using On
 ·refine⟨?_,.inr (.inr ⟨rfl,.inr rfl⟩),by decide⟩
  simp[wy,nY];omega
 ·refine⟨?_,.inr (.inr ⟨rfl,.inl rfl⟩),by decide⟩
  simp[wy,nY];omega
theorem QA{cl:List Nat→Int×Int}{i:List Nat→Int}(hc:Sw cl i)(scope:Int)(K: ∀s,l6 scope s=0)(x:Ex): ∀k,x.wf=true→x.ty cl scope=(k,0)→x.fold cl (cxv cl i) scope=wy k (x.val0 i)∧Fh k (x.val0 i):=by
 induction x using Ex.ind with
 |h x ih=>
  intro k Bf r
  obtain⟨U,V,H,On,E4,Kj⟩:=CZ Bf
  rw[Ex.fold_eq,Ex.val0_eq]
  by_cases D:x.op=6
  ·rw[if_pos D,if_pos D]
   rw[Ex.ty_eq,if_pos D,if_neg (by simp[K])]at r
   rw[if_neg (by simp[K])]
   exact⟨by unfold cxv;rw[r],hc _ _ r⟩
  rw[if_neg D,if_neg D]
  by_cases I:x.args.isEmpty=true
  ·grind [Zm]
  ·rw[if_neg I]
   have N:x.args.length≠0:=by
    intro h;exact I (by simp[List.length_eq_zero_iff.1 h])
   have W:=alr U H N
   obtain⟨ts,F,hr,hk⟩:=CY r D
   have ZQ:Bp ts (vF i x.args)∧(rR cl (cxv cl i) scope x.args).all isLit=true∧(rR cl (cxv cl i) scope x.args).map acB=vF i x.args:=by
    clear r H N I hr Bf On E4
    generalize x.args=xs at ih F Kj
    induction xs generalizing ts with
    |nil=>rw[sw]at F;cases F;exact⟨trivial,rfl,rfl⟩
    |cons z zs J=>
     obtain⟨t,us,rfl,X,Y⟩:=zY F
     rw[B9,Bool.and_eq_true]at Kj
     obtain⟨Z,O⟩:=ih z (by simp) t Kj.1 X
     obtain⟨g1,g2,g3⟩:=J us (fun y hy=>ih y (by simp[hy])) Y Kj.2
     rw[rR,vF,Z]
     obtain⟨_,q1,q2⟩:=IM (scope:=scope) O
     refine⟨⟨O,g1⟩, ?_, ?_⟩
     ·rw[List.all_cons,q1,g2];rfl
     ·rw[List.map_cons,q2,g3]
   obtain⟨i1,i2,i3⟩:=ZQ
   have hlen:ts.length=x.args.length:=CQ F
   rw[if_pos i2,i3,r,if_neg (by omega),if_neg (by omega),if_neg (by omega)]
   exact⟨rfl,(agE i1 W V (by rw[hlen];exact H) hr hk).2⟩
def vxk(l:Cs)(IY:List Int)(s:List Nat):Int:=match pd l s with
 |none=>0
 |some i=>IY.getD i 0
def Fj(l:Cs):Nat→List Int
 |0=> []
 |n+1=>Fj l n++ [if(Nl (l.take n) (pQ l n) (l.getD n ([],.mk 0 0 [] [])).2).2=0 then(l.getD n ([],.mk 0 0 [] [])).2.val0 (vxk (l.take n) (Fj l n))else 0]
theorem C0(l:Cs): ∀n,(Fj l n).length=n
 |0=>rfl
 |n+1=>by rw[Fj,List.length_append,C0 l n];rfl
theorem Zn(l:Cs){n:Nat}(h:n<l.length):Fj l (n+1)=Fj l n++ [if(Nl (l.take n) (pQ l n) l[n].2).2=0 then l[n].2.val0 (vxk (l.take n) (Fj l n))else 0]:=by
 rw[Fj,List.getD_eq_getElem?_getD,List.getElem?_eq_getElem h];rfl
theorem QB(l:Cs)(n:Nat): ∀k,∃r,Fj l (n+k)=Fj l n++r
 |0=>⟨[],by simp⟩
 |k+1=>by
  obtain⟨r,h⟩:=QB l n k
  grind [Nat.add_assoc,Fj]
theorem QC(l:Cs){n i:Nat}(D:n≤l.length)(hi:i<n):(Fj l n).getD i 0=(Fj l l.length).getD i 0:=by
 obtain⟨r,h⟩:=QB l n (l.length-n)
 grind [C0,hi]
def CL(l:Cs)(n:Nat):List Nat→Int×Int:=clk (l.take n) (pQ l n)
def VX(l:Cs)(n:Nat):List Nat→Int:=vxk (l.take n) (Fj l n)
def Mm(l:Cs):List Nat→Int×Int:=clk l (pQ l l.length)
def qd(l:Cs):List Nat→Int:=vxk l (Fj l l.length)
theorem Em(l:Cs):CL l l.length=Mm l:=by grind [CL,Mm]
theorem alu(l:Cs):VX l l.length=qd l:=by grind [VX,qd]
theorem C1{l:Cs}{n:Nat}(J:n≤l.length){s:List Nat}{t:Int}(h:CL l n s=(t,0)): ∃i,∃hi:i<l.length,i<n∧pd l s=some i∧jy l[i].2=0∧l[i].2.ty (CL l i) 0=(t,0)∧Mm l s=(t,0)∧VX l n s=l[i].2.val0 (VX l i)∧qd l s=l[i].2.val0 (VX l i)∧wI l i=(t,0):=by
 unfold CL clk at h
 rw[Bg]at h
 cases D:pd l s with
 |none=>grind
 |some i=>
  rw[D]at h
  simp only at h
  by_cases hi:i<n
  ·rw[if_pos hi]at h
   simp only at h
   have H:i<l.length:=PZ D
   rw[EY l J hi]at h
   have r:wI l i=(t,0):=h
   have I:=r
   rw[Ql l H]at r
   have FE:=r
   unfold Nl at r
   by_cases F:jy l[i].2≠0
   ·rw[if_pos F]at r;injection r with _ r;exact absurd r F
   ·rw[if_neg F]at r
    have K:(Fj l l.length).getD i 0=l[i].2.val0 (VX l i):=by
     rw[←QC l (n:=i+1) (by omega) (by omega),Zn l H,List.getD_eq_getElem?_getD,List.getElem?_append_right (by rw[C0];omega),C0,Nat.sub_self,FE]
     rfl
    refine⟨i,H,hi,rfl,by simpa using F,r, ?_, ?_, ?_,I⟩
    ·unfold Mm clk;rw[D];exact h
    ·unfold VX vxk
     rw[Bg,D]
     simp only[if_pos hi]
     rw[QC l J hi,K];rfl
    ·unfold qd vxk;rw[D];exact K
  ·grind
theorem rX(s:List Nat):l6 0 s=0:=by unfold l6;rfl
theorem agG(l:Cs): ∀n,n≤l.length→Sw (CL l n) (VX l n):=by
 intro n
 induction n using Nat.strongRecOn with
 |ind n ih=>
  intro r s t hs
  obtain⟨i,H,hi,_,D,F,_,e,_⟩:=C1 r hs
  rw[e]
  exact(QA (ih i hi (by omega)) 0 (fun s=>rX s) l[i].2 t (oz D) F).2
theorem Ib(l:Cs):Sw (Mm l) (qd l):=by
 have:=agG l l.length (Nat.le_refl _)
 rwa [Em,alu]at this
theorem fold_congr{cl IA:List Nat→Int×Int}{cx i:List Nat→Ex}(scope:Int)(hc: ∀s t,cl s=(t,0)→IA s=(t,0)∧i s=cx s)(x:Ex): ∀k,x.ty cl scope=(k,0)→x.ty IA scope=(k,0)∧x.fold IA i scope=x.fold cl cx scope:=by
 induction x using Ex.ind with
 |h x ih=>
  intro k F
  by_cases H:x.op=6
  ·grind [Ex.ty_eq,Ex.fold_eq]
  ·obtain⟨ts,r,hr,hk⟩:=CY F H
   have hl:sw IA scope x.args= .ok ts∧rR IA i scope x.args=rR cl cx scope x.args:=by
    clear F hr
    generalize x.args=xs at ih r
    induction xs generalizing ts with
    |nil=>rw[sw]at r;cases r;exact⟨rfl,rfl⟩
    |cons z W D=>
     obtain⟨t,us,rfl,I,J⟩:=zY r
     obtain⟨K,N⟩:=ih z (by simp) t I
     obtain⟨O,U⟩:=D us (fun y V=>ih y (by simp[V])) J
     rw[sw,rR,rR,K,O,N,U]
     exact⟨rfl,rfl⟩
   grind [Ex.ty_eq,Ex.fold_eq]
theorem au3{l:Cs}{n:Nat}(i:n≤l.length): ∀s t,CL l n s=(t,0)→Mm l s=(t,0)∧cxv (Mm l) (qd l) s=cxv (CL l n) (VX l n) s:=fun s t hs=>by
 grind [cxv,C1]
def Zp(l:Cs)(scope:Int)(x:Ex):Ex:=x.fold (Mm l) (cxv (Mm l) (qd l)) scope
theorem L4{l:Cs}{s:List Nat}{t:Int}(h:Mm l s=(t,0)): ∃i,∃hi:i<l.length,pd l s=some i∧jy l[i].2=0∧l[i].2.ty (CL l i) 0=(t,0)∧l[i].2.ty (Mm l) 0=(t,0)∧Zp l 0 l[i].2=wy t (qd l s)∧Fh t (qd l s)∧wI l i=(t,0)∧qd l s=(Fj l l.length).getD i 0:=by
 have F:=h
 rw[←Em]at F
 obtain⟨i,r,hi,H,I,D,N,O,J,K⟩:=C1 (Nat.le_refl _) F
 obtain⟨c1,c2⟩:=fold_congr 0 (au3 (Nat.le_of_lt r)) l[i].2 t D
 refine⟨i,r,H,I,D,c1, ?_,Ib l s t h,K, ?_⟩
 ·unfold Zp
  rw[c2,(QA (agG l i (Nat.le_of_lt r)) 0 (fun s=>rX s) l[i].2 t (oz I) D).1,J]
 ·unfold qd vxk;rw[H]
def kW(ns:List (List Nat))(i:Nat):List (List Nat×Nat):=(ns.take i).zipIdx
theorem Zq{ns:List (List Nat)}{i:Nat}(hi:i<ns.length):kW ns (i+1)=kW ns i++ [(ns[i],i)]:=by
 unfold kW
 rw[List.take_succ_eq_append_getElem hi,List.zipIdx_append]
 simp[List.length_take,Nat.min_eq_left (Nat.le_of_lt hi)]
theorem Zr{ns:List (List Nat)}(D:ns.Nodup){i:Nat}(hi:i<ns.length):iJ (kW ns i) ns[i]=none:=by
 have F: ∀(m:List (List Nat×Nat)) (s:List Nat),(∀p∈m,p.1≠s)→iJ m s=none:=by
  intro m s h
  induction m with
  |nil=>rfl
  |cons p m ih=>
   rw[iJ,if_neg (fun e=>h p (List.mem_cons_self ..) e.symm)]
   exact ih fun q I=>h q (List.mem_cons_of_mem _ I)
 refine F _ _ fun p J e=> ?_
 have H:p.1∈ns.take i:=List.fst_mem_of_mem_zipIdx J
 rw[e]at H
 obtain⟨j,K,r⟩:=List.getElem_of_mem H
 rw[List.length_take]at K
 rw[List.getElem_take]at r
 exact List.pairwise_iff_getElem.1 D j i (by omega) hi (by omega) r
def pX(lT:T)(m:List (List Nat×Nat))(kn:List (Nat×Int))(c0 c1 c2 c3:T)(ms:List (List (List Nat×Nat))):List b8:=
 ⟨1,.map (m.map fun p=>sK p.1) (m.map fun p=>nK p.2) false⟩::⟨1,.map (kn.map fun p=>nK p.1) (kn.map fun p=>iV p.2) false⟩::⟨1,.cells [lT,.mp .S 0 1,.mp .S 1 1,c0,c1,c2,c3] 0 true⟩::ms.map fun p=>⟨1,.map (p.map fun p=>sK p.1) (p.map fun p=>nK p.2) false⟩
section
variable(lT:T)(m:List (List Nat×Nat))(kn:List (Nat×Int))(c0 c1 c2 c3:T)(ms:List (List (List Nat×Nat)))
theorem cp0:iz (pX lT m kn c0 c1 c2 c3 ms) 0=⟨1,.map (m.map fun p=>sK p.1) (m.map fun p=>nK p.2) false⟩:=nr rfl
theorem cp2:iz (pX lT m kn c0 c1 c2 c3 ms) 2=⟨1,.cells [lT,.mp .S 0 1,.mp .S 1 1,c0,c1,c2,c3] 0 true⟩:=nr rfl
theorem aCf(i:List (List Nat×Nat)):iH (pX lT m kn c0 c1 c2 c3 ms) 0 ⟨1,.map (i.map fun p=>sK p.1) (i.map fun p=>nK p.2) false⟩=pX lT i kn c0 c1 c2 c3 ms:=nr rfl
theorem ad5(i r D F:T):iH (pX lT m kn c0 c1 c2 c3 ms) 2 ⟨1,.cells [lT,.mp .S 0 1,.mp .S 1 1,i,r,D,F] 0 true⟩=pX lT m kn i r D F ms:=nr rfl
theorem au4:pX lT [] [] .nilmp .nilmp .nilmp .nilmp []= [⟨1,.map [] [] false⟩,⟨1,.map [] [] false⟩,⟨1,.cells [lT,.mp .S 0 1,.mp .S 1 1,.nilmp,.nilmp,.nilmp,.nilmp] 0 true⟩]:=nr rfl
end
section
variable(l:Cs)(lT:T)(cl:List T)(hl:IsSl lT l.length cl)(mJ:mh l cl)(hlen:l.length≤qK)
include hl mJ hlen
theorem aCg(fr:Fr)(lh:iq b8)(sh:List b8)(W:sh=pX lT [] [] .nilmp .nilmp .nilmp .nilmp [])
  (F:an fr 3= .ptr .S 2 1 0) (H:an fr 16=lT) (D:an fr 17= .i .i64 (l.length:Int)) (I:an fr 18= .i .i64 0):
  wS 71 xc fr lh sh (.ext 0)∧
  (oH pE 71 xc fr lh sh=pX lT (jt l l.length) [] .nilmp .nilmp .nilmp .nilmp []):=by
 refine jJ (P:=fun Z iR X=>X=pX lT (jt l l.length) [] .nilmp .nilmp .nilmp .nilmp [])
  (j6 (fun k st=> ∃(fr:Fr) (K:iq b8),st=⟨fr,K,pX lT (jt l k) [] .nilmp .nilmp .nilmp .nilmp []⟩∧an fr 3= .ptr .S 2 1 0∧an fr 16=lT∧an fr 17= .i .i64 (l.length:Int)∧an fr 18= .i .i64 (k:Int)) _ l.length ?_ ?_ 0 _ (Nat.zero_le _) ⟨fr,lh,by rw[W];rfl,F,H,D,I⟩)
 ·rintro k _ hk ⟨fr,K,rfl,F,H,D,I⟩
  left
  have O:(k:Int)<l.length:=by omega
  have U:=ji (k:=k) (by omega)
  obtain⟨b,cb,r,V,m9,sx,hb⟩:=oE hl mJ k hk
  have J:=lkS (jt l k) l[k].1
  rw[Bk l hk]
  cases N:iJ (jt l k) l[k].1 with
  |some i=>
   rw[N]at J
   unfold TD at J
   simp only[qA,seval,jI,iE,j3,xc,F,H,D,I,O,V,U,cp2,cp0,jF,J]
   refine⟨_,rfl,_,_,rfl, ?_, ?_, ?_, ?_⟩ <;> simp only[qA,seval,F,H,D]
  |none=>
   rw[N]at J
   unfold TD at J
   have Y:qN (.one .str) (.s l[k].1) (.i .i64 (k:Int)) ((jt l k).map fun p=>sK p.1) ((jt l k).map fun p=>nK p.2)=_:=zq (kT:=sK) (vT:=nK) FQ (jt l k) l[k].1 k N
   simp only[qA,seval,jI,iE,j3,xc,F,H,D,I,O,V,U,cp2,cp0,jF,J,BN,Y,aCf]
   refine⟨_,rfl,_,_,rfl, ?_, ?_, ?_, ?_⟩ <;> simp only[qA,seval,F,H,D]
 ·rintro _ ⟨fr,K,rfl,F,H,D,I⟩
  simp only[qA,seval,xc,D,I,Int.lt_irrefl]
  exact⟨_,_,uO,rfl,rfl,rfl⟩
end
def TA(scope:Int):List (List Nat):=if scope=1 then kb else if scope=2 then mD else if scope=3 then qY else []
theorem aCh:be pE 93 [.i .i64 1] []=some (.sl (strs kb) 11 true,[]):=mX (m:=100) (mS (by kernel_rfl))
theorem aCi:be pE 93 [.i .i64 2] []=some (.sl (strs mD) 25 false,[]):=mX (m:=100) (mS (by kernel_rfl))
theorem aCj:be pE 93 [.i .i64 3] []=some (.sl (strs qY) 7 true,[]):=mX (m:=100) (mS (by kernel_rfl))
theorem aCk:be pE 93 [.i .i64 0] []=some (.nilsl,[]):=mX (m:=100) (mS (by kernel_rfl))
theorem Zs:kb.Nodup:=by decide+kernel
theorem Zt:mD.Nodup:=by decide+kernel
theorem Zu:qY.Nodup:=by decide+kernel
theorem Hc{α:Type}(d:α): ∀(l:List α) (x:α),sa d l l.length x=l++ [x]
 | [],x=>rfl
 |a::l,x=>by rw[List.length_cons,sa,Hc d l x];rfl
theorem L5{α:Type}(d:α): ∀(l:List α) (x y:α),sa d (l++ [x]) l.length y=l++ [y]
 | [],x,y=>rfl
 |a::l,x,y=>by rw[List.cons_append,List.length_cons,sa,L5 d l x y];rfl
section
variable(lT:T)(m:List (List Nat×Nat))(kn:List (Nat×Int))(c0 c1 c2 c3:T)(ms:List (List (List Nat×Nat)))
theorem cpL:(pX lT m kn c0 c1 c2 c3 ms).length=ms.length+3:=by unfold pX;simp
theorem cpA:iH (pX lT m kn c0 c1 c2 c3 ms) (ms.length+3) ⟨1,.map [] [] false⟩=pX lT m kn c0 c1 c2 c3 (ms++ [[]]):=by
 grind [pX,iH,sa,List.length_map,Hc]
theorem cpq(p:List (List Nat×Nat)):iz (pX lT m kn c0 c1 c2 c3 (ms++ [p])) (ms.length+3)=⟨1,.map (p.map fun p=>sK p.1) (p.map fun p=>nK p.2) false⟩:=by
 grind [pX,iz,iE,List.length_map,vU]
theorem aCl(p q:List (List Nat×Nat)):iH (pX lT m kn c0 c1 c2 c3 (ms++ [p])) (ms.length+3) ⟨1,.map (q.map fun p=>sK p.1) (q.map fun p=>nK p.2) false⟩=pX lT m kn c0 c1 c2 c3 (ms++ [q]):=by
 grind [pX,iH,sa,List.length_map,L5]
theorem IN(D:Nat)(hc:(D=0∧c0= .mp .S (ms.length+3) 1)∨(D=1∧c1= .mp .S (ms.length+3) 1)∨(D=2∧c2= .mp .S (ms.length+3) 1)∨(D=3∧c3= .mp .S (ms.length+3) 1))(ns:List (List Nat))(K:ns.Nodup)(ux:ns.length≤100)(v:T)(O:IsSl v ns.length (strs ns))(fr:Fr)(lh:iq b8)(sh:List b8)(U:sh=pX lT m kn c0 c1 c2 c3 (ms++ [[]]))
  (H:an fr 3= .ptr .S 2 1 0) (I:an fr 8= .i .i64 (D:Int)) (J:an fr 53=v) (F:an fr 54= .i .i64 (ns.length:Int)) (r:an fr 55= .i .i64 0):
  wS 71 Aq fr lh sh (.ext 4)∧
  (oH pE 71 Aq fr lh sh=pX lT m kn c0 c1 c2 c3 (ms++ [kW ns ns.length])):=by
 refine jJ (P:=fun jO iR V=>V=pX lT m kn c0 c1 c2 c3 (ms++ [kW ns ns.length]))
  (j6 (fun k st=> ∃(fr:Fr) (N:iq b8),st=⟨fr,N,pX lT m kn c0 c1 c2 c3 (ms++ [kW ns k])⟩∧an fr 3= .ptr .S 2 1 0∧an fr 8= .i .i64 (D:Int)∧an fr 53=v∧an fr 54= .i .i64 (ns.length:Int)∧an fr 55= .i .i64 (k:Int)) _ ns.length ?_ ?_ 0 _ (Nat.zero_le _) ⟨fr,lh,by rw[U];rfl,H,I,J,F,r⟩)
 ·rintro k _ hk ⟨fr,N,rfl,H,I,J,F,r⟩
  left
  have W:(k:Int)<ns.length:=by omega
  have X:=iN (k:=k) (by omega)
  have Y: ∀kk,lY v (.i kk (k:Int)) 1=some (.vp (T.s ns[k]::(strs ns).drop (k+1))):=fun kk=>by rw[O.ia (sz:=1) (by rw[KR];omega) hk,Nat.mul_one,Sd ns k hk]
  have Z:qN (.one .str) (.s ns[k]) (.i .i64 (k:Int)) ((kW ns k).map fun p=>sK p.1) ((kW ns k).map fun p=>nK p.2)=_:=zq (kT:=sK) (vT:=nK) FQ (kW ns k) ns[k] k (Zr K hk)
  rw[Zq hk]
  rcases hc with⟨rfl,hc⟩|⟨rfl,hc⟩|⟨rfl,hc⟩|⟨rfl,hc⟩ <;>
  (simp only[qA,seval,k9,j3,Aq,H,I,J,F,r,W,Y,X,cp2,hc,cpq,BN,Z,aCl]
   refine⟨_,rfl,_,_,rfl, ?_, ?_, ?_, ?_, ?_⟩ <;> simp only[qA,seval,H,I,J,F])
 ·rintro _ ⟨fr,N,rfl,H,I,J,F,r⟩
  simp only[qA,seval,Aq,F,r,Int.lt_irrefl]
  grind
end
def H3(lT:T)(m:List (List Nat×Nat))(kn:List (Nat×Int)):Nat→List b8
 |0=>pX lT m kn .nilmp .nilmp .nilmp .nilmp []
 |1=>pX lT m kn (.mp .S 3 1) .nilmp .nilmp .nilmp [kW [] 0]
 |2=>pX lT m kn (.mp .S 3 1) (.mp .S 4 1) .nilmp .nilmp [kW [] 0,kW kb 11]
 |3=>pX lT m kn (.mp .S 3 1) (.mp .S 4 1) (.mp .S 5 1) .nilmp [kW [] 0,kW kb 11,kW mD 25]
 |_=>pX lT m kn (.mp .S 3 1) (.mp .S 4 1) (.mp .S 5 1) (.mp .S 6 1) [kW [] 0,kW kb 11,kW mD 25,kW qY 7]
theorem alw(lT:T)(m:List (List Nat×Nat))(kn:List (Nat×Int))(fr:Fr)(lh:iq b8)(r:an fr 3= .ptr .S 2 1 0)(Ms:an fr 43= .i .i64 0):
  ∃D H,DC pE 71 oR ⟨fr,lh,H3 lT m kn 0⟩=some (.nrm,⟨D,H,H3 lT m kn 1⟩)∧an D 3= .ptr .S 2 1 0∧an D 43= .i .i64 1:=by
 have I:iH (pX lT m kn .nilmp .nilmp .nilmp .nilmp []) 3 ⟨1,.map [] [] false⟩=pX lT m kn .nilmp .nilmp .nilmp .nilmp [[]]:=cpA lT m kn .nilmp .nilmp .nilmp .nilmp []
 have J:(pX lT m kn .nilmp .nilmp .nilmp .nilmp []).length=3:=cpL lT m kn .nilmp .nilmp .nilmp .nilmp []
 have F:=fun fr lh sh K N r O U V=>IN lT m kn (.mp .S 3 1) .nilmp .nilmp .nilmp [] 0 (by simp) [] List.nodup_nil (by decide) .nilsl (Or.inl ⟨rfl,rfl,rfl⟩) fr lh sh K N r O U V
 change ∀fr lh sh,sh=pX lT m kn (.mp .S 3 1) .nilmp .nilmp .nilmp [[]]→an fr 3= .ptr .S 2 1 0→an fr 8= .i .i64 0→an fr 53= .nilsl→an fr 54= .i .i64 0→an fr 55= .i .i64 0→_ at F
 have W:=fun lh=>nP (lh:=lh) (sh:=pX lT m kn .nilmp .nilmp .nilmp .nilmp [[]]) (k:=2) (g:=1) (off:=3) (m:=1) (v:= .mp .S 3 1) zl (cp2 lT m kn .nilmp .nilmp .nilmp .nilmp [[]])
 unfold H3
 simp only[qA,seval,k9,jl,oR,pG,r,Ms,J,I,W,ad5,aCk,aap,F]
 first|done|refine⟨_,_,rfl, ?_, ?_⟩ <;> simp only[qA,seval,r,pG]
theorem alx(lT:T)(m:List (List Nat×Nat))(kn:List (Nat×Int))(fr:Fr)(lh:iq b8)(r:an fr 3= .ptr .S 2 1 0)(Ms:an fr 43= .i .i64 1):
  ∃D H,DC pE 71 oR ⟨fr,lh,H3 lT m kn 1⟩=some (.nrm,⟨D,H,H3 lT m kn 2⟩)∧an D 3= .ptr .S 2 1 0∧an D 43= .i .i64 2:=by
 have I:iH (pX lT m kn (.mp .S 3 1) .nilmp .nilmp .nilmp [kW [] 0]) 4 ⟨1,.map [] [] false⟩=pX lT m kn (.mp .S 3 1) .nilmp .nilmp .nilmp [kW [] 0,[]]:=cpA lT m kn (.mp .S 3 1) .nilmp .nilmp .nilmp [kW [] 0]
 have J:(pX lT m kn (.mp .S 3 1) .nilmp .nilmp .nilmp [kW [] 0]).length=4:=cpL lT m kn (.mp .S 3 1) .nilmp .nilmp .nilmp [kW [] 0]
 have F:=fun fr lh sh K N r O U V=>IN lT m kn (.mp .S 3 1) (.mp .S 4 1) .nilmp .nilmp [kW [] 0] 1 (by simp) kb Zs (by decide) (.sl (strs kb) 11 true) (Or.inr ⟨true,rfl⟩) fr lh sh K N r O U V
 change ∀fr lh sh,sh=pX lT m kn (.mp .S 3 1) (.mp .S 4 1) .nilmp .nilmp [kW [] 0,[]]→an fr 3= .ptr .S 2 1 0→an fr 8= .i .i64 1→an fr 53=(.sl (strs kb) 11 true)→an fr 54= .i .i64 11→an fr 55= .i .i64 0→_ at F
 have W:=fun lh=>nP (lh:=lh) (sh:=pX lT m kn (.mp .S 3 1) .nilmp .nilmp .nilmp [kW [] 0,[]]) (k:=2) (g:=1) (off:=4) (m:=1) (v:= .mp .S 4 1) zl (cp2 lT m kn (.mp .S 3 1) .nilmp .nilmp .nilmp [kW [] 0,[]])
 unfold H3
 simp only[qA,seval,k9,jl,oR,pG,r,Ms,J,I,W,ad5,aCh,aap,F]
 first|done|refine⟨_,_,rfl, ?_, ?_⟩ <;> simp only[qA,seval,r,pG]
theorem aly(lT:T)(m:List (List Nat×Nat))(kn:List (Nat×Int))(fr:Fr)(lh:iq b8)(r:an fr 3= .ptr .S 2 1 0)(Ms:an fr 43= .i .i64 2):
  ∃D H,DC pE 71 oR ⟨fr,lh,H3 lT m kn 2⟩=some (.nrm,⟨D,H,H3 lT m kn 3⟩)∧an D 3= .ptr .S 2 1 0∧an D 43= .i .i64 3:=by
 have I:iH (pX lT m kn (.mp .S 3 1) (.mp .S 4 1) .nilmp .nilmp [kW [] 0,kW kb 11]) 5 ⟨1,.map [] [] false⟩=pX lT m kn (.mp .S 3 1) (.mp .S 4 1) .nilmp .nilmp [kW [] 0,kW kb 11,[]]:=cpA lT m kn (.mp .S 3 1) (.mp .S 4 1) .nilmp .nilmp [kW [] 0,kW kb 11]
 have J:(pX lT m kn (.mp .S 3 1) (.mp .S 4 1) .nilmp .nilmp [kW [] 0,kW kb 11]).length=5:=cpL lT m kn (.mp .S 3 1) (.mp .S 4 1) .nilmp .nilmp [kW [] 0,kW kb 11]
 have F:=fun fr lh sh K N r O U V=>IN lT m kn (.mp .S 3 1) (.mp .S 4 1) (.mp .S 5 1) .nilmp [kW [] 0,kW kb 11] 2 (by simp) mD Zt (by decide) (.sl (strs mD) 25 false) (Or.inr ⟨false,rfl⟩) fr lh sh K N r O U V
 change ∀fr lh sh,sh=pX lT m kn (.mp .S 3 1) (.mp .S 4 1) (.mp .S 5 1) .nilmp [kW [] 0,kW kb 11,[]]→an fr 3= .ptr .S 2 1 0→an fr 8= .i .i64 2→an fr 53=(.sl (strs mD) 25 false)→an fr 54= .i .i64 25→an fr 55= .i .i64 0→_ at F
 have W:=fun lh=>nP (lh:=lh) (sh:=pX lT m kn (.mp .S 3 1) (.mp .S 4 1) .nilmp .nilmp [kW [] 0,kW kb 11,[]]) (k:=2) (g:=1) (off:=5) (m:=1) (v:= .mp .S 5 1) zl (cp2 lT m kn (.mp .S 3 1) (.mp .S 4 1) .nilmp .nilmp [kW [] 0,kW kb 11,[]])
 unfold H3
 simp only[qA,seval,k9,jl,oR,pG,r,Ms,J,I,W,ad5,aCi,aap,F]
 first|done|refine⟨_,_,rfl, ?_, ?_⟩ <;> simp only[qA,seval,r,pG]
theorem alz(lT:T)(m:List (List Nat×Nat))(kn:List (Nat×Int))(fr:Fr)(lh:iq b8)(r:an fr 3= .ptr .S 2 1 0)(Ms:an fr 43= .i .i64 3):
  ∃D H,DC pE 71 oR ⟨fr,lh,H3 lT m kn 3⟩=some (.nrm,⟨D,H,H3 lT m kn 4⟩)∧an D 3= .ptr .S 2 1 0∧an D 43= .i .i64 4:=by
 have I:iH (pX lT m kn (.mp .S 3 1) (.mp .S 4 1) (.mp .S 5 1) .nilmp [kW [] 0,kW kb 11,kW mD 25]) 6 ⟨1,.map [] [] false⟩=pX lT m kn (.mp .S 3 1) (.mp .S 4 1) (.mp .S 5 1) .nilmp [kW [] 0,kW kb 11,kW mD 25,[]]:=cpA lT m kn (.mp .S 3 1) (.mp .S 4 1) (.mp .S 5 1) .nilmp [kW [] 0,kW kb 11,kW mD 25]
 have J:(pX lT m kn (.mp .S 3 1) (.mp .S 4 1) (.mp .S 5 1) .nilmp [kW [] 0,kW kb 11,kW mD 25]).length=6:=cpL lT m kn (.mp .S 3 1) (.mp .S 4 1) (.mp .S 5 1) .nilmp [kW [] 0,kW kb 11,kW mD 25]
 have F:=fun fr lh sh K N r O U V=>IN lT m kn (.mp .S 3 1) (.mp .S 4 1) (.mp .S 5 1) (.mp .S 6 1) [kW [] 0,kW kb 11,kW mD 25] 3 (by simp) qY Zu (by decide) (.sl (strs qY) 7 true) (Or.inr ⟨true,rfl⟩) fr lh sh K N r O U V
 change ∀fr lh sh,sh=pX lT m kn (.mp .S 3 1) (.mp .S 4 1) (.mp .S 5 1) (.mp .S 6 1) [kW [] 0,kW kb 11,kW mD 25,[]]→an fr 3= .ptr .S 2 1 0→an fr 8= .i .i64 3→an fr 53=(.sl (strs qY) 7 true)→an fr 54= .i .i64 7→an fr 55= .i .i64 0→_ at F
 have W:=fun lh=>nP (lh:=lh) (sh:=pX lT m kn (.mp .S 3 1) (.mp .S 4 1) (.mp .S 5 1) .nilmp [kW [] 0,kW kb 11,kW mD 25,[]]) (k:=2) (g:=1) (off:=6) (m:=1) (v:= .mp .S 6 1) zl (cp2 lT m kn (.mp .S 3 1) (.mp .S 4 1) (.mp .S 5 1) .nilmp [kW [] 0,kW kb 11,kW mD 25,[]])
 unfold H3
 simp only[qA,seval,k9,jl,oR,pG,r,Ms,J,I,W,ad5,aCj,aap,F]
 first|done|refine⟨_,_,rfl, ?_, ?_⟩ <;> simp only[qA,seval,r,pG]
theorem aCm(lT:T)(m:List (List Nat×Nat))(fr:Fr)(lh:iq b8)(sh:List b8)(J:sh=pX lT m [] .nilmp .nilmp .nilmp .nilmp [])(H:an fr 3= .ptr .S 2 1 0)(Ms:an fr 43= .i .i64 0):
  wS 71 oR fr lh sh (.ext 2)∧
  (oH pE 71 oR fr lh sh=H3 lT m [] 4):=by
 refine jJ (P:=fun D F K=>K=H3 lT m [] 4)
  (j6 (fun k st=> ∃(fr:Fr) (I:iq b8),st=⟨fr,I,H3 lT m [] k⟩∧an fr 3= .ptr .S 2 1 0∧an fr 43= .i .i64 (k:Int)) _ 4 ?_ ?_ 0 _ (Nat.zero_le _) ⟨fr,lh,by rw[J];rfl,H,Ms⟩)
 ·rintro k _ hk ⟨fr,I,rfl,H,Ms⟩
  left
  have hc:k=0∨k=1∨k=2∨k=3:=by omega
  rcases hc with rfl|rfl|rfl|rfl
  ·obtain⟨D,F,h,r,Oo⟩:=alw lT m [] fr I H Ms
   exact⟨_,h,D,F,rfl,r,Oo⟩
  ·obtain⟨D,F,h,r,Oo⟩:=alx lT m [] fr I H Ms
   exact⟨_,h,D,F,rfl,r,Oo⟩
  ·obtain⟨D,F,h,r,Oo⟩:=aly lT m [] fr I H Ms
   exact⟨_,h,D,F,rfl,r,Oo⟩
  ·obtain⟨D,F,h,r,Oo⟩:=alz lT m [] fr I H Ms
   exact⟨_,h,D,F,rfl,r,Oo⟩
 ·rintro _ ⟨fr,I,rfl,H,Ms⟩
  simp only[qA,seval,oR,Ms]
  exact⟨_,_,uO,rfl,rfl,rfl⟩
section
variable(l:Cs)(lT:T)(cl:List T)(hl:IsSl lT l.length cl)(mJ:mh l cl)(hlen:l.length≤qK)
include hl mJ hlen
theorem ajf:be pE 51 [lT] []=some (.ptr .S 2 1 0,H3 lT (jt l l.length) [] 4):=by
 have i:=fun fr lh sh=>aCg l lT cl hl mJ hlen fr lh sh
 have r:=fun fr lh sh=>aCm lT (jt l l.length) fr lh sh
 rw[au4]at i
 rw[il apQ (by simp[c51])]
 simp only[qA,seval,jl,j3,c51,TS,TR,hl.lenI,hl.cells,hl.noTup,hl.kept1,i,r]
end
def PH(scope:Int)(s:List Nat):Option Nat:=iJ (kW (TA scope) (TA scope).length) s
theorem E5{s:List Nat}: ∀{m:List (List Nat×Nat)},iJ m s=none↔ ∀p∈m,p.1≠s
 | []=>by simp[iJ]
 |p::m=>by
  rw[iJ]
  by_cases h:s=p.1
  ·grind
  ·rw[if_neg h,E5 (m:=m)]
   grind
theorem ad6{ns:List (List Nat)}{s:List Nat}:iJ (kW ns ns.length) s=none↔s∉ns:=by
 rw[E5]
 unfold kW
 rw[List.take_length]
 constructor
 ·intro h hs
  obtain⟨i,hi,e⟩:=List.getElem_of_mem hs
  exact h (ns[i],i) (List.mk_mem_zipIdx_iff_getElem?.2 (by rw[List.getElem?_eq_getElem hi])) e
 grind
theorem L6{ns:List (List Nat)}{s:List Nat}{i:Nat}: ∀{m:List (List Nat×Nat)},iJ m s=some i→(s,i)∈m
 | [],h=>by simp[iJ]at h
 |p::m,h=>by
  rw[iJ]at h
  by_cases e:s=p.1
  ·grind
  ·rw[if_neg e]at h
   exact List.mem_cons_of_mem _ (L6 (ns:=ns) h)
theorem alB{scope:Int}{s:List Nat}{i:Nat}(h:PH scope s=some i):(TA scope)[i]? =some s:=by
 have r:=L6 (ns:=TA scope) h
 grind [kW]
theorem Bq(s:List Nat):zt s≠0↔s∈kb:=by
 constructor
 ·intro h
  by_cases i:s∈kb
  ·exact i
  simp_all[kb,List.mem_cons,List.not_mem_nil,zt,ai2,ai3,ai4]
 ·intro h
  simp only[kb,List.mem_cons,List.not_mem_nil,or_false]at h
  rcases h with rfl|rfl|rfl|rfl|rfl|rfl|rfl|rfl|rfl|rfl|rfl <;> decide
theorem S8(s:List Nat):GH s≠0↔s∈qY:=by
 grind [qY,GH,W6,W7]
theorem S9(s:List Nat):GI s≠0↔s∈mD:=by
 constructor
 ·intro h
  rw[GI]at h
  by_cases D:s= [114,101,115,116]
  ·subst D;decide
  by_cases F:s= [110,105,103,104,116,115]
  ·subst F;decide
  by_cases H:s= [104,111,109,101]
  ·subst H;decide
  rw[if_neg D,if_neg F,if_neg H]at h
  by_cases i:uZ W9 s
  ·rw[if_pos i,Bq]at h
   have e:s=W9++s.drop 7:=by rw[←((Xc s).1 i).2,List.take_append_drop]
   rw[e]
   generalize s.drop 7=d at h
   simp only[kb,List.mem_cons,List.not_mem_nil,or_false]at h
   rcases h with rfl|rfl|rfl|rfl|rfl|rfl|rfl|rfl|rfl|rfl|rfl <;> decide
  ·rw[if_neg i]at h
   by_cases r:uZ ZT s
   ·rw[if_pos r,Bq]at h
    have e:s=ZT++s.drop 6:=by rw[←((Xd s).1 r).2,List.take_append_drop]
    rw[e]
    generalize s.drop 6=d at h
    simp only[kb,List.mem_cons,List.not_mem_nil,or_false]at h
    rcases h with rfl|rfl|rfl|rfl|rfl|rfl|rfl|rfl|rfl|rfl|rfl <;> decide
   ·rw[if_neg r]at h;exact absurd rfl h
 ·intro hs
  simp only[mD,List.mem_cons,List.not_mem_nil,or_false]at hs
  rcases hs with rfl|rfl|rfl|rfl|rfl|rfl|rfl|rfl|rfl|rfl|rfl|rfl|rfl|rfl|rfl|rfl|rfl|rfl|rfl|rfl|rfl|rfl|rfl|rfl|rfl <;> decide
theorem Ta(scope:Int)(s:List Nat):l6 scope s≠0↔s∈TA scope:=by
 grind [l6,TA,Bq,S9,S8]
theorem vh(scope:Int)(s:List Nat):PH scope s=none↔l6 scope s=0:=by
 unfold PH
 rw[ad6,←Ta]
 grind
mutual
def comp(r:List Nat→Int)(scope:Int):Ex→Fm
 | .mk op num name args=>if op=1∨op=2∨op=3 then .mk 1 num []else if op=4 then .mk 1 1 []else if op=5 then .mk 1 0 []else if op=6 then(match PH scope name with|some i=> .mk 6 (i:Int) []|none=> .mk 1 (r name) [])else .mk op 0 (l7 r scope args)
def l7(i:List Nat→Int)(scope:Int):List Ex→List Fm
 | []=> []
 |x::xs=>comp i scope x::l7 i scope xs
end
theorem rY(r:List Nat→Int)(scope:Int)(x:Ex):comp r scope x=if x.op=1∨x.op=2∨x.op=3 then .mk 1 x.num []else if x.op=4 then .mk 1 1 []else if x.op=5 then .mk 1 0 []else if x.op=6 then(match PH scope x.name with|some i=> .mk 6 (i:Int) []|none=> .mk 1 (r x.name) [])else .mk x.op 0 (l7 r scope x.args):=by obtain⟨_,_,_,_⟩:=x;rw[comp];rfl
theorem qL(i:List Nat→Int)(scope:Int): ∀xs,l7 i scope xs=xs.map (comp i scope)
 | []=>rfl
 |x::xs=>by simp_all[l7,qL]
def Z0(cl:List Nat→Int×Int)(scope:Int)(s:List Nat):Int×Int:=if l6 scope s≠0 then(l6 scope s,0)else cl s
def I5(D:List Nat→Int)(scope:Int)(r:List Int)(s:List Nat):Int:=match PH scope s with|some i=>r.getD i 0|none=>D s
theorem alC(cl:List Nat→Int×Int)(scope:Int)(x:Ex):x.ty cl scope=x.ty (Z0 cl scope) 0:=by
 induction x using Ex.ind with
 |h x ih=>
  rw[Ex.ty_eq,Ex.ty_eq (cl:=Z0 cl scope)]
  have hl:sw cl scope x.args=sw (Z0 cl scope) 0 x.args:=by
   generalize x.args=xs at ih
   induction xs with
   |nil=>rfl
   |cons y r VF=>
    rw[sw,sw,ih y (by simp),VF fun z i=>ih z (by simp[i])]
  grind [Z0,rX]
theorem au5(cl:List Nat→Int×Int):Z0 cl 0=cl:=by
 grind [Z0,rX]
theorem au6(s:List Nat):PH 0 s=none:=(vh 0 s).2 (rX s)
theorem agH(r:List Nat→Int)(i:List Int):I5 r 0 i=r:=by
 grind [I5,au6]
theorem PI{cl:List Nat→Int×Int}{D:List Nat→Int}{scope:Int}{r:List Int}(hc:Sw (Z0 cl scope) (I5 D scope r))(kR:r.length=(TA scope).length)(x:Ex): ∀k,x.wf=true→jQ x.args≤100000→x.ty cl scope=(k,0)→Fi r (comp D scope x)∧(comp D scope x).val r=x.val0 (I5 D scope r)∧Fh k (x.val0 (I5 D scope r)):=by
 induction x using Ex.ind with
 |h x ih=>
  intro k Bf hn V
  have X:Fh k (x.val0 (I5 D scope r)):=by
   rw[alC]at V
   exact(QA hc 0 (fun s=>rX s) x k Bf V).2
  refine and_assoc.1 ⟨?_,X⟩
  obtain⟨h1,h2,Y,On,E4,Kj⟩:=CZ Bf
  have Z:=Zl X
  have F: ∀f v,comp D scope x=f→x.val0 (I5 D scope r)=v→(bd v→Fi r f∧f.val r=v)→Fi r (comp D scope x)∧(comp D scope x).val r=x.val0 (I5 D scope r):=by
   rintro f v rfl e h
   rw[e]at Z ⊢
   exact h Z
  have W: ∀n,bd n→Fi r (.mk 1 n [])∧(Fm.mk 1 n []).val r=n:=fun n N=>⟨(IK _ _).2 (.inl ⟨rfl,N⟩),by rw[Fm.val_eq];rfl⟩
  by_cases H:x.op=1∨x.op=2∨x.op=3
  ·exact F _ _ (by rw[rY,if_pos H]) (by rw[Ex.val0_eq,if_neg (by omega),if_pos H]) (W _)
  by_cases I:x.op=4
  ·exact F _ _ (by rw[rY,if_neg H,if_pos I]) (by rw[Ex.val0_eq,if_neg (by omega),if_neg H,if_pos I]) (W _)
  by_cases K:x.op=5
  ·exact F _ _ (by rw[rY,if_neg H,if_neg I,if_pos K]) (by rw[Ex.val0_eq,if_neg (by omega),if_neg H,if_neg I,if_pos K]) (W _)
  by_cases J:x.op=6
  ·cases O:PH scope x.name with
   |none=>exact F _ _ (by rw[rY,if_neg H,if_neg I,if_neg K,if_pos J,O]) (by rw[Ex.val0_eq,if_pos J,I5,O]) (W _)
   |some i=>
    have hi:=alB O
    have rj:i<(TA scope).length:=(List.getElem?_eq_some_iff.1 hi).1
    refine F (.mk 6 (i:Int) []) (r.getD i 0) (by rw[rY,if_neg H,if_neg I,if_neg K,if_pos J,O]) (by rw[Ex.val0_eq,if_pos J,I5,O]) fun N=>⟨(IK _ _).2 (.inr (.inl ⟨rfl,Int.natCast_nonneg i, ?_,N⟩)),by rw[Fm.val_eq];rfl⟩
    show(i:Int).toNat<r.length
    rw[Int.toNat_natCast,kR];exact rj
  ·refine F _ _ (by rw[rY,if_neg H,if_neg I,if_neg K,if_neg J]) (by rw[Ex.val0_eq,if_neg J,if_neg H,if_neg I,if_neg K]) fun N=> ?_
   have h7:7≤x.op:=by omega
   obtain⟨ts,U,hr,hk⟩:=CY V J
   have hlen:ts.length=x.args.length:=CQ U
   have MI:=mn x.args
   have ZQ:E2 r (l7 D scope x.args)∧l9 r (l7 D scope x.args)=vF (I5 D scope r) x.args∧Bp ts (vF (I5 D scope r) x.args):=by
    clear V Y hr Bf On E4 hlen Z X MI F N
    generalize x.args=xs at ih U Kj hn
    induction xs generalizing ts with
    |nil=>rw[sw]at U;cases U;exact⟨by rw[l7,E2];trivial,by rw[l7,l9,vF],trivial⟩
    |cons z zs ihz=>
     obtain⟨t,us,rfl,e1,e2⟩:=zY U
     rw[B9,Bool.and_eq_true]at Kj
     rw[jQ]at hn
     have hz:=z.nodes_eq
     obtain⟨f1,f2,f3⟩:=ih z (by simp) t Kj.1 (by omega) e1
     obtain⟨g1,g2,g3⟩:=ihz us (fun y hy=>ih y (by simp[hy])) e2 Kj.2 (by omega)
     rw[l7,l9,vF,E2,f2,g2]
     exact⟨⟨f1,g1⟩,rfl,f3,g3⟩
   obtain⟨i1,i2,i3⟩:=ZQ
   have mJ:(l7 D scope x.args).length=x.args.length:=by rw[qL,List.length_map]
   obtain⟨hv,_⟩:=agE i3 h7 h2 (by rw[hlen];exact Y) hr hk
   refine⟨(IK _ _).2 (.inr (.inr ⟨h7,h2,by show lJ x.op (l7 D scope x.args).length=true;rw[mJ];exact Y,by show(l7 D scope x.args).length≤qK;rw[mJ];exact oy (by omega),i1,by show vOk x.op (l9 r (l7 D scope x.args));rw[i2];exact hv⟩)), ?_⟩
   rw[Fm.val_eq]
   show(if x.op=1 then(0:Int)else if x.op=6 then r.getD (0:Int).toNat 0 else Tm x.op (l9 r (l7 D scope x.args)))=Tm x.op (vF (I5 D scope r) x.args)
   rw[if_neg (by omega),if_neg J,i2]
def lL(lT:T)(m:List (List Nat×Nat))(kn:List (Nat×Int))(R:List b8):List b8:=H3 lT m kn 4++R
section
variable(lT:T)(m:List (List Nat×Nat))(kn:List (Nat×Int))(R:List b8)
theorem au7:iz (lL lT m kn R) 0=⟨1,.map (m.map fun p=>sK p.1) (m.map fun p=>nK p.2) false⟩:=nr rfl
theorem au8:iz (lL lT m kn R) 1=⟨1,.map (kn.map fun p=>nK p.1) (kn.map fun p=>iV p.2) false⟩:=nr rfl
theorem IP:iz (lL lT m kn R) 2=⟨1,.cells [lT,.mp .S 0 1,.mp .S 1 1,.mp .S 3 1,.mp .S 4 1,.mp .S 5 1,.mp .S 6 1] 0 true⟩:=nr rfl
theorem aCn:iz (lL lT m kn R) 3=⟨1,.map ((kW [] 0).map fun p=>sK p.1) ((kW [] 0).map fun p=>nK p.2) false⟩:=nr rfl
theorem au9:iz (lL lT m kn R) 4=⟨1,.map ((kW kb 11).map fun p=>sK p.1) ((kW kb 11).map fun p=>nK p.2) false⟩:=nr rfl
theorem ava:iz (lL lT m kn R) 5=⟨1,.map ((kW mD 25).map fun p=>sK p.1) ((kW mD 25).map fun p=>nK p.2) false⟩:=nr rfl
theorem avb:iz (lL lT m kn R) 6=⟨1,.map ((kW qY 7).map fun p=>sK p.1) ((kW qY 7).map fun p=>nK p.2) false⟩:=nr rfl
theorem avc(i:List (Nat×Int)):iH (lL lT m kn R) 1 ⟨1,.map (i.map fun p=>nK p.1) (i.map fun p=>iV p.2) false⟩=lL lT m i R:=nr rfl
end
def kOf:List b8→List (Nat×Int)
 |_::⟨_,.map ks r _⟩::_=>(ks.zip r).map fun p=>((match p.1 with| .i _ n=>n.toNat|_=>0),(match p.2 with| .i _ n=>n|_=>0))
 |_=> []
theorem alD(lT:T)(m:List (List Nat×Nat))(R:List b8): ∀kn,kOf (lL lT m kn R)=kn:=by
 intro kn
 unfold kOf lL H3 pX
 simp only[List.cons_append]
 induction kn with
 |nil=>rfl
 |cons p kn ih=>rw[List.map_cons,List.map_cons,List.zip_cons_cons,List.map_cons,ih];obtain⟨a,b⟩:=p;simp[nK,iV]
noncomputable def kL(E:Env)(n:Nat)(a:dE)(fr:Fr)(lh:iq b8)(sh:List b8):List (Nat×Int):=kOf (oH E n a fr lh sh)
theorem agI{E:Env}{n:Nat}{a:dE}{fr:Fr}{lh:iq b8}{sh:List b8}{lT:T}{m:List (List Nat×Nat)}{R:List b8}{P:List (Nat×Int)→Prop}(h: ∃kn,oH E n a fr lh sh=lL lT m kn R∧P kn):oH E n a fr lh sh=lL lT m (kL E n a fr lh sh) R∧P (kL E n a fr lh sh):=by
 obtain⟨kn,i,r⟩:=h
 have:kL E n a fr lh sh=kn:=by unfold kL;rw[i,alD]
 rw[this];exact⟨i,r⟩
theorem Zv{cl:List Nat→Int×Int}{scope:Int}: ∀{xs:List Ex} {ts:List Int},sw cl scope xs= .ok ts→ ∀(k:Nat) (hk:k<xs.length),∃t,xs[k].ty cl scope=(t,0)
 | [],ts,h,k,hk=>by simp at hk
 |x::xs,ts,h,k,hk=>by
  obtain⟨t,us,rfl,i,r⟩:=zY h
  cases k with
  |zero=>exact⟨t,i⟩
  |succ k=>exact Zv r k (by simpa using hk)
section
variable(l:Cs)(lT:T)(R:List b8)(cl:List T)(hl:IsSl lT l.length cl)(mJ:mh l cl)(hlen:l.length≤qK)
def oI(kn:List (Nat×Int)):Prop:= ∀i v,iJ kn i=some v→v=(Fj l l.length).getD i 0
def avd(n:Nat)(scope:Int)(y:Ex):Prop:= ∀k kn cs,oI l kn→mY y cs→y.nodes≤200→y.wf=true→y.ty (CL l n) scope=(k,0)→
 ∃D r,be pE 52 [.ptr .S 2 1 0,.i .i64 scope,.agg cs] (lL lT (jt l l.length) kn R)=some (.agg D,lL lT (jt l l.length) r R)∧oB (comp (qd l) scope y) D∧oI l r∧ ∀i,n≤i→iJ r i=iJ kn i
def ave(j:Nat):Prop:= ∀s t kn,pd l s=some j→Mm l s=(t,0)→oI l kn→ ∃r,be pE 94 [.ptr .S 2 1 0,.s s] (lL lT (jt l l.length) kn R)=some (.i .i64 (qd l s),lL lT (jt l l.length) r R)∧oI l r∧ ∀i,j<i→iJ r i=iJ kn i
theorem aCp(n:Nat)(scope:Int)(xs:List Ex)(ih: ∀y∈xs,avd l lT R n scope y)(a:T)(cc:List T)(ha:IsSl a xs.length cc)(hx:ku xs cc)(hn:jQ xs≤200)(Bf:B9 xs=true)(ts:List Int)(Ab:sw (CL l n) scope xs= .ok ts)(kn:List (Nat×Int))(qn:oI l kn)(op:T)(g g9:Nat)(U:b8)(fr:Fr)(lh:iq b8)(sh:List b8)(lU:sh=lL lT (jt l l.length) kn R)
  (H:an fr 0= .ptr .S 2 1 0) (I:an fr 1= .i .i64 scope) (J:an fr 9= .ptr .L 9 g9 0) (B6:an fr 63=a) (EH:an fr 64= .i .i64 (xs.length:Int)) (Cf:an fr 65= .i .i64 0) (K:b7 lh 6=U) (D:b7 lh 9=⟨g9,.cells [op,.i .i64 0,.isl .L 60 g 0 xs.length 3] 0 true⟩) (Hd:b7 lh 60=⟨g,.cells (repl [.i .i64 0,.i .i64 0,.nilsl] xs.length) 0 false⟩):
  wS 80 tu fr lh sh (.ext 1)∧
  (b7 (n5 pE 80 tu fr lh sh) 6=U∧b7 (n5 pE 80 tu fr lh sh) 9=⟨g9,.cells [op,.i .i64 0,.isl .L 60 g 0 xs.length 3] 0 true⟩∧(∃cs,b7 (n5 pE 80 tu fr lh sh) 60=⟨g,.cells cs 0 false⟩∧iS (l7 (qd l) scope xs) cs)∧
    (∃r,oH pE 80 tu fr lh sh=lL lT (jt l l.length) r R∧oI l r∧ ∀i,n≤i→iJ r i=iJ kn i)):=by
 refine jJ (P:=fun jO W iT=>b7 W 6=U∧b7 W 9=⟨g9,.cells [op,.i .i64 0,.isl .L 60 g 0 xs.length 3] 0 true⟩∧(∃cs,b7 W 60=⟨g,.cells cs 0 false⟩∧iS (l7 (qd l) scope xs) cs)∧(∃r,iT=lL lT (jt l l.length) r R∧oI l r∧ ∀i,n≤i→iJ r i=iJ kn i))
  (j6 (fun k st=> ∃(fr:Fr) (F:iq b8) (A:List T) (K2:List (Nat×Int)),st=⟨fr,F,lL lT (jt l l.length) K2 R⟩∧an fr 0= .ptr .S 2 1 0∧an fr 1= .i .i64 scope∧an fr 9= .ptr .L 9 g9 0∧an fr 63=a∧an fr 64= .i .i64 (xs.length:Int)∧an fr 65= .i .i64 (k:Int)∧b7 F 6=U∧b7 F 9=⟨g9,.cells [op,.i .i64 0,.isl .L 60 g 0 xs.length 3] 0 true⟩∧
    b7 F 60=⟨g,.cells (A++repl [.i .i64 0,.i .i64 0,.nilsl] (xs.length-k)) 0 false⟩∧iS (l7 (qd l) scope (xs.take k)) A∧oI l K2∧ ∀i,n≤i→iJ K2 i=iJ kn i) _ xs.length ?_ ?_ 0 _ (Nat.zero_le _) ⟨fr,lh,[],kn,by rw[lU],H,I,J,B6,EH,Cf,K,D,by rw[Hd];rfl,by rw[List.take_zero,l7];exact iS.nil,qn,fun _ _=>rfl⟩)
 ·rintro k _ hk ⟨fr,F,A,K2,rfl,H,I,J,B6,EH,Cf,K,D,Hd,N,Oc,LM⟩
  left
  have iX:(k:Int)<xs.length:=by omega
  have O3:=mn xs
  have hyk:=pb (List.getElem_mem hk)
  have hw:=ji (k:=k) (oy (by omega))
  obtain⟨b,cb,rr,jg,m9,sx,hb⟩:=si ha hx k hk
  obtain⟨t,ht⟩:=Zv Ab k hk
  obtain⟨cf,Pp,im,yX,X,Y⟩:=ih xs[k] (List.getElem_mem hk) t K2 _ Oc hb (by omega) (HV.1 Bf _ (List.getElem_mem hk)) ht
  obtain⟨V,fc,rfl,B7,hf2⟩:=yX.cells
  have O:A.length=k*3:=by rw[N.len,qL];simp;omega
  generalize hy:comp (qd l) scope xs[k]=y at*
  have IV:(A++repl [T.i .i64 0,T.i .i64 0,T.nilsl] (xs.length-k)).length=xs.length*3:=by rw[List.length_append,EX,O];simp;omega
  have Z:splice (A++repl [T.i .i64 0,T.i .i64 0,T.nilsl] (xs.length-k)) (k*3) [.i .i64 y.op,.i .i64 y.num,V]=(A++ [.i .i64 y.op,.i .i64 y.num,V])++repl [T.i .i64 0,T.i .i64 0,T.nilsl] (xs.length-(k+1)):=by
   rw[show xs.length-k=(xs.length-(k+1))+1 by omega,Bj,EW A [T.i .i64 0,T.i .i64 0,T.nilsl] _ [T.i .i64 y.op,T.i .i64 y.num,V] (k*3) O rfl]
  have akT:k*3+3≤xs.length*3:=by omega
  simp only[qA,seval,jI,iE,j3,tu,H,I,J,B6,EH,Cf,D,Hd,iX,jg,hw,im,ri,rZ,m9.kept1,B7.froz1,hk,IV,Z,akT]
  refine⟨_,rfl,_,_,A++ [.i .i64 y.op,.i .i64 y.num,V],Pp,rfl, ?_, ?_, ?_, ?_, ?_, ?_, ?_, ?_, ?_, ?_,X,fun i hi=>by rw[Y i hi,LM i hi]⟩
  all_goals first|(simp only[qA,seval,H,I,J,B6,EH,K,D];done)|skip
  rw[List.take_succ_eq_append_getElem hk,qL,List.map_append,←qL,List.map_cons,hy]
  exact iS.append N (iS.one yX)
 ·rintro _ ⟨fr,F,A,K2,rfl,H,I,J,B6,EH,Cf,K,D,Hd,N,Oc,LM⟩
  rw[Nat.sub_self,show repl [T.i .i64 0,T.i .i64 0,T.nilsl] 0= []from rfl,List.append_nil]at Hd
  rw[List.take_length]at N
  simp only[qA,seval,tu,EH,Cf,Int.lt_irrefl]
  exact⟨_,_,uO,rfl,rfl,K,D,⟨A,Hd,N⟩,K2,rfl,Oc,LM⟩
end
end Go.Proofs.YtcpceiclnbmgiaaGreat
