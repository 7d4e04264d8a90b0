/- Walks of functions of the program and of the reference, and their plain laws, part 6. Conditions: the theorems' own. -/
import Derived.Test.YtjniffjppoklpaaGreatM5
import Derived.KernelRfl
set_option maxRecDepth 100000
set_option linter.unusedSimpArgs false
set_option linter.unusedVariables false
set_option maxHeartbeats 16000000
namespace Go.Proofs.YtjniffjppoklpaaGreat
open Go Go.Ev
section
variable(l:Cs)(lT:T)(R:List iy)(cl:List T)(hl:iJ lT l.length cl)(ls:lB l cl)(hlen:l.length≤pG)
theorem Jn(n:Nat)(HA:n≤l.length)(hc: ∀j,j<n→axo l lT R j)(scope:Int)(oi:scope=0∨scope=1∨scope=2∨scope=3)(x:Ex):axn l lT R n scope x:=by
 induction x using Ex.ind with
 |h x ih=>
  intro k kn cs N hx hn uq Z
  obtain⟨a,cc,rfl,ha,zr⟩:=hx.cells
  obtain⟨D,h2,mL,JK,AU,Dd⟩:=xK uq
  have hnd:=x.nodes_eq
  rw[iD ajG (by simp[K7]),tm]
  by_cases e1:x.op=1
  ·rw[if_pos (.inl e1)]
   simp only[qA,seval,K7,e1]
   exact⟨_,kn,rfl,pA.of (x:= .mk 1 x.num []) (Or.inl ⟨rfl,rfl,rfl⟩) jl.nil,N,fun _ _=>rfl⟩
  by_cases e2:x.op=2
  ·rw[if_pos (.inr (.inl e2))]
   simp only[qA,seval,K7,e2]
   exact⟨_,kn,rfl,pA.of (x:= .mk 1 x.num []) (Or.inl ⟨rfl,rfl,rfl⟩) jl.nil,N,fun _ _=>rfl⟩
  by_cases e3:x.op=3
  ·rw[if_pos (.inr (.inr e3))]
   simp only[qA,seval,K7,e3]
   exact⟨_,kn,rfl,pA.of (x:= .mk 1 x.num []) (Or.inl ⟨rfl,rfl,rfl⟩) jl.nil,N,fun _ _=>rfl⟩
  rw[if_neg (by omega)]
  by_cases e4:x.op=4
  ·rw[if_pos e4]
   simp only[qA,seval,K7,e4]
   exact⟨_,kn,rfl,pA.of (x:= .mk 1 1 []) (Or.inl ⟨rfl,rfl,rfl⟩) jl.nil,N,fun _ _=>rfl⟩
  rw[if_neg e4]
  by_cases e5:x.op=5
  ·rw[if_pos e5]
   simp only[qA,seval,K7,e5]
   exact⟨_,kn,rfl,pA.of (x:= .mk 1 0 []) (Or.inl ⟨rfl,rfl,rfl⟩) jl.nil,N,fun _ _=>rfl⟩
  rw[if_neg e5]
  by_cases K:x.op=6
  ·rw[if_pos K]
   rw[Ex.ty_eq,if_pos K]at Z
   have r:=lkS (lL (Vc scope) (Vc scope).length) x.name
   change _=some (Vf (Oa scope x.name))at r
   by_cases hz:lu scope x.name=0
   ·rw[if_neg (by simp[hz])]at Z
    have hp:=(sj scope x.name).2 hz
    rw[hp]at r ⊢
    obtain⟨i,rW,lN,G2,_,_,ann,_⟩:=xL HA Z
    obtain⟨O,iI,pL,lS⟩:=hc i lN x.name k kn G2 ann N
    simp only[Vf]at r
    rcases oi with rfl|rfl|rfl|rfl
    ·change oU _ ((lL [] 0).map _) ((lL [] 0).map _) _ _ _=_ at r
     simp only[qA,seval,lZ,kP,K7,K,Kl,aDF,jZ,r,iI,acE]
     exact⟨_,O,rfl,pA.of (x:= .mk 1 (nH l x.name) []) (Or.inl ⟨rfl,rfl,rfl⟩) jl.nil,pL,fun i hi=>lS i (by omega)⟩
    ·change oU _ ((lL jI 11).map _) ((lL jI 11).map _) _ _ _=_ at r
     simp only[qA,seval,lZ,kP,K7,K,Kl,axj,jZ,r,iI,acE]
     exact⟨_,O,rfl,pA.of (x:= .mk 1 (nH l x.name) []) (Or.inl ⟨rfl,rfl,rfl⟩) jl.nil,pL,fun i hi=>lS i (by omega)⟩
    ·change oU _ ((lL mg 25).map _) ((lL mg 25).map _) _ _ _=_ at r
     simp only[qA,seval,lZ,kP,K7,K,Kl,axk,jZ,r,iI,acE]
     exact⟨_,O,rfl,pA.of (x:= .mk 1 (nH l x.name) []) (Or.inl ⟨rfl,rfl,rfl⟩) jl.nil,pL,fun i hi=>lS i (by omega)⟩
    ·change oU _ ((lL qH 7).map _) ((lL qH 7).map _) _ _ _=_ at r
     simp only[qA,seval,lZ,kP,K7,K,Kl,axl,jZ,r,iI,acE]
     exact⟨_,O,rfl,pA.of (x:= .mk 1 (nH l x.name) []) (Or.inl ⟨rfl,rfl,rfl⟩) jl.nil,pL,fun i hi=>lS i (by omega)⟩
   ·cases hp:Oa scope x.name with
    |none=>exact absurd ((sj scope x.name).1 hp) hz
    |some i=>
     rw[hp]at r
     rw[show Vf (some i)= .tup [.i .i64 (i:Int),.b true]from rfl]at r
     have hf:pA (.mk 6 (i:Int) []) [.i .i64 6,.i .i64 (i:Int),.nilsl]:=pA.of (x:= .mk 6 (i:Int) []) (Or.inl ⟨rfl,rfl,rfl⟩) jl.nil
     rcases oi with rfl|rfl|rfl|rfl
     ·exact absurd (nN _) hz
     ·change oU _ ((lL jI 11).map _) ((lL jI 11).map _) _ _ _=_ at r
      simp only[qA,seval,lZ,K7,K,Kl,axj,jZ,r]
      exact⟨_,kn,rfl,hf,N,fun _ _=>rfl⟩
     ·change oU _ ((lL mg 25).map _) ((lL mg 25).map _) _ _ _=_ at r
      simp only[qA,seval,lZ,K7,K,Kl,axk,jZ,r]
      exact⟨_,kn,rfl,hf,N,fun _ _=>rfl⟩
     ·change oU _ ((lL qH 7).map _) ((lL qH 7).map _) _ _ _=_ at r
      simp only[qA,seval,lZ,K7,K,Kl,axl,jZ,r]
      exact⟨_,kn,rfl,hf,N,fun _ _=>rfl⟩
  ·rw[if_neg K]
   obtain⟨ts,uD,hr,hk⟩:=xO Z K
   have CG:=kB x.args
   have Dj:x.args.length≤pG:=lK (by omega)
   have hmk:x.args.length*40≤roomy∧x.args.length≤roomy:=by unfold pG at Dj;unfold roomy;omega
   have TZ:=fun fr lh sh E F D H Dc Gc Dl I J Iw=>aDH l lT R n scope x.args (fun y hy=>ih y hy) a cc ha zr (by omega) Dd ts uD kn N (.i .i64 x.op) 1 1 ⟨1,.cells [.i .i64 0,.i .i64 0,.nilsl] 0 true⟩ fr lh sh E F D H Dc Gc Dl I J Iw
   have hL:=fun fr lh sh E F D H Dc Gc Dl I J Iw=>And.intro (TZ fr lh sh E F D H Dc Gc Dl I J Iw).1 (And.intro (TZ fr lh sh E F D H Dc Gc Dl I J Iw).2.1 (And.intro (TZ fr lh sh E F D H Dc Gc Dl I J Iw).2.2.1 (And.intro (Zi (TZ fr lh sh E F D H Dc Gc Dl I J Iw).2.2.2.1).1 (ajf (TZ fr lh sh E F D H Dc Gc Dl I J Iw).2.2.2.2).1)))
   have hF:=fun fr lh sh E F D H Dc Gc Dl I J Iw=>(Zi (TZ fr lh sh E F D H Dc Gc Dl I J Iw).2.2.2.1).2
   have hM:=fun fr lh sh E F D H Dc Gc Dl I J Iw=>(ajf (TZ fr lh sh E F D H Dc Gc Dl I J Iw).2.2.2.2).2
   have U:=fun fr lh sh E F D H Dc Gc Dl I J Iw=>(hF fr lh sh E F D H Dc Gc Dl I J Iw).len
   have ls:(mP (nH l) scope x.args).length=x.args.length:=by rw[rJ];simp
   rw[ls]at U
   simp only[qA,seval,jw,oW,iN,pd,K7,Vp,e1,e2,e3,e4,e5,K,ha.lenI,hmk,hL,U]
   generalize hX:Zh _ _=X
   generalize hMX:kL _ _ _ _ _ _=O
   have V:jl (mP (nH l) scope x.args) X:=by
    rw[←hX]
    refine hF _ _ _ rfl ?_ ?_ ?_ ?_ ?_ ?_ ?_ ?_ ?_ <;> simp only[qA,seval]
   have W:pJ l O∧ ∀i,n≤i→ja O i=ja kn i:=by
    rw[←hMX]
    refine hM _ _ _ rfl ?_ ?_ ?_ ?_ ?_ ?_ ?_ ?_ ?_ <;> simp only[qA,seval]
   have Y:=V.len
   rw[ls]at Y
   rw[←Y,List.take_length]
   exact⟨_,O,rfl,pA.of (x:= .mk x.op 0 (mP (nH l) scope x.args)) (Or.inr ⟨false,by show T.sl X x.args.length false= .sl X (mP (nH l) scope x.args).length false;rw[ls]⟩) V,W.1,W.2⟩
end
theorem oX{x:Ex}(hv:jD x=0):x.nodes≤200∧x.depth≤16:=by
 unfold jD at hv
 by_cases h:big x
 ·rw[if_pos h]at hv;cases hv
 ·unfold big at h;omega
theorem abu{lh:iL iy}{sh:List iy}{keep:Bool}{k g wm:Nat}{cs:List T}{bx:Bool}(h:a6 lh k=⟨g,.cells cs wm bx⟩)(r:cs.all froz1=true):fzV lh sh keep (.ptr .L k g 0)=some (.vp cs,[(.L,k,⟨g,.cells cs cs.length bx⟩)]):=by
 unfold fzV iT
 have E:(keep&&Sp.L==Sp.S)=false:=by cases keep <;> rfl
 show Q.run _ _ (if(keep&&Sp.L==Sp.S)=true then _ else _)=_
 rw[E]
 simp only[Bool.false_eq_true,if_false,Q.run]
 have D:(St.mk .nil lh sh).get .L k=⟨g,.cells cs wm bx⟩:=h
 rw[D]
 simp only[if_true,List.drop_zero]
 have:jm (fz false 7) cs= .ret (cs,[]):=by
  clear h D
  induction cs with
  |nil=>rfl
  |cons c cs ih=>
   rw[List.all_cons,Bool.and_eq_true]at r
   simp only[jm,qD r.1,ih r.2,Q.bind,List.append_nil]
 rw[this]
 rfl
theorem const_comp{l:Cs}{s:List Nat}{t:Int}(h:JC l s=(t,0)): ∃i,∃hi:i<l.length,mS l s=some i∧jD l[i].2=0∧l[i].2.ty (CL l i) 0=(t,0)∧H2 [] (comp (nH l) 0 l[i].2)∧(comp (nH l) 0 l[i].2).val []=nH l s∧nH l s=(uG l l.length).getD i 0:=by
 obtain⟨i,hi,G2,hv,K,r,E,N,_,O⟩:=NG h
 have F:=nZ hv
 have U:=(l[i].2).nodes_eq
 have Z:=oX hv
 have V:PD (Rn (JC l) 0) (wk (nH l) 0 []):=by rw[axf,aje];exact JD l
 obtain⟨W,H,I⟩:=Ro V rfl l[i].2 t F (by omega) r
 rw[aje]at H I
 have X:=(ND (JD l) 0 (fun s=>nN s) l[i].2 t F r).1
 have D:abn l 0 l[i].2=yb t (l[i].2.val0 (nH l)):=X
 rw[E]at D
 have Y:=(Kj (scope:=0) N).2.2
 have J:=(Kj (scope:=0) I).2.2
 rw[←D,Y]at J
 exact⟨i,hi,G2,hv,K,W,by rw[H,J],O⟩
section
variable(l:Cs)(lT:T)(R:List iy)(cl:List T)(hl:iJ lT l.length cl)(ls:lB l cl)(hlen:l.length≤pG)
include hl ls
theorem Jo: ∀j,j<l.length→axo l lT R j:=by
 intro j
 induction j using Nat.strongRecOn with
 |ind j ih=>
  intro V s t kn G2 K N
  obtain⟨j',Y,R7,hv,Z,sE,F,W⟩:=const_comp K
  rw[G2]at R7
  cases R7
  have D:=lkS (jP l l.length) s
  rw[xT l s l.length (Nat.le_refl _),List.take_length,G2]at D
  rw[show Vf (some j)= .tup [.i .i64 (j:Int),.b true]from rfl]at D
  have E:oU (.one .int) (kn.map fun p=>nK p.1) (kn.map fun p=>iV p.2) (.i .i64 (j:Int)) (.i .i64 0) true=_:=alv (kT:=nK) (vT:=iV) af1 (fun _=>rfl) kn j (.i .i64 0)
  rw[iD arK (by simp[c58])]
  cases J:ja kn j with
  |some v=>
   have e:=N j v J
   rw[J]at E
   simp only[show iV v= .i .i64 v from rfl]at E
   rw[W,←e]
   simp only[qA,seval,c58,Kl,axh,axi,jZ,D,E]
   exact⟨kn,rfl,N,fun _ _=>rfl⟩
  |none=>
   rw[J]at E
   simp only at E
   obtain⟨b,cb,r,iW,lE,uE,hb⟩:=mH hl ls j V
   obtain⟨cf,H,iI,BN,pL,X⟩:=Jn l lT R j (Nat.le_of_lt V) (fun i hi=>ih i hi (by omega)) 0 (.inl rfl) l[j].2 t kn _ N hb (oX hv).1 (nZ hv) Z
   obtain⟨O,fc,rfl,Ay,Zm⟩:=BN.cells
   have I:=JF [] .nilsl (Or.inl ⟨rfl,rfl,rfl⟩) (comp (nH l) 0 l[j].2) O fc [] Ay Zm sE
   rw[F]at I
   have wh:ja H j=none:=by rw[X j (Nat.le_refl _),J]
   have px:rL (.one .int) (.i .i64 (j:Int)) (.i .i64 (nH l s)) (H.map fun p=>nK p.1) (H.map fun p=>iV p.2)=_:=Ax (kT:=nK) (vT:=iV) af1 H j (nH l s) wh
   generalize comp (nH l) 0 l[j].2=y at*
   have PT:([T.i .i64 y.op,T.i .i64 y.num,O]:List T).all froz1=true:=by simp[Ay.froz1,As]
   have U:=fun lh sh keep (h:a6 lh 9=⟨1,.cells [.i .i64 y.op,.i .i64 y.num,O] 0 true⟩)=>abu (sh:=sh) (keep:=keep) h PT
   simp only[qA,seval,kP,c58,Kl,axh,axi,jZ,D,E,iW,lE.kept1,iI,sD,U,aAL,I,aiC,px,axm]
   refine⟨_,rfl, ?_, ?_⟩
   ·intro i v hi
    rw[rG]at hi
    cases Te:ja H i with
    |some u=>rw[Te]at hi;cases hi;exact pL i _ Te
    |none=>
     rw[Te]at hi
     simp only at hi
     split at hi
     ·rename_i e;subst e;cases hi;exact W
     ·cases hi
   ·intro i hi
    rw[rG,X i (by omega)]
    cases ja kn i with
    |some u=>rfl
    |none=>simp only;rw[if_neg (by omega)]
end
theorem M6(op num:Int)(h:op=1∨op=2∨op=3∨op=4∨op=5)(a:T):be pE 173 [.i .i64 op,.i .i64 num,a] []=some (.i .i64 (if op=1∨op=2∨op=3 then num else if op=4 then 1 else 0),[]):=by
 rw[iD Xe (by simp[wE])]
 rcases h with rfl|rfl|rfl|rfl|rfl <;> simp only[qA,seval,wE,true_or,or_true,or_self]
theorem JJ{cl:List Nat→Int×Int}{scope:Int}: ∀{xs:List Ex} {ts:List Int},qI cl scope xs= .ok ts→ ∀(k:Nat) (r:k<xs.length),∃t,xs[k].ty cl scope=(t,0)
 | [],ts,h,k,r=>by simp at r
 |x::xs,ts,h,k,r=>by
  obtain⟨t,us,rfl,D,E⟩:=uA h
  cases k with
  |zero=>grind
  |succ k=>simp_all[JJ]
theorem F0{cl:List Nat→Int×Int}{D:List Nat→Int}(E:PD cl D){scope:Int}(F: ∀s,lu scope s=0): ∀{xs:List Ex} {ts:List Int},zq xs=true→qI cl scope xs= .ok ts→A1 ts (la D xs)
 | [],ts,_,h=>by rw[qI]at h;cases h;trivial
 |x::xs,ts,r,h=>by
  obtain⟨t,us,rfl,H,I⟩:=uA h
  rw[zq,Bool.and_eq_true]at r
  exact⟨(ND E scope F x t r.1 H).2,F0 E F r.2 I⟩
theorem Ix(l:Cs)(k:Nat): ∀n,n≤k→n≤l.length→lz (l.take k) n=lz l n
 |0,_,_=>rfl
 |n+1,h,hl=>by
  rw[xS l (by omega),xS (l.take k) (by rw[List.length_take];omega),Ix l k n (by omega) (by omega),List.take_take,Nat.min_eq_left (by omega),List.getElem_take]
theorem Gt(l:Cs){k:Nat}(r:k≤l.length)(x:Ex):ub (l.take k) 0 x=wj (l.take k) (lz l k) x:=by
 grind [ub,wj,List.length_take,Nat.min_eq_left,Ix]
section
variable(l:Cs)(n:Nat)(HA:n≤l.length)(lT vT:T)(cl:List T)(hl:iJ lT n cl)(ls:lB (l.take n) cl)(hlen:l.length≤pG)(hv:iJ vT n (ints (uG l n)))
def ajh(y:Ex):Prop:= ∀k cs,mE y cs→y.nodes≤100000→y.wf=true→y.ty (CL l n) 0=(k,0)→be pE 149 [vT,lT,.i .i64 0,.nilsl,.agg cs] []=some (.i .i64 (y.val0 (VX l n)),[])
include hl hv
theorem axp(xs:List Ex)(ih: ∀y∈xs,ajh l n lT vT y)(a:T)(W:List T)(N:iJ a xs.length W)(Z:kz xs W)(hn:jX xs≤100000)(uq:zq xs=true)(ts:List Int)(oh:qI (CL l n) 0 xs= .ok ts)(op num:Int)(s:List Nat)(g:Nat)(fr:Fr)(lh:iL iy)(sh:List iy)
  (E:an fr 0=vT) (F:an fr 1=lT) (H:an fr 2= .i .i64 0) (I:an fr 3= .nilsl) (r:an fr 9= .ptr .L 9 g 0) (O:an fr 13= .nilsl) (J:an fr 14= .i .i64 0) (U:a6 lh 9=⟨g,.cells [.i .i64 op,.i .i64 num,.s s,a] 0 true⟩):
  qG 70 mV fr lh sh (.ext 0)∧
  (jr (nh pE 70 mV fr lh sh) (an (pb pE 70 mV fr lh sh) 13) 63 1 xs.length (ints (la (VX l n) xs))∧a6 (nh pE 70 mV fr lh sh) 9=a6 lh 9∧nB pE 70 mV fr lh sh=sh):=by
 refine jh (P:=fun jB X jk=>jr X (an jB 13) 63 1 xs.length (ints (la (VX l n) xs))∧a6 X 9=a6 lh 9∧jk=sh)
  (jx (fun k st=> ∃(fr:Fr) (K:iL iy),st=⟨fr,K,sh⟩∧an fr 0=vT∧an fr 1=lT∧an fr 2= .i .i64 0∧an fr 3= .nilsl∧an fr 9= .ptr .L 9 g 0∧an fr 14= .i .i64 (k:Int)∧a6 K 9=a6 lh 9∧
    jr K (an fr 13) 63 1 k (ints (la (VX l n) (xs.take k)))) _ xs.length ?_ ?_ 0 _ (Nat.zero_le _) ⟨fr,lh,rfl,E,F,H,I,r,J,rfl,by rw[O];exact jr.nil⟩)
 ·rintro k _ DN ⟨fr,K,rfl,E,F,H,I,r,J,Ur,D⟩
  left
  rw[U]at Ur
  have iU:(k:Int)<xs.length:=by omega
  have Ff:=kB xs
  have hyk:=nz (List.getElem_mem DN)
  have hw:=iZ (k:=k) (lK (by omega))
  obtain⟨b,cb,rr,iW,lE,uE,hb⟩:=nY N Z k DN
  obtain⟨t,ht⟩:=JJ oh k DN
  have Y:=ih xs[k] (List.getElem_mem DN) t _ hb (by omega) (xG.1 uq _ (List.getElem_mem DN)) ht
  have V:=pD D (lK (by omega)) (sh:=sh) (T.i .i64 (xs[k].val0 (VX l n))) true
  have mI:la (VX l n) (xs.take (k+1))=la (VX l n) (xs.take k)++ [xs[k].val0 (VX l n)]:=by
   grind [List.take_succ_eq_append_getElem,ur]
  generalize xs[k].val0 (VX l n)=q at Y V mI
  generalize O:an fr 13=v13 at D V
  simp only[qA,seval,repl,mV,E,F,H,I,r,O,J,Ur,N.lenI,iU,iW,hw,Y,Ho,lE.froz1,hv.froz,hl.froz,D.notS,V.1]
  refine⟨_,rfl,_,_,rfl, ?_, ?_, ?_, ?_, ?_, ?_, ?_, ?_⟩
  all_goals first|(simp only[qA,seval,E,F,H,I,r];done)|skip
  ·grind
  ·simp only[qA,seval]
   grind [uu]
 ·rintro _ ⟨fr,K,rfl,E,F,H,I,r,J,Ur,D⟩
  rw[U]at Ur
  rw[List.take_length]at D
  simp only[qA,seval,mV,r,J,Ur,N.lenI,Int.lt_irrefl]
  refine⟨_,_,oH,rfl,rfl, ?_,by rw[Ur,U],rfl⟩
  simp only[qA,seval]
  exact D
include HA ls hlen
theorem agh(x:Ex):ajh l n lT vT x:=by
 induction x using Ex.ind with
 |h x ih=>
  intro k cs hx hn uq N
  obtain⟨a,cc,rfl,ha,zr⟩:=hx.cells
  obtain⟨K,D,mL,JK,AU,Dd⟩:=xK uq
  have hnd:=x.nodes_eq
  rw[iD Hn (by simp[C6]),Ex.val0_eq]
  by_cases r:x.op=6
  ·rw[if_pos r]
   have O:=AG 0 x.name
   unfold ua at O
   rw[Ex.ty_eq,if_pos r,if_neg (by simp[nN])]at N
   rw[if_pos (nN _),nN]at O
   obtain⟨i,rW,E,G2,_⟩:=xL HA N
   have R7:mS (l.take n) x.name=some i:=by rw[xR,G2];simp[E]
   have Ve:=JL (l.take n) x.name lT cl (by rw[List.length_take,Nat.min_eq_left HA];exact hl) ls (by rw[List.length_take];omega)
   rw[xM R7]at Ve
   have e1:=fun kk=>tC (ts:=uG l n) (by rw[ow];exact hv) (k:=i) (by rw[ow];exact E) kk
   have e2:VX l n x.name=(uG l n)[i]'(by rw[ow];exact E):=by
    simp_all[VX,vxk,ow]
   rw[e2]
   simp only[qA,seval,C6,r,O,yj,Ve,Qj,hl.froz,e1]
  ·rw[if_neg r]
   obtain⟨ts,U,hr,hk⟩:=xO N r
   have V:=fun fr lh sh F K D W X Y Z o9=>axp l n lT vT cl hl hv x.args (fun y hy=>ih y hy) a cc ha zr (by omega) Dd ts U x.op x.num x.name 1 fr lh sh F K D W X Y Z o9
   have hO:=fun fr lh sh F K D W X Y Z o9=>jr.fzV (sh:=sh) (keep:=false) (V fr lh sh F K D W X Y Z o9).2.1
   have CG:=kB x.args
   have E:=F0 (abm l n HA) (scope:=0) (fun s=>nN s) Dd U
   have htl:=vI U
   have H:(la (VX l n) x.args).length=x.args.length:=by rw[ur,List.length_map]
   by_cases h5:x.op≤5
   ·have nj:x.op=1∨x.op=2∨x.op=3∨x.op=4∨x.op=5:=by omega
    have I:=M6 x.op x.num nj (ku x.args.length (ints (la (VX l n) x.args)))
    have J:(if x.op=1∨x.op=2∨x.op=3 then x.num else if x.op=4 then 1 else if x.op=5 then 0 else GU x.op (la (VX l n) x.args))=(if x.op=1∨x.op=2∨x.op=3 then x.num else if x.op=4 then 1 else 0):=by
     grind
    rw[J]
    generalize (if x.op=1∨x.op=2∨x.op=3 then x.num else if x.op=4 then 1 else 0)=q at I ⊢
    simp only[qA,seval,C6,xm,r,V,hO,I,Qm]
   ·have h7:7≤x.op:=by omega
    have nQ:=Rw E h7 D (by rw[htl];exact mL) hr hk
    have I:=H8 x.op x.num (la (VX l n) x.args) (ku x.args.length (ints (la (VX l n) x.args))) (by rw[H];exact oN (fun F=>by rw[F]at H;rw[List.length_eq_zero_iff.1 H];rfl)) (by rw[H];exact lK (by omega)) h7 D (by rw[H];exact mL) nQ.1
    rw[if_neg (by omega),if_neg (by omega),if_neg (by omega)]
    generalize GU x.op (la (VX l n) x.args)=q at I ⊢
    simp only[qA,seval,C6,xm,r,V,hO,I,Qm]
end
section
variable(l:Cs)(lT:T)(cl:List T)(hl:iJ lT l.length cl)(ls:lB l cl)(hlen:l.length≤pG)(sX:ZQ l)
theorem R8{k:Nat}(r:k<l.length)(hl:iJ lT l.length cl)(ls:lB l cl): ∃ex,lT= .sl cl l.length ex∧iJ (.sl (List.take (k*5) cl) k (ex&&decide (k=l.length))) k (cl.take (k*5))∧lB (l.take k) (cl.take (k*5))∧cl.length=l.length*5:=by
 rcases hl with⟨_,hz,_⟩|⟨ex,rfl⟩
 ·omega
 ·exact⟨ex,rfl,Or.inr ⟨_,rfl⟩,ls.take k,ls.len⟩
theorem NJ(sX:ZQ l)(k:Nat):ZQ (l.take k):=fun c r=>sX c (List.mem_of_mem_take r)
include hl ls hlen sX
theorem aDI(fr:Fr)(lh:iL iy)(sh:List iy)(H:an fr 0=lT)(N:an fr 3= .nilsl)(J:an fr 4= .i .i64 0):
  qG 43 sJ fr lh sh (.ext 0)∧
  (jr (nh pE 43 sJ fr lh sh) (an (pb pE 43 sJ fr lh sh) 3) 41 1 l.length (ints (uG l l.length))∧nB pE 43 sJ fr lh sh=sh):=by
 refine jh (P:=fun jB je jk=>jr je (an jB 3) 41 1 l.length (ints (uG l l.length))∧jk=sh)
  (jx (fun k st=> ∃(fr:Fr) (U:iL iy),st=⟨fr,U,sh⟩∧an fr 0=lT∧an fr 4= .i .i64 (k:Int)∧jr U (an fr 3) 41 1 k (ints (uG l k))) _ l.length ?_ ?_ 0 _ (Nat.zero_le _) ⟨fr,lh,rfl,H,J,by rw[N];exact jr.nil⟩)
 ·rintro k _ V ⟨fr,U,rfl,H,J,E⟩
  left
  have X:(k:Int)<l.length:=by omega
  have Y:=iZ (k:=k) (by omega)
  obtain⟨b,cb,r,Z,lE,uE,hb⟩:=mH hl ls k V
  obtain⟨wo,P2⟩:=sX l[k] (List.getElem_mem V)
  obtain⟨ex,rfl,rP,A4,UL⟩:=R8 l lT cl V hl ls
  have O:k≤l.length:=by omega
  have nv:(l.take k).length=k:=by rw[List.length_take,Nat.min_eq_left O]
  have I:=Gi (l.take k) (.sl (List.take (k*5) cl) k (ex&&decide (k=l.length))) (cl.take (k*5)) (by rw[nv];exact rP) A4 (by rw[nv];omega) (NJ l sX k) 0 l[k].2 _ hb wo P2
  rw[Gt l O]at I
  have D:=fun(hz:l[k].2.nodes≤100000) (hv:l[k].2.wf=true) (ht:l[k].2.ty (CL l k) 0=((wj (l.take k) (lz l k) l[k].2).1,0))=>agh l k O (.sl (List.take (k*5) cl) k (ex&&decide (k=l.length))) (ku k (ints (uG l k))) (cl.take (k*5)) rP A4 hlen E.isl l[k].2 (wj (l.take k) (lz l k) l[k].2).1 _ hb hz hv ht
  have W:=NF l V
  by_cases F:(wj (l.take k) (lz l k) l[k].2).2=0
  ·rw[if_pos F]at W
   have GW:jD l[k].2=0:=by
    unfold wj at F
    grind
   have D:=D (by have:=AY GW;omega) (nZ GW) (by
    have:wj (l.take k) (lz l k) l[k].2=l[k].2.ty (CL l k) 0:=by unfold wj CL;rw[if_neg (by simp[GW])]
    rw[←this];exact Prod.ext rfl F)
   change be pE 149 _ []=some (.i .i64 (l[k].2.val0 (vxk (l.take k) (uG l k))),[])at D
   generalize l[k].2.val0 (vxk (l.take k) (uG l k))=q at D W
   generalize wj (l.take k) (lz l k) l[k].2=p at I F
   obtain⟨p1,p2⟩:=p
   simp only at I F
   subst F
   have K:=pD E (by omega) (sh:=sh) (T.i .i64 q) true
   generalize N:an fr 3=v3 at E K
   simp only[qA,seval,BS,repl,jw,sJ,H,N,J,X,Z,Y,I,acG,ajX,lE.froz1,O,UL,Nat.sub_zero,E.fzV,D,asL,asM,E.notS,K.1]
   refine⟨_,rfl,_,_,rfl, ?_, ?_, ?_⟩
   all_goals first|(simp only[qA,seval,H];done)|skip
   simp only[qA,seval]
   grind [uu]
  ·rw[if_neg F]at W
   generalize wj (l.take k) (lz l k) l[k].2=p at I F
   obtain⟨p1,p2⟩:=p
   simp only at I F
   have K:=pD E (by omega) (sh:=sh) (T.i .i64 0) true
   generalize N:an fr 3=v3 at E K
   simp only[qA,seval,BS,repl,jw,sJ,H,N,J,X,Z,Y,I,acG,ajX,lE.froz1,O,UL,Nat.sub_zero,F,E.notS,K.1]
   refine⟨_,rfl,_,_,rfl, ?_, ?_, ?_⟩
   all_goals first|(simp only[qA,seval,H];done)|skip
   simp only[qA,seval]
   rw[W,uu]
   exact K.2.1
 ·rintro _ ⟨fr,U,rfl,H,J,E⟩
  simp only[qA,seval,sJ,H,J,hl.lenI,Int.lt_irrefl]
  refine⟨_,_,oH,rfl,rfl, ?_,rfl⟩
  simp only[qA,seval]
  exact E
theorem Ut:be pE 148 [lT] []=some (ku l.length (ints (uG l l.length)),[]):=by
 have F:=fun fr lh sh r D E=>aDI l lT cl hl ls hlen sX fr lh sh r D E
 have MP:=fun keep fr lh sh r D E=>jr.fzV (keep:=keep) (sh:=sh) (F fr lh sh r D E).2.1
 rw[iD W8 (by simp[Wd])]
 simp only[qA,seval,Wd,F,MP,yU]
end
def iK{α:Type}(R:α→List T→Prop):List α→List T→Prop
 | [],cs=>cs= []
 |x::xs,cs=> ∃c r,cs=c++r∧R x c∧iK R xs r
section
variable{α:Type}{R:α→List T→Prop}{k:Nat}
theorem iK.len(D: ∀x c,R x c→c.length=k): ∀{xs:List α} {cs:List T},iK R xs cs→cs.length=xs.length*k
 | [],cs,h=>by grind [iK]
 |x::xs,cs,h=>by
  rw[iK]at h
  obtain⟨c,r,rfl,E,F⟩:=h
  rw[List.length_append,D _ _ E,iK.len D F,List.length_cons,Nat.add_mul,Nat.one_mul,Nat.add_comm]
theorem iK.drop(D: ∀x c,R x c→c.length=k): ∀{xs:List α} {cs:List T} (i:Nat) (hi:i<xs.length),iK R xs cs→ ∃c r,cs.drop (i*k)=c++r∧R xs[i] c
 | [],cs,i,hi,h=>by simp at hi
 |x::xs,cs,0,hi,h=>by
  grind [iK]
 |x::xs,cs,i+1,hi,h=>by
  rw[iK]at h
  obtain⟨c,r,rfl,E,F⟩:=h
  obtain⟨H,I,e,J⟩:=iK.drop D i (by simpa using hi) F
  refine⟨H,I, ?_,J⟩
  have:(i+1)*k=c.length+i*k:=by rw[D _ _ E,Nat.add_mul,Nat.one_mul,Nat.add_comm]
  grind [List.drop_append,Nat.add_sub_cancel_left,List.drop_eq_nil_of_le]
theorem qu(D: ∀x c,R x c→c.length=k){xs:List α}{a:T}{E:List T}(H:iJ a xs.length E)(F:iK R xs E)(i:Nat)(hi:i<xs.length): ∃c r,(∀kk,ng a (.i kk (i:Int)) k=some (.vp (c++r)))∧R xs[i] c:=by
 obtain⟨c,r,e,I⟩:=iK.drop D i hi F
 exact⟨c,r,fun kk=>by rw[H.ia (sz:=k) (iK.len D F) hi,e],I⟩
theorem iK.append: ∀{xs D:List α} {c r:List T},iK R xs c→iK R D r→iK R (xs++D) (c++r)
 | [],D,c,r,E,F=>by grind [iK]
 |x::xs,D,c,r,E,F=>by
  rw[iK]at E
  obtain⟨H,I,rfl,J,K⟩:=E
  rw[List.append_assoc]
  exact⟨H,I++r,rfl,J,iK.append K F⟩
theorem iK.one{x:α}{c:List T}(h:R x c):iK R [x] c:=⟨c,[],by simp,h,rfl⟩
end
structure Ru where
 sc:Int
 nm:List Nat
 x:Ex
structure Co where
 sc:Int
 x:Ex
structure Li where
 nm:List Nat
 me:List Nat
 mo:Int
 da:Int
structure Of where
 nm:List Nat
 ct:Int
 da:Int
def U6(u:Ru)(c:List T):Prop:= ∃a r,c= [.i .i64 u.sc,.s u.nm,.i .i64 u.x.op,.i .i64 u.x.num,.s u.x.name,a]∧iJ a u.x.args.length r∧kz u.x.args r
def CoR(u:Co)(c:List T):Prop:= ∃a r,c= [.i .i64 u.sc,.i .i64 u.x.op,.i .i64 u.x.num,.s u.x.name,a]∧iJ a u.x.args.length r∧kz u.x.args r
def LiR(u:Li)(c:List T):Prop:=c= [.s u.nm,.s u.me,.i .i64 u.mo,.i .i64 u.da]
def OfR(u:Of)(c:List T):Prop:=c= [.s u.nm,.i .i64 u.ct,.i .i64 u.da]
theorem U6.len(u:Ru)(c:List T)(h:U6 u c):c.length=6:=by obtain⟨a,r,rfl,_⟩:=h;rfl
theorem CoR.len(u:Co)(c:List T)(h:CoR u c):c.length=5:=by obtain⟨a,r,rfl,_⟩:=h;rfl
theorem LiR.len(u:Li)(c:List T)(h:LiR u c):c.length=4:=by rw[h];rfl
theorem OfR.len(u:Of)(c:List T)(h:OfR u c):c.length=3:=by rw[h];rfl
theorem CZ{xs:List Ru}{a:T}{E:List T}(H:iJ a xs.length E)(I:iK U6 xs E)(i:Nat)(hi:i<xs.length):
  ∃b D r,(∀kk,ng a (.i kk (i:Int)) 6=some (.vp (.i .i64 xs[i].sc:: .s xs[i].nm:: .i .i64 xs[i].x.op:: .i .i64 xs[i].x.num:: .s xs[i].x.name::b::r)))∧iJ b xs[i].x.args.length D∧mE xs[i].x [.i .i64 xs[i].x.op,.i .i64 xs[i].x.num,.s xs[i].x.name,b]:=by
 obtain⟨c,r,J,b,D,rfl,F,K⟩:=qu U6.len H I i hi
 exact⟨b,D,r,J,F,mE.of F K⟩
theorem F1{xs:List Co}{a:T}{E:List T}(H:iJ a xs.length E)(I:iK CoR xs E)(i:Nat)(hi:i<xs.length):
  ∃b D r,(∀kk,ng a (.i kk (i:Int)) 5=some (.vp (.i .i64 xs[i].sc:: .i .i64 xs[i].x.op:: .i .i64 xs[i].x.num:: .s xs[i].x.name::b::r)))∧iJ b xs[i].x.args.length D∧mE xs[i].x [.i .i64 xs[i].x.op,.i .i64 xs[i].x.num,.s xs[i].x.name,b]:=by
 obtain⟨c,r,J,b,D,rfl,F,K⟩:=qu CoR.len H I i hi
 exact⟨b,D,r,J,F,mE.of F K⟩
theorem R9{xs:List Li}{a:T}{D:List T}(F:iJ a xs.length D)(H:iK LiR xs D)(i:Nat)(hi:i<xs.length):
  ∃r,∀kk,ng a (.i kk (i:Int)) 4=some (.vp (.s xs[i].nm:: .s xs[i].me:: .i .i64 xs[i].mo:: .i .i64 xs[i].da::r)):=by
 obtain⟨c,r,E,I⟩:=qu LiR.len F H i hi
 rw[I]at E
 exact⟨r,E⟩
theorem abv{xs:List Of}{a:T}{D:List T}(F:iJ a xs.length D)(H:iK OfR xs D)(i:Nat)(hi:i<xs.length):
  ∃r,∀kk,ng a (.i kk (i:Int)) 3=some (.vp (.s xs[i].nm:: .i .i64 xs[i].ct:: .i .i64 xs[i].da::r)):=by
 obtain⟨c,r,E,I⟩:=qu OfR.len F H i hi
 rw[I]at E
 exact⟨r,E⟩
structure Ct where
 rp:Int
 rl:Int
 cn:Int
 st:Int
 ly:Int
 nf:Int
 nt:Int
 cs:Cs
 ru:List Ru
 co:List Co
 cr:List Ex
 li:List Li
 fs:List Of
 gu:Int
def CW(n lo hi:Int):Bool:=decide (lo≤n)&&decide (n≤hi)
def Sa(seen:List (List Nat)):Cs→Int
 | []=>0
 |c::l=>if tA c.1=false then 1 else if c.1∈seen then 7 else if jD c.2≠0 then jD c.2 else Sa (seen++ [c.1]) l
def N6(seen:List (Int×List Nat)):List Ru→Int
 | []=>0
 |u::l=>if CW u.sc 1 3=false∨tA u.nm=false then 1 else if(u.sc,u.nm)∈seen then 7 else if jD u.x≠0 then jD u.x else N6 (seen++ [(u.sc,u.nm)]) l
def Pg:List Co→Int
 | []=>0
 |u::l=>if CW u.sc 1 3=false then 1 else if jD u.x≠0 then jD u.x else Pg l
def Ph:List Ex→Int
 | []=>0
 |x::l=>if jD x≠0 then jD x else Ph l
def abw(s:List Nat):Int:=if s= [98,108,111,99,107]∨s= [115,112,97,110]∨s= [110,105,103,104,116]∨s= [99,114,101,100,105,116]then 3 else if s= [108,101,103,115]∨s= [104,101,97,100,115]∨s= [100,117,116,105,101,115]then 2 else 0
def Sb(seen:List (List Nat)):List Li→Int
 | []=>0
 |u::l=>if tA u.nm=false then 1 else if u.nm∈seen then 7 else if abw u.me=0 then 6 else if CW u.mo 0 599999=false∨CW u.da 1 31=false then 5 else Sb (seen++ [u.nm]) l
def Vh(seen:List (List Nat)):List Of→Int
 | []=>0
 |u::l=>if tA u.nm=false then 1 else if u.nm∈seen then 7 else if CW u.da 1 31=false∨CW u.ct 1 u.da=false then 5 else Vh (seen++ [u.nm]) l
def abx(c:Ct):Int:=if Sb [] c.li≠0 then Sb [] c.li else Vh (c.li.map Li.nm) c.fs
def qY(c:Ct):Bool:=CW c.rp 0 1440&&(CW c.rl 0 1440&&(CW c.cn 0 1440&&(CW c.st c.cn 1440&&(CW c.ly 0 10080&&(CW c.nf 0 1439&&(CW c.nt 0 1439&&CW c.gu 0 599999))))))
def th(c:Ct):Bool:=decide (c.cs.length≤32)&&(decide (c.ru.length≤40)&&(decide (c.co.length≤16)&&(decide (c.cr.length≤1)&&(decide (c.li.length≤16)&&decide (c.fs.length≤16)))))
def oQ(c:Ct):Int:=if qY c=false then 5 else if th c=false then 10 else if Sa [] c.cs≠0 then Sa [] c.cs else if N6 [] c.ru≠0 then N6 [] c.ru else if Pg c.co≠0 then Pg c.co else if Ph c.cr≠0 then Ph c.cr else abx c
theorem AL(n lo hi:Int):be pE 85 [.i .i64 n,.i .i64 lo,.i .i64 hi] []=some (.b (CW n lo hi),[]):=by
 rw[iD ar5 (by simp[c85])]
 unfold CW
 by_cases h:lo≤n <;> simp only[qA,seval,c85,h]
theorem Iy(n:Int):be pE 88 [.i .i64 n] []=some (.b (CW n 1 3),[]):=by
 rw[iD ar8 (by simp[c88])]
 simp only[qA,seval,c88,AL,WL]
theorem uB{α:Type}[DecidableEq α](s:α): ∀l:List α,ja (l.map fun x=>(x,true)) s=if s∈l then some true else none
 | []=>by simp[ja]
 |a::l=>by
  rw[List.map_cons,ja,uB s l]
  grind
theorem Km(seen:List (List Nat))(s:List Nat):oU (.one .str) ((seen.map fun x=>(x,true)).map fun p=>sK p.1) ((seen.map fun x=>(x,true)).map fun p=>T.b p.2) (.s s) (.b false) false=some (.b (decide (s∈seen))):=by
 have:=Q0 (kT:=sK) (vT:=T.b) G0 (fun _=>rfl) (seen.map fun x=>(x,true)) s (.b false)
 rw[show(T.s s)=sK s from rfl,this,uB]
 grind
theorem Gu(seen:List (List Nat))(s:List Nat)(h:s∉seen):rL (.one .str) (.s s) (.b true) ((seen.map fun x=>(x,true)).map fun p=>sK p.1) ((seen.map fun x=>(x,true)).map fun p=>T.b p.2)=some (((seen++ [s]).map fun x=>(x,true)).map (fun p=>sK p.1),((seen++ [s]).map fun x=>(x,true)).map (fun p=>T.b p.2)):=by
 have:=Ax (kT:=sK) (vT:=T.b) G0 (seen.map fun x=>(x,true)) s true (by rw[uB,if_neg h])
 rw[show(T.s s)=sK s from rfl,show T.b true=T.b (true)from rfl,this]
 grind
theorem aDJ(l:Cs)(a:T)(O:List T)(Z:iJ a l.length O)(hc:lB l O)(hlen:l.length≤pG)(sX:ZQ l)(g:Nat)(fr:Fr)(lh:iL iy)(sh:List iy)
  (U:an fr 3= .mp .L 7 g) (V:an fr 8=a) (I:an fr 9= .i .i64 (l.length:Int)) (J:an fr 10= .i .i64 0) (D:a6 lh 7=⟨g,.map [] [] false⟩):
  vw pE 32 BA fr lh sh 0 2 (Sa [] l) (fun E K=>K=sh):=by
 refine jW VF (fun k f E K=>an f 10= .i .i64 (k:Int)∧a6 E 7=⟨g,.map ((((l.take k).map Prod.fst).map fun x=>(x,true)).map fun p=>sK p.1) ((((l.take k).map Prod.fst).map fun x=>(x,true)).map fun p=>T.b p.2) false⟩∧K=sh∧Sa [] l=Sa ((l.take k).map Prod.fst) (l.drop k)) l.length ⟨J,D,rfl,rfl⟩ ?_ ?_
 ·rintro k f E _ F r ⟨H,D,rfl,N⟩
  rw[List.drop_eq_getElem_cons F,Sa]at N
  have W:(k:Int)<l.length:=by omega
  have hw:=iZ (k:=k) (by omega)
  obtain⟨b,cb,rr,X,lE,uE,hb⟩:=mH Z hc k F
  obtain⟨wo,P2⟩:=sX l[k] (List.getElem_mem F)
  have Kn:=j3 (tY l[k].1)
  have Qc:=fun z fr lh sh=>uy (z:=z) (fr:=fr) (lh:=lh) (sh:=sh) l[k].2 _ hb wo P2
  have Y:=Km ((l.take k).map Prod.fst) l[k].1
  have px:=Gu ((l.take k).map Prod.fst) l[k].1
  have mI:(l.take (k+1)).map Prod.fst=(l.take k).map Prod.fst++ [l[k].1]:=by rw[List.take_succ_eq_append_getElem F,List.map_append];rfl
  by_cases hs:l[k].1∈(l.take k).map Prod.fst
  ·simp only[qB,seval,gd,BA,r,U,V,I,H,D,W,X,Kn,zL,jZ,Y,hs]
   clear r
   grind
  ·simp only[qB,seval,gd,BA,r,U,V,I,H,D,W,X,hw,Kn,zL,jZ,Y,hs,vq,CR,px hs,Qc,mI]
   clear r
   grind
 ·rintro f E _ r ⟨H,D,rfl,N⟩
  simp only[qB,seval,gd,BA,r,I,H,Int.lt_irrefl,N,List.drop_length,Sa]
theorem ano(l:Cs)(a:T)(r:List T)(D:iJ a l.length r)(E:lB l r)(hlen:l.length≤pG)(sX:ZQ l):be pE 86 [a] []=some (.i .i64 (Sa [] l),[]):=by
 have F:=aDJ l a r D E hlen sX 1
 rw[iD ar6 (by simp[c86])]
 simp only[qB,seval,c86,D.lenI,F]
 grind
def rK(p:Int×List Nat):T:= .agg [.i .i64 p.1,.s p.2]
theorem axq(a b:Int×List Nat):xW (.flat [.int,.str]) (rK a) (rK b)=some (decide (a=b)):=by
 unfold rK
 rw[alo]
 congr 1
 by_cases r:a.1=b.1 <;> by_cases D:a.2=b.2 <;> simp[r,D,Prod.ext_iff]
theorem aby(seen:List (Int×List Nat))(s:Int×List Nat):oU (.flat [.int,.str]) ((seen.map fun x=>(x,true)).map fun p=>rK p.1) ((seen.map fun x=>(x,true)).map fun p=>T.b p.2) (.agg [.i .i64 s.1,.s s.2]) (.b false) false=some (.b (decide (s∈seen))):=by
 have:=Q0 (kT:=rK) (vT:=T.b) axq (fun _=>Y0) (seen.map fun x=>(x,true)) s (.b false)
 rw[show T.agg [.i .i64 s.1,.s s.2]=rK s from rfl,this,uB]
 by_cases h:s∈seen <;> simp[h]
theorem UW(seen:List (Int×List Nat))(s:Int×List Nat)(h:s∉seen):rL (.flat [.int,.str]) (.agg [.i .i64 s.1,.s s.2]) (.b true) ((seen.map fun x=>(x,true)).map fun p=>rK p.1) ((seen.map fun x=>(x,true)).map fun p=>T.b p.2)=some (((seen++ [s]).map fun x=>(x,true)).map (fun p=>rK p.1),((seen++ [s]).map fun x=>(x,true)).map (fun p=>T.b p.2)):=by
 have:=Ax (kT:=rK) (vT:=T.b) axq (seen.map fun x=>(x,true)) s true (by rw[uB,if_neg h])
 rw[show T.agg [.i .i64 s.1,.s s.2]=rK s from rfl,this]
 simp only[List.map_append,List.map_cons,List.map_nil]
def N8(x:Ex):Prop:=0≤x.nodes∧x.sm
def KB(u:Ru):Int×List Nat:=(u.sc,u.nm)
theorem aDK(l:List Ru)(a:T)(O:List T)(ha:iJ a l.length O)(hc:iK U6 l O)(hlen:l.length≤pG)(sX: ∀u∈l,N8 u.x)(g:Nat)(fr:Fr)(lh:iL iy)(sh:List iy)
  (U:an fr 3= .mp .L 8 g) (V:an fr 9=a) (r:an fr 10= .i .i64 (l.length:Int)) (J:an fr 11= .i .i64 0) (E:a6 lh 8=⟨g,.map [] [] false⟩):
  vw pE 42 BB fr lh sh 0 2 (N6 [] l) (fun F K=>K=sh):=by
 refine jW VG (fun k f F K=>an f 11= .i .i64 (k:Int)∧a6 F 8=⟨g,.map ((((l.take k).map KB).map fun x=>(x,true)).map fun p=>rK p.1) ((((l.take k).map KB).map fun x=>(x,true)).map fun p=>T.b p.2) false⟩∧K=sh∧N6 [] l=N6 ((l.take k).map KB) (l.drop k)) l.length ⟨J,E,rfl,rfl⟩ ?_ ?_
 ·rintro k f F _ H D ⟨I,E,rfl,N⟩
  rw[List.drop_eq_getElem_cons H,N6]at N
  have W:(k:Int)<l.length:=by omega
  have hw:=iZ (k:=k) (by omega)
  obtain⟨b,cb,rr,X,lE,hb⟩:=CZ ha hc k H
  obtain⟨wo,P2⟩:=sX l[k] (List.getElem_mem H)
  have Y:=j3 (Iy l[k].sc)
  have Kn:=j3 (tY l[k].nm)
  have Qc:=fun z fr lh sh=>uy (z:=z) (fr:=fr) (lh:=lh) (sh:=sh) l[k].x _ hb wo P2
  have Z:=aby ((l.take k).map KB) (l[k].sc,l[k].nm)
  have px:=UW ((l.take k).map KB) (l[k].sc,l[k].nm)
  have mI:(l.take (k+1)).map KB=(l.take k).map KB++ [(l[k].sc,l[k].nm)]:=by rw[List.take_succ_eq_append_getElem H,List.map_append];rfl
  by_cases hs:(l[k].sc,l[k].nm)∈(l.take k).map KB
  ·simp only[qB,seval,gd,BB,D,U,V,r,I,E,W,X,Y,aj9,Kn,zL,jZ,Z,hs]
   clear D
   grind
  ·simp only[qB,seval,gd,BB,D,U,V,r,I,E,W,X,hw,Y,aj9,Kn,zL,jZ,Z,hs,vq,Y0,px hs,Qc,mI]
   clear D
   grind
 ·rintro f F _ D ⟨I,E,rfl,N⟩
  simp only[qB,seval,gd,BB,D,r,I,Int.lt_irrefl,N,List.drop_length,N6]
theorem anp(l:List Ru)(a:T)(r:List T)(D:iJ a l.length r)(E:iK U6 l r)(hlen:l.length≤pG)(sX: ∀u∈l,N8 u.x):be pE 87 [a] []=some (.i .i64 (N6 [] l),[]):=by
 have F:=aDK l a r D E hlen sX 1
 rw[iD ar7 (by simp[c87])]
 simp only[qB,seval,c87,D.lenI,F]
 grind
def Iz:List (List Nat):= [[98,108,111,99,107],[115,112,97,110],[110,105,103,104,116],[99,114,101,100,105,116],[108,101,103,115],[104,101,97,100,115],[100,117,116,105,101,115]]
theorem abz(s:List Nat):be pE 123 [.s s] []=some (.i .i64 (abw s),[]):=by
 by_cases h:s∈Iz
 ·simp only[Iz,List.mem_cons,List.not_mem_nil,or_false]at h
  rcases h with rfl|rfl|rfl|rfl|rfl|rfl|rfl <;> exact kQ (m:=20) (kN (by kernel_rfl))
 ·simp only[Iz,List.mem_cons,List.not_mem_nil,or_false,not_or]at h
  obtain⟨r,D,E,F,H,I,J⟩:=h
  rw[iD agO (by simp[VZ])]
  unfold abw
  simp only[qA,seval,VZ,r,D,E,F,H,I,J,or_self]
theorem abA(s:List Nat): ∃n:Int,(n=0↔abw s=0)∧be pE 135 [.s s] []=some (.i .i64 n,[]):=by
 by_cases h:s∈Iz
 ·simp only[Iz,List.mem_cons,List.not_mem_nil,or_false]at h
  rcases h with rfl|rfl|rfl|rfl|rfl|rfl|rfl
  iterate 4 exact⟨2,by decide,kQ (m:=20) (kN (by kernel_rfl))⟩
  iterate 3 exact⟨1,by decide,kQ (m:=20) (kN (by kernel_rfl))⟩
 ·simp only[Iz,List.mem_cons,List.not_mem_nil,or_false,not_or]at h
  obtain⟨r,D,E,F,H,I,J⟩:=h
  refine⟨0, ?_, ?_⟩
  ·unfold abw;simp[r,D,E,F,H,I,J]
  ·rw[iD agZ (by simp[V4])]
   simp only[qA,seval,V4,r,D,E,F,H,I,J]
def vX(g:Nat)(seen:List (List Nat)):iy:=⟨g,.map ((seen.map fun x=>(x,true)).map fun p=>sK p.1) ((seen.map fun x=>(x,true)).map fun p=>T.b p.2) false⟩
theorem NK(g:Nat)(seen:List (List Nat))(s:List Nat):lkE (vX g seen) g (.one .str) (.s s) (.b false) false=some (.b (decide (s∈seen))):=by
 unfold vX;rw[jZ,if_pos rfl,Km]
theorem NL{lh:iL iy}{kk:Nat}(g:Nat)(seen:List (List Nat))(s:List Nat)(h:s∉seen):muE lh kk (vX g seen) g (.one .str) (.s s) (.b true)=some (oK lh kk (vX g (seen++ [s]))):=by
 unfold vX;rw[vq,if_pos ⟨rfl,rfl⟩,Gu seen s h];rfl
theorem aDL(l:List Li)(a:T)(Z:List T)(ha:iJ a l.length Z)(hc:iK LiR l Z)(hlen:l.length≤pG)(g:Nat)(N:iy)(fr:Fr)(lh:iL iy)(sh:List iy)
  (h3:an fr 3= .mp .L 8 g) (J:an fr 10=a) (r:an fr 11= .i .i64 (l.length:Int)) (O:an fr 12= .i .i64 0) (D:a6 lh 8=vX g []) (H:a6 lh 1=N):
  vw pE 80 BD fr lh sh 0 2 (Sb [] l) (fun E U=>(Sb [] l=0→a6 E 8=vX g (l.map Li.nm))∧a6 E 1=N∧U=sh):=by
 refine jW Ls (fun k f E U=>an f 12= .i .i64 (k:Int)∧a6 E 8=vX g ((l.take k).map Li.nm)∧a6 E 1=N∧U=sh∧Sb [] l=Sb ((l.take k).map Li.nm) (l.drop k)) l.length ⟨O,D,H,rfl,rfl⟩ ?_ ?_
 ·rintro k f E _ V I ⟨K,D,H,rfl,W⟩
  rw[List.drop_eq_getElem_cons V,Sb]at W
  have iU:(k:Int)<l.length:=by omega
  have hw:=iZ (k:=k) (by omega)
  obtain⟨rr,iW⟩:=R9 ha hc k V
  have Kn:=j3 (tY l[k].nm)
  have X:=abz l[k].me
  have Y:=fun n lo hi=>j3 (AL n lo hi)
  have na:=NK g ((l.take k).map Li.nm) l[k].nm
  have F:=fun lh kk=>NL (lh:=lh) (kk:=kk) g ((l.take k).map Li.nm) l[k].nm
  have mI:(l.take (k+1)).map Li.nm=(l.take k).map Li.nm++ [l[k].nm]:=by rw[List.take_succ_eq_append_getElem V,List.map_append];rfl
  by_cases hs:l[k].nm∈(l.take k).map Li.nm
  ·simp only[qB,seval,gd,BD,I,h3,J,r,K,D,H,iU,iW,Kn,zL,na,hs]
   clear I Y F
   grind
  ·simp only[qB,seval,gd,BD,I,h3,J,r,K,D,H,iU,iW,hw,Kn,zL,na,hs,fun lh kk=>F lh kk hs,X,asA,Y,WL,mI]
   clear I Y F
   grind (splits:=30)
 ·rintro f E _ I ⟨K,D,H,rfl,W⟩
  rw[List.take_length]at D
  simp only[qB,seval,gd,BD,I,r,K,D,H,Int.lt_irrefl,W,List.drop_length,Sb]
  exact fun _=>trivial
theorem aDN(l:List Of)(r:List (List Nat))(a:T)(W:List T)(ha:iJ a l.length W)(hc:iK OfR l W)(hlen:l.length≤pG)(g:Nat)(fr:Fr)(lh:iL iy)(sh:List iy)
  (X:an fr 3= .mp .L 8 g) (JN:an fr 47=a) (D:an fr 48= .i .i64 (l.length:Int)) (K:an fr 49= .i .i64 0) (H:a6 lh 8=vX g r):
  vw pE 80 BC fr lh sh 3 2 (Vh r l) (fun I N=>N=sh):=by
 refine jW VH (fun k f I N=>an f 49= .i .i64 (k:Int)∧a6 I 8=vX g (r++(l.take k).map Of.nm)∧N=sh∧Vh r l=Vh (r++(l.take k).map Of.nm) (l.drop k)) l.length ⟨K,by simpa using H,rfl,by simp⟩ ?_ ?_
 ·rintro k f I _ O F ⟨J,H,rfl,U⟩
  rw[List.drop_eq_getElem_cons O,Vh]at U
  have Y:(k:Int)<l.length:=by omega
  have hw:=iZ (k:=k) (by omega)
  obtain⟨rr,Z⟩:=abv ha hc k O
  have Kn:=j3 (tY l[k].nm)
  have V:=fun n lo hi=>j3 (AL n lo hi)
  have na:=NK g (r++(l.take k).map Of.nm) l[k].nm
  have E:=fun lh kk=>NL (lh:=lh) (kk:=kk) g (r++(l.take k).map Of.nm) l[k].nm
  have mI:r++(l.take (k+1)).map Of.nm=(r++(l.take k).map Of.nm)++ [l[k].nm]:=by rw[List.take_succ_eq_append_getElem O,List.map_append,List.append_assoc];rfl
  by_cases hs:l[k].nm∈r++(l.take k).map Of.nm
  ·simp only[qB,seval,gd,BC,F,X,JN,D,J,H,Y,Z,Kn,zL,na,hs]
   clear F V E
   grind
  ·simp only[qB,seval,gd,BC,F,X,JN,D,J,H,Y,Z,hw,Kn,zL,na,hs,fun lh kk=>E lh kk hs,V,WL,mI]
   clear F V E
   grind
 ·rintro f I _ F ⟨J,H,rfl,U⟩
  simp only[qB,seval,gd,BC,F,D,J,Int.lt_irrefl,U,List.drop_length,Vh]
structure uF (c:Ct) (a7 a8 a9 a10 iH iG:T):Prop where
 h7: ∃cc,iJ a7 c.cs.length cc∧lB c.cs cc
 h8: ∃cc,iJ a8 c.ru.length cc∧iK U6 c.ru cc
 h9: ∃cc,iJ a9 c.co.length cc∧iK CoR c.co cc
 h10: ∃cc,iJ a10 c.cr.length cc∧kz c.cr cc
 h11: ∃cc,iJ iH c.li.length cc∧iK LiR c.li cc
 h12: ∃cc,iJ iG c.fs.length cc∧iK OfR c.fs cc
structure AJ (c:Ct):Prop where
 s7:ZQ c.cs∧c.cs.length≤pG
 s8:(∀u∈c.ru,N8 u.x)∧c.ru.length≤pG
 s9:(∀u∈c.co,N8 u.x)∧c.co.length≤pG
 s10:(∀x∈c.cr,N8 x)∧c.cr.length≤pG
 s11:c.li.length≤pG
 s12:c.fs.length≤pG
section
variable(c:Ct)(a7 a8 a9 a10 iH iG:T)(hT:uF c a7 a8 a9 a10 iH iG)(hS:AJ c)
def jb:List T:= [.i .i64 c.rp,.i .i64 c.rl,.i .i64 c.cn,.i .i64 c.st,.i .i64 c.ly,.i .i64 c.nf,.i .i64 c.nt,a7,a8,a9,a10,iH,iG,.i .i64 c.gu]
include hT hS
theorem anr:be pE 90 [.agg (jb c a7 a8 a9 a10 iH iG)] []=some (.i .i64 (abx c),[]):=by
 obtain⟨F,r,A8⟩:=hT.h11
 obtain⟨H,D,CV⟩:=hT.h12
 rw[iD asa (by simp[c90])]
 have E:=fun fr lh sh I J K N O U=>lpO (aDL c.li iH F r A8 hS.s11 1 ⟨1,.cells (jb c a7 a8 a9 a10 iH iG) 0 true⟩ fr lh sh I J K N O U) (by simp[vX])
 have V:=aDN c.fs (c.li.map Li.nm) iG H D CV hS.s12 1
 unfold jb at E ⊢
 unfold abx
 have W:vX 1 []=⟨1,.map [] [] false⟩:=rfl
 simp(maxDischargeDepth:=6) only[qB,seval,c90,Ls,r.lenI,D.lenI,W,E,V]
 grind
end
theorem aDO(l:List Co)(a:T)(V:List T)(W:iJ a l.length V)(X:iK CoR l V)(hlen:l.length≤pG)(sX: ∀u∈l,N8 u.x)(H:iy)(fr:Fr)(lh:iL iy)(sh:List iy)
  (I:an fr 84=a) (r:an fr 85= .i .i64 (l.length:Int)) (J:an fr 86= .i .i64 0) (D:a6 lh 1=H):
  vw pE 116 Eg fr lh sh 1 2 (Pg l) (fun E K=>a6 E 1=H∧K=sh):=by
 refine jW Lk (fun k f E K=>an f 86= .i .i64 (k:Int)∧a6 E 1=H∧K=sh∧Pg l=Pg (l.drop k)) l.length ⟨J,D,rfl,rfl⟩ ?_ ?_
 ·rintro k f E _ N F ⟨O,D,rfl,U⟩
  rw[List.drop_eq_getElem_cons N,Pg]at U
  have Y:(k:Int)<l.length:=by omega
  have Z:=iZ (k:=k) (by omega)
  obtain⟨b,cb,rr,iW,lE,hb⟩:=F1 W X k N
  obtain⟨wo,P2⟩:=sX l[k] (List.getElem_mem N)
  have oi:=j3 (Iy l[k].sc)
  have Qc:=fun z fr lh sh=>uy (z:=z) (fr:=fr) (lh:=lh) (sh:=sh) l[k].x _ hb wo P2
  simp only[qB,seval,gd,Eg,F,I,r,O,D,Y,iW,Z,oi,aj9,Qc]
  clear F
  grind
 ·rintro f E _ F ⟨O,D,rfl,U⟩
  simp only[qB,seval,gd,Eg,F,r,O,D,Int.lt_irrefl,U,List.drop_length,Pg]
theorem aDP(l:List Ex)(a:T)(V:List T)(W:iJ a l.length V)(X:kz l V)(hlen:l.length≤pG)(sX: ∀x∈l,N8 x)(H:iy)(fr:Fr)(lh:iL iy)(sh:List iy)
  (I:an fr 102=a) (r:an fr 103= .i .i64 (l.length:Int)) (J:an fr 104= .i .i64 0) (D:a6 lh 1=H):
  vw pE 116 Ef fr lh sh 3 2 (Ph l) (fun E K=>a6 E 1=H∧K=sh):=by
 refine jW Lj (fun k f E K=>an f 104= .i .i64 (k:Int)∧a6 E 1=H∧K=sh∧Ph l=Ph (l.drop k)) l.length ⟨J,D,rfl,rfl⟩ ?_ ?_
 ·rintro k f E _ N F ⟨O,D,rfl,U⟩
  rw[List.drop_eq_getElem_cons N,Ph]at U
  have Y:(k:Int)<l.length:=by omega
  have Z:=iZ (k:=k) (by omega)
  obtain⟨b,cb,rr,iW,lE,uE,hb⟩:=nY W X k N
  obtain⟨wo,P2⟩:=sX l[k] (List.getElem_mem N)
  have Qc:=fun z fr lh sh=>uy (z:=z) (fr:=fr) (lh:=lh) (sh:=sh) l[k] _ hb wo P2
  simp only[qB,seval,gd,Ef,F,I,r,O,D,Y,iW,Z,Qc]
  clear F
  grind
 ·rintro f E _ F ⟨O,D,rfl,U⟩
  simp only[qB,seval,gd,Ef,F,r,O,D,Int.lt_irrefl,U,List.drop_length,Ph]
section
variable(c:Ct)(a7 a8 a9 a10 iH iG:T)(hT:uF c a7 a8 a9 a10 iH iG)(hS:AJ c)
include hT hS
theorem abB:be pE 52 [.agg (jb c a7 a8 a9 a10 iH iG)] []=some (.i .i64 (oQ c),[]):=by
 have hv:=anr c a7 a8 a9 a10 iH iG hT hS
 obtain⟨⟨U,F,V⟩,⟨W,H,X⟩,⟨Y,I,Z⟩,⟨tE,r,yx⟩,⟨vN,D,A8⟩,⟨vZ,E,CV⟩⟩:=hT
 have N:=ano c.cs a7 U F V hS.s7.2 hS.s7.1
 have O:=anp c.ru a8 W H X hS.s8.2 hS.s8.1
 have J:=aDO c.co a9 Y I Z hS.s9.2 hS.s9.1 ⟨1,.cells (jb c a7 a8 a9 a10 iH iG) 0 true⟩
 have K:=aDP c.cr a10 tE r yx hS.s10.2 hS.s10.1 ⟨1,.cells (jb c a7 a8 a9 a10 iH iG) 0 true⟩
 have w:=fun n lo hi=>j3 (AL n lo hi)
 unfold jb at J K hv ⊢
 rw[iD ajO (by simp[c52])]
 unfold oQ qY th
 simp(maxDischargeDepth:=6) only[qB,seval,c52,Lj,Lk,F.froz,H.froz,F.lenI,H.lenI,I.lenI,r.lenI,D.lenI,E.lenI,F.froz1,H.froz1,I.froz1,r.froz1,D.froz1,E.froz1,w,WL,N,O,aAF,aAG,J,K,hv,aAI]
 clear N O J K hv w hS
 grind (splits:=40)
end
theorem ti(n lo hi:Int):be pE 101 [.i .i64 n,.i .i64 lo,.i .i64 hi] []=some (.b (CW n lo hi),[]):=by
 rw[iD agu (by simp[VK])]
 unfold CW
 by_cases h:lo≤n <;> simp only[qA,seval,VK,h]
theorem aDS(l:List Li)(a:T)(I:List T)(K:iJ a l.length I)(N:iK LiR l I)(hlen:l.length≤pG)(n:Nat)(hn:n≤l.length)(s:List Nat)(c:Ct)(a7 a8 a9 a10 iG:T)(O:List T)(G4:Nat)(fr:Fr)(lh:iL iy)(sh:List iy)(U:an fr 1= .ptr .L 1 1 0)(g3:an fr 3= .i .i64 (n:Int))(V:an fr 4= .ptr .L 4 G4 0)(W:an fr 5= .i .i64 0)(X:a6 lh 1=⟨1,.cells (jb c a7 a8 a9 a10 a iG) 0 true⟩)(Y:a6 lh 4=⟨G4,.cells (.s s::O) 0 true⟩):
  vw pE 112 zE fr lh sh 2 2 (if s∈(l.map Li.nm).take n then 7 else 0) (fun D E=>D=lh∧E=sh):=by
 refine jW Hf (fun j f D E=>an f 5= .i .i64 (j:Int)∧D=lh∧E=sh∧s∉(l.map Li.nm).take j) n ⟨W,rfl,rfl,by simp⟩ ?_ ?_
 ·rintro j f _ _ hj r ⟨F,rfl,rfl,J⟩
  obtain⟨rr,Z⟩:=R9 K N j (by omega)
  have hw:=iZ (k:=j) (by omega)
  have H:(j:Int)<n:=by omega
  simp only[qB,seval,gd,zE,r,U,g3,V,F,H,Z,hw,X,Y,jb]
  clear r
  grind [List.mem_take_iff_getElem]
 ·rintro f _ _ r ⟨F,rfl,rfl,J⟩
  simp only[qB,seval,gd,zE,r,g3,F,Int.lt_irrefl,J]
theorem aDT(l:List Li)(a:T)(K:List T)(D:iJ a l.length K)(U:iK LiR l K)(hlen:l.length≤pG)(s:List Nat)(c:Ct)(a7 a8 a9 a10 iG:T)(V:List T)(G7:Nat)(fr:Fr)(lh:iL iy)(sh:List iy)(N:an fr 1= .ptr .L 1 1 0)(W:an fr 7= .ptr .L 7 G7 0)(X:an fr 8= .i .i64 0)(O:a6 lh 1=⟨1,.cells (jb c a7 a8 a9 a10 a iG) 0 true⟩)(Y:a6 lh 7=⟨G7,.cells (.s s::V) 0 true⟩):
  vw pE 112 zC fr lh sh 6 2 (if s∈l.map Li.nm then 7 else 0) (fun E F=>E=lh∧F=sh):=by
 refine jW He (fun j f E F=>an f 8= .i .i64 (j:Int)∧E=lh∧F=sh∧s∉(l.map Li.nm).take j) l.length ⟨X,rfl,rfl,by simp⟩ ?_ ?_
 ·rintro j f _ _ Z r ⟨H,rfl,rfl,I⟩
  obtain⟨rr,iW⟩:=R9 D U j Z
  have hw:=iZ (k:=j) (by omega)
  have J:(j:Int)<l.length:=by omega
  simp only[qB,seval,gd,zC,r,N,W,H,D.lenI,J,iW,hw,O,Y,jb]
  clear r
  grind [List.mem_take_iff_getElem]
 ·rintro f _ _ r ⟨H,rfl,rfl,I⟩
  rw[List.take_of_length_le (by simp)]at I
  simp only[qB,seval,gd,zC,r,N,H,D.lenI,O,jb,Int.lt_irrefl,I]
theorem aDU(l:List Of)(a:T)(I:List T)(N:iJ a l.length I)(O:iK OfR l I)(hlen:l.length≤pG)(n:Nat)(hn:n≤l.length)(s:List Nat)(c:Ct)(a7 a8 a9 a10 iH:T)(U:List T)(G7:Nat)(fr:Fr)(lh:iL iy)(sh:List iy)(V:an fr 1= .ptr .L 1 1 0)(J:an fr 6= .i .i64 (n:Int))(W:an fr 7= .ptr .L 7 G7 0)(X:an fr 9= .i .i64 0)(Y:a6 lh 1=⟨1,.cells (jb c a7 a8 a9 a10 iH a) 0 true⟩)(Z:a6 lh 7=⟨G7,.cells (.s s::U) 0 true⟩):
  vw pE 112 zB fr lh sh 8 2 (if s∈(l.map Of.nm).take n then 7 else 0) (fun D E=>D=lh∧E=sh):=by
 refine jW Hd (fun j f D E=>an f 9= .i .i64 (j:Int)∧D=lh∧E=sh∧s∉(l.map Of.nm).take j) n ⟨X,rfl,rfl,by simp⟩ ?_ ?_
 ·rintro j f _ _ hj r ⟨F,rfl,rfl,K⟩
  obtain⟨rr,iW⟩:=abv N O j (by omega)
  have hw:=iZ (k:=j) (by omega)
  have H:(j:Int)<n:=by omega
  simp only[qB,seval,gd,zB,r,V,J,W,F,H,iW,hw,Y,Z,jb]
  clear r
  grind [List.mem_take_iff_getElem]
 ·rintro f _ _ r ⟨F,rfl,rfl,K⟩
  simp only[qB,seval,gd,zB,r,J,F,Int.lt_irrefl,K]
end Go.Proofs.YtjniffjppoklpaaGreat
