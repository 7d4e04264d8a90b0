/- Walks of functions of the program and of the reference, and their plain laws, part 6. Conditions: the theorems' own. -/
import Derived.Test.YtbdfboojnfinkaaGreatM5
import Derived.KernelRfl
set_option maxRecDepth 100000
set_option linter.unusedSimpArgs false
set_option linter.unusedVariables false
set_option maxHeartbeats 16000000
namespace Go.Proofs.YtbdfboojnfinkaaGreat
open Go Go.Ev
section
variable(l:Cs)(lT:T)(R:List ib)(cl:List T)(hl:IsSl lT l.length cl)(l9:kN l cl)(hlen:l.length≤oh)
theorem GY(n:Nat)(En:n≤l.length)(hc: ∀j,j<n→aqg l lT R j)(scope:Int)(nQ:scope=0∨scope=1∨scope=2∨scope=3)(x:Ex):aqf l lT R n scope x:=by
 induction x using Ex.ind with
 |h x ih=>
  intro k kn cs O hx hn sv ht
  obtain⟨a,cc,rfl,ha,AJ⟩:=hx.cells
  obtain⟨E,h2,lD,Gy,yo,AI⟩:=vC sv
  have hnd:=x.nodes_eq
  rw[im adE (by simp[Hv]),rm]
  by_cases e1:x.op=1
  ·rw[if_pos (.inl e1)]
   simp only[qA,seval,Hv,e1]
   exact⟨_,kn,rfl,og.of (x:= .mk 1 x.num []) (Or.inl ⟨rfl,rfl,rfl⟩) iT.nil,O,fun _ _=>rfl⟩
  by_cases e2:x.op=2
  ·rw[if_pos (.inr (.inl e2))]
   simp only[qA,seval,Hv,e2]
   exact⟨_,kn,rfl,og.of (x:= .mk 1 x.num []) (Or.inl ⟨rfl,rfl,rfl⟩) iT.nil,O,fun _ _=>rfl⟩
  by_cases e3:x.op=3
  ·rw[if_pos (.inr (.inr e3))]
   simp only[qA,seval,Hv,e3]
   exact⟨_,kn,rfl,og.of (x:= .mk 1 x.num []) (Or.inl ⟨rfl,rfl,rfl⟩) iT.nil,O,fun _ _=>rfl⟩
  rw[if_neg (by omega)]
  by_cases e4:x.op=4
  ·rw[if_pos e4]
   simp only[qA,seval,Hv,e4]
   exact⟨_,kn,rfl,og.of (x:= .mk 1 1 []) (Or.inl ⟨rfl,rfl,rfl⟩) iT.nil,O,fun _ _=>rfl⟩
  rw[if_neg e4]
  by_cases e5:x.op=5
  ·rw[if_pos e5]
   simp only[qA,seval,Hv,e5]
   exact⟨_,kn,rfl,og.of (x:= .mk 1 0 []) (Or.inl ⟨rfl,rfl,rfl⟩) iT.nil,O,fun _ _=>rfl⟩
  rw[if_neg e5]
  by_cases N:x.op=6
  ·rw[if_pos N]
   rw[Ex.ty_eq,if_pos N]at ht
   have D:=lkS (kK (QC scope) (QC scope).length) x.name
   change _=some (QD (Kb scope x.name))at D
   by_cases hz:kA scope x.name=0
   ·rw[if_neg (by simp[hz])]at ht
    have hp:=(qy scope x.name).2 hz
    rw[hp]at D ⊢
    obtain⟨i,qh,ra,DW,_,_,ag0,_⟩:=vD En ht
    obtain⟨U,iu,oq,AR⟩:=hc i ra x.name k kn DW ag0 O
    simp only[QD]at D
    rcases nQ with rfl|rfl|rfl|rfl
    ·change nF _ ((kK [] 0).map _) ((kK [] 0).map _) _ _ _=_ at D
     simp only[qA,seval,mf,kD,Hv,N,GW,aww,jB,D,iu,Xd]
     exact⟨_,U,rfl,og.of (x:= .mk 1 (mZ l x.name) []) (Or.inl ⟨rfl,rfl,rfl⟩) iT.nil,oq,fun i hi=>AR i (by omega)⟩
    ·change nF _ ((kK iK 11).map _) ((kK iK 11).map _) _ _ _=_ at D
     simp only[qA,seval,mf,kD,Hv,N,GW,aqb,jB,D,iu,Xd]
     exact⟨_,U,rfl,og.of (x:= .mk 1 (mZ l x.name) []) (Or.inl ⟨rfl,rfl,rfl⟩) iT.nil,oq,fun i hi=>AR i (by omega)⟩
    ·change nF _ ((kK k8 25).map _) ((kK k8 25).map _) _ _ _=_ at D
     simp only[qA,seval,mf,kD,Hv,N,GW,aqc,jB,D,iu,Xd]
     exact⟨_,U,rfl,og.of (x:= .mk 1 (mZ l x.name) []) (Or.inl ⟨rfl,rfl,rfl⟩) iT.nil,oq,fun i hi=>AR i (by omega)⟩
    ·change nF _ ((kK pb 7).map _) ((kK pb 7).map _) _ _ _=_ at D
     simp only[qA,seval,mf,kD,Hv,N,GW,aqd,jB,D,iu,Xd]
     exact⟨_,U,rfl,og.of (x:= .mk 1 (mZ l x.name) []) (Or.inl ⟨rfl,rfl,rfl⟩) iT.nil,oq,fun i hi=>AR i (by omega)⟩
   ·cases hp:Kb scope x.name with
    |none=>exact absurd ((qy scope x.name).1 hp) hz
    |some i=>
     rw[hp]at D
     rw[show QD (some i)= .tup [.i .i64 (i:Int),.b true]from rfl]at D
     have hf:og (.mk 6 (i:Int) []) [.i .i64 6,.i .i64 (i:Int),.nilsl]:=og.of (x:= .mk 6 (i:Int) []) (Or.inl ⟨rfl,rfl,rfl⟩) iT.nil
     rcases nQ with rfl|rfl|rfl|rfl
     ·exact absurd (my _) hz
     ·change nF _ ((kK iK 11).map _) ((kK iK 11).map _) _ _ _=_ at D
      simp only[qA,seval,mf,Hv,N,GW,aqb,jB,D]
      exact⟨_,kn,rfl,hf,O,fun _ _=>rfl⟩
     ·change nF _ ((kK k8 25).map _) ((kK k8 25).map _) _ _ _=_ at D
      simp only[qA,seval,mf,Hv,N,GW,aqc,jB,D]
      exact⟨_,kn,rfl,hf,O,fun _ _=>rfl⟩
     ·change nF _ ((kK pb 7).map _) ((kK pb 7).map _) _ _ _=_ at D
      simp only[qA,seval,mf,Hv,N,GW,aqd,jB,D]
      exact⟨_,kn,rfl,hf,O,fun _ _=>rfl⟩
  ·rw[if_neg N]
   obtain⟨ts,sH,hr,hk⟩:=vF ht N
   have yB:=jQ x.args
   have C3:x.args.length≤oh:=kI (by omega)
   have hmk:x.args.length*40≤roomy∧x.args.length≤roomy:=by unfold oh at C3;unfold roomy;omega
   have Ha:=fun fr lh sh F H E I B9 E9 GX J K Fa=>awy l lT R n scope x.args (fun y hy=>ih y hy) a cc ha AJ (by omega) AI ts sH kn O (.i .i64 x.op) 1 1 ⟨1,.cells [.i .i64 0,.i .i64 0,.nilsl] 0 true⟩ fr lh sh F H E I B9 E9 GX J K Fa
   have hL:=fun fr lh sh F H E I B9 E9 GX J K Fa=>And.intro (Ha fr lh sh F H E I B9 E9 GX J K Fa).1 (And.intro (Ha fr lh sh F H E I B9 E9 GX J K Fa).2.1 (And.intro (Ha fr lh sh F H E I B9 E9 GX J K Fa).2.2.1 (And.intro (Ut (Ha fr lh sh F H E I B9 E9 GX J K Fa).2.2.2.1).1 (acT (Ha fr lh sh F H E I B9 E9 GX J K Fa).2.2.2.2).1)))
   have hF:=fun fr lh sh F H E I B9 E9 GX J K Fa=>(Ut (Ha fr lh sh F H E I B9 E9 GX J K Fa).2.2.2.1).2
   have hM:=fun fr lh sh F H E I B9 E9 GX J K Fa=>(acT (Ha fr lh sh F H E I B9 E9 GX J K Fa).2.2.2.2).2
   have V:=fun fr lh sh F H E I B9 E9 GX J K Fa=>(hF fr lh sh F H E I B9 E9 GX J K Fa).len
   have l9:(lK (mZ l) scope x.args).length=x.args.length:=by rw[p5];simp
   rw[l9]at V
   simp only[qA,seval,iY,mX,iC,kV,Hv,QO,e1,e2,e3,e4,e5,N,ha.lenI,hmk,hL,V]
   generalize hX:Us _ _=X
   generalize hMX:kL _ _ _ _ _ _=U
   have W:iT (lK (mZ l) scope x.args) X:=by
    rw[←hX]
    refine hF _ _ _ rfl ?_ ?_ ?_ ?_ ?_ ?_ ?_ ?_ ?_ <;> simp only[qA,seval]
   have Y:oi l U∧ ∀i,n≤i→iH U i=iH kn i:=by
    rw[←hMX]
    refine hM _ _ _ rfl ?_ ?_ ?_ ?_ ?_ ?_ ?_ ?_ ?_ <;> simp only[qA,seval]
   have Z:=W.len
   rw[l9]at Z
   rw[←Z,List.take_length]
   exact⟨_,U,rfl,og.of (x:= .mk x.op 0 (lK (mZ l) scope x.args)) (Or.inr ⟨false,by show T.sl X x.args.length false= .sl X (lK (mZ l) scope x.args).length false;rw[l9]⟩) W,Y.1,Y.2⟩
end
theorem nL{x:Ex}(hv:jh x=0):x.nodes≤200∧x.depth≤16:=by
 unfold jh at hv
 by_cases h:big x
 ·rw[if_pos h]at hv;cases hv
 ·unfold big at h;omega
theorem Wd{lh:iz ib}{sh:List ib}{keep:Bool}{k g E:Nat}{cs:List T}{bx:Bool}(h:a6 lh k=⟨g,.cells cs E bx⟩)(D:cs.all froz1=true):fzV lh sh keep (.ptr .L k g 0)=some (.vp cs,[(.L,k,⟨g,.cells cs cs.length bx⟩)]):=by
 unfold fzV iE
 have H:(keep&&Sp.L==Sp.S)=false:=by cases keep <;> rfl
 show Q.run _ _ (if(keep&&Sp.L==Sp.S)=true then _ else _)=_
 rw[H]
 simp only[Bool.false_eq_true,if_false,Q.run]
 have F:(St.mk .nil lh sh).get .L k=⟨g,.cells cs E bx⟩:=h
 rw[F]
 simp only[if_true,List.drop_zero]
 have:jd (fz false 7) cs= .ret (cs,[]):=by
  clear h F
  induction cs with
  |nil=>rfl
  |cons c cs ih=>
   rw[List.all_cons,Bool.and_eq_true]at D
   simp only[jd,uy D.1,ih D.2,Q.bind,List.append_nil]
 rw[this]
 rfl
theorem const_comp{l:Cs}{s:List Nat}{t:Int}(h:Gr l s=(t,0)): ∃i,∃hi:i<l.length,lN l s=some i∧jh l[i].2=0∧l[i].2.ty (CL l i) 0=(t,0)∧Kc [] (comp (mZ l) 0 l[i].2)∧(comp (mZ l) 0 l[i].2).val []=mZ l s∧mZ l s=(tX l l.length).getD i 0:=by
 obtain⟨i,hi,DW,hv,J,D,Ge,K,_,N⟩:=JK h
 have E:=mM hv
 have O:=(l[i].2).nodes_eq
 have U:=nL hv
 have V:LC (Nm (Gr l) 0) (tW (mZ l) 0 []):=by rw[ap7,acS];exact Gs l
 obtain⟨W,F,H⟩:=Nn V rfl l[i].2 t E (by omega) D
 rw[acS]at F H
 have X:=(JI (Gs l) 0 (fun s=>my s) l[i].2 t E D).1
 have Zr:V7 l 0 l[i].2=vP t (l[i].2.val0 (mZ l)):=X
 rw[Ge]at Zr
 have Y:=(GU (scope:=0) K).2.2
 have I:=(GU (scope:=0) H).2.2
 rw[←Zr,Y]at I
 exact⟨i,hi,DW,hv,J,W,by rw[F,I],N⟩
section
variable(l:Cs)(lT:T)(R:List ib)(cl:List T)(hl:IsSl lT l.length cl)(l9:kN l cl)(hlen:l.length≤oh)
include hl l9
theorem GZ: ∀j,j<l.length→aqg l lT R j:=by
 intro j
 induction j using Nat.strongRecOn with
 |ind j ih=>
  intro V s t kn DW K N
  obtain⟨j',WW,NL,hv,Y,Z,F,W⟩:=const_comp K
  rw[DW]at NL
  cases NL
  have E:=lkS (jo l l.length) s
  rw[vJ l s l.length (Nat.le_refl _),List.take_length,DW]at E
  rw[show QD (some j)= .tup [.i .i64 (j:Int),.b true]from rfl]at E
  have D:nF (.one .int) (kn.map fun p=>nK p.1) (kn.map fun p=>iV p.2) (.i .i64 (j:Int)) (.i .i64 0) true=_:=afm (kT:=nK) (vT:=iV) Z2 (fun _=>rfl) kn j (.i .i64 0)
  rw[im alf (by simp[c65])]
  cases J:iH kn j with
  |some v=>
   have e:=N j v J
   rw[J]at D
   simp only[show iV v= .i .i64 v from rfl]at D
   rw[W,←e]
   simp only[qA,seval,c65,GW,ap9,aqa,jB,E,D]
   exact⟨kn,rfl,N,fun _ _=>rfl⟩
  |none=>
   rw[J]at D
   simp only at D
   obtain⟨b,cb,r,iS,kg,tK,hb⟩:=lW hl l9 j V
   obtain⟨cf,H,iu,zj,oq,AR⟩:=GY l lT R j (Nat.le_of_lt V) (fun i hi=>ih i hi (by omega)) 0 (.inl rfl) l[j].2 t kn _ N hb (nL hv).1 (mM hv) Y
   obtain⟨O,fc,rfl,X,MU⟩:=zj.cells
   have I:=Vm [] .nilsl (Or.inl ⟨rfl,rfl,rfl⟩) (comp (mZ l) 0 l[j].2) O fc [] X MU Z
   rw[F]at I
   have tT:iH H j=none:=by rw[AR j (Nat.le_refl _),J]
   have nY:p6 (.one .int) (.i .i64 (j:Int)) (.i .i64 (mZ l s)) (H.map fun p=>nK p.1) (H.map fun p=>iV p.2)=_:=xS (kT:=nK) (vT:=iV) Z2 H j (mZ l s) tT
   generalize comp (mZ l) 0 l[j].2=y at*
   have Qi:([T.i .i64 y.op,T.i .i64 y.num,O]:List T).all froz1=true:=by simp[X.froz1,xM]
   have U:=fun lh sh keep (h:a6 lh 9=⟨1,.cells [.i .i64 y.op,.i .i64 y.num,O] 0 true⟩)=>Wd (sh:=sh) (keep:=keep) h Qi
   simp only[qA,seval,kD,c65,GW,ap9,aqa,jB,E,D,iS,kg.kept1,iu,qI,U,atr,I,acs,nY,aqe]
   refine⟨_,rfl, ?_, ?_⟩
   ·intro i v hi
    rw[pW]at hi
    cases OZ:iH H i with
    |some u=>rw[OZ]at hi;cases hi;exact oq i _ OZ
    |none=>
     rw[OZ]at hi
     simp only at hi
     split at hi
     ·rename_i e;subst e;cases hi;exact W
     ·cases hi
   ·intro i hi
    rw[pW,AR i (by omega)]
    cases iH kn i with
    |some u=>rfl
    |none=>simp only;rw[if_neg (by omega)]
end
theorem Jo(op num:Int)(h:op=1∨op=2∨op=3∨op=4∨op=5)(a:T):hZ pE 134 [.i .i64 op,.i .i64 num,a] []=some (.i .i64 (if op=1∨op=2∨op=3 then num else if op=4 then 1 else 0),[]):=by
 rw[im Sd (by simp[ug])]
 rcases h with rfl|rfl|rfl|rfl|rfl <;> simp only[qA,seval,ug,true_or,or_true,or_self]
theorem Gx{cl:List Nat→Int×Int}{scope:Int}: ∀{xs:List Ex} {ts:List Int},pc cl scope xs= .ok ts→ ∀(k:Nat) (D:k<xs.length),∃t,xs[k].ty cl scope=(t,0)
 | [],ts,h,k,D=>by simp at D
 |x::xs,ts,h,k,D=>by
  obtain⟨t,us,rfl,E,F⟩:=sD h
  cases k with
  |zero=>grind
  |succ k=>simp_all[Gx]
theorem C0{cl:List Nat→Int×Int}{E:List Nat→Int}(F:LC cl E){scope:Int}(H: ∀s,kA scope s=0): ∀{xs:List Ex} {ts:List Int},wP xs=true→pc cl scope xs= .ok ts→yx ts (kj E xs)
 | [],ts,_,h=>by rw[pc]at h;cases h;trivial
 |x::xs,ts,D,h=>by
  obtain⟨t,us,rfl,I,J⟩:=sD h
  rw[wP,Bool.and_eq_true]at D
  exact⟨(JI F scope H x t D.1 I).2,C0 F H D.2 J⟩
theorem Fb(l:Cs)(k:Nat): ∀n,n≤k→n≤l.length→kB (l.take k) n=kB l n
 |0,_,_=>rfl
 |n+1,h,hl=>by
  rw[vI l (by omega),vI (l.take k) (by rw[List.length_take];omega),Fb l k n (by omega) (by omega),List.take_take,Nat.min_eq_left (by omega),List.getElem_take]
theorem Df(l:Cs){k:Nat}(h:k≤l.length)(x:Ex):si (l.take k) 0 x=tV (l.take k) (kB l k) x:=by
 grind [si,tV,List.length_take,Nat.min_eq_left,Fb]
section
variable(l:Cs)(n:Nat)(En:n≤l.length)(lT vT:T)(cl:List T)(hl:IsSl lT n cl)(l9:kN (l.take n) cl)(hlen:l.length≤oh)(hv:IsSl vT n (ints (tX l n)))
def acV(y:Ex):Prop:= ∀k cs,lv y cs→y.nodes≤100000→y.wf=true→y.ty (CL l n) 0=(k,0)→hZ pE 76 [vT,lT,.i .i64 0,.nilsl,.agg cs] []=some (.i .i64 (y.val0 (VX l n)),[])
include hl hv
theorem aqh(xs:List Ex)(ih: ∀y∈xs,acV l n lT vT y)(a:T)(X:List T)(N:IsSl a xs.length X)(hx:jx xs X)(hn:jz xs≤100000)(sv:wP xs=true)(ts:List Int)(mV:pc (CL l n) 0 xs= .ok ts)(op num:Int)(s:List Nat)(g:Nat)(fr:Fr)(lh:iz ib)(sh:List ib)
  (E:an fr 0=vT) (F:an fr 1=lT) (H:an fr 2= .i .i64 0) (I:an fr 3= .nilsl) (h:an fr 9= .ptr .L 9 g 0) (O:an fr 13= .nilsl) (J:an fr 14= .i .i64 0) (U:a6 lh 9=⟨g,.cells [.i .i64 op,.i .i64 num,.s s,a] 0 true⟩):
  rD 70 ni fr lh sh (.ext 0)∧
  (iP (lZ pE 70 ni fr lh sh) (an (pw pE 70 ni fr lh sh) 13) 63 1 xs.length (ints (kj (VX l n) xs))∧a6 (lZ pE 70 ni fr lh sh) 9=a6 lh 9∧ng pE 70 ni fr lh sh=sh):=by
 refine jc (P:=fun js Y jb=>iP Y (an js 13) 63 1 xs.length (ints (kj (VX l n) xs))∧a6 Y 9=a6 lh 9∧jb=sh)
  (jm (fun k st=> ∃(fr:Fr) (K:iz ib),st=⟨fr,K,sh⟩∧an fr 0=vT∧an fr 1=lT∧an fr 2= .i .i64 0∧an fr 3= .nilsl∧an fr 9= .ptr .L 9 g 0∧an fr 14= .i .i64 (k:Int)∧a6 K 9=a6 lh 9∧
    iP K (an fr 13) 63 1 k (ints (kj (VX l n) (xs.take k)))) _ xs.length ?_ ?_ 0 _ (Nat.zero_le _) ⟨fr,lh,rfl,E,F,H,I,h,J,rfl,by rw[O];exact iP.nil⟩)
 ·rintro k _ A6 ⟨fr,K,rfl,E,F,H,I,h,J,P2,D⟩
  left
  rw[U]at P2
  have iR:(k:Int)<xs.length:=by omega
  have V:=jQ xs
  have hyk:=l8 (List.getElem_mem A6)
  have hw:=iG (k:=k) (kI (by omega))
  obtain⟨b,cb,rr,iS,kg,tK,hb⟩:=nJ N hx k A6
  obtain⟨t,ht⟩:=Gx mV k A6
  have Z:=ih xs[k] (List.getElem_mem A6) t _ hb (by omega) (vw.1 sv _ (List.getElem_mem A6)) ht
  have W:=oe D (kI (by omega)) (sh:=sh) (T.i .i64 (xs[k].val0 (VX l n))) true
  have pD:kj (VX l n) (xs.take (k+1))=kj (VX l n) (xs.take k)++ [xs[k].val0 (VX l n)]:=by
   grind [List.take_succ_eq_append_getElem,sw]
  generalize xs[k].val0 (VX l n)=q at Z W pD
  generalize O:an fr 13=v13 at D W
  simp only[qA,seval,repl,ni,E,F,H,I,h,O,J,P2,N.lenI,iR,iS,hw,Z,adZ,kg.froz1,hv.froz,hl.froz,D.notS,W.1]
  refine⟨_,rfl,_,_,rfl, ?_, ?_, ?_, ?_, ?_, ?_, ?_, ?_⟩
  all_goals first|(simp only[qA,seval,E,F,H,I,h];done)|skip
  ·grind
  ·simp only[qA,seval]
   grind [sx]
 ·rintro _ ⟨fr,K,rfl,E,F,H,I,h,J,P2,D⟩
  rw[U]at P2
  rw[List.take_length]at D
  simp only[qA,seval,ni,h,J,P2,N.lenI,Int.lt_irrefl]
  refine⟨_,_,qH,rfl,rfl, ?_,by rw[P2,U],rfl⟩
  simp only[qA,seval]
  exact D
include En l9 hlen
theorem aai(x:Ex):acV l n lT vT x:=by
 induction x using Ex.ind with
 |h x ih=>
  intro k cs hx hn sv U
  obtain⟨a,cc,rfl,ha,AJ⟩:=hx.cells
  obtain⟨O,F,lD,Gy,yo,AI⟩:=vC sv
  have hnd:=x.nodes_eq
  rw[im OE (by simp[Qs]),Ex.val0_eq]
  by_cases D:x.op=6
  ·rw[if_pos D]
   have E:=xZ 0 x.name
   unfold sg at E
   rw[Ex.ty_eq,if_pos D,if_neg (by simp[my])]at U
   rw[if_pos (my _),my]at E
   obtain⟨i,qh,H,DW,_⟩:=vD En U
   have NL:lN (l.take n) x.name=some i:=by rw[vG,DW];simp[H]
   have WT:=Gz (l.take n) x.name lT cl (by rw[List.length_take,Nat.min_eq_left En];exact hl) l9 (by rw[List.length_take];omega)
   rw[vE NL]at WT
   have e1:=fun kk=>rG (ts:=tX l n) (by rw[m8];exact hv) (k:=i) (by rw[m8];exact H) kk
   have e2:VX l n x.name=(tX l n)[i]'(by rw[m8];exact H):=by
    simp_all[VX,Vu,m8]
   rw[e2]
   simp only[qA,seval,Qs,D,E,vV,WT,L8,hl.froz,e1]
  ·rw[if_neg D]
   obtain⟨ts,V,hr,hk⟩:=vF U D
   have W:=fun fr lh sh I O F X Y Z jN o9=>aqh l n lT vT cl hl hv x.args (fun y hy=>ih y hy) a cc ha AJ (by omega) AI ts V x.op x.num x.name 1 fr lh sh I O F X Y Z jN o9
   have hO:=fun fr lh sh I O F X Y Z jN o9=>iP.fzV (sh:=sh) (keep:=false) (W fr lh sh I O F X Y Z jN o9).2.1
   have yB:=jQ x.args
   have H:=C0 (V6 l n En) (scope:=0) (fun s=>my s) AI V
   have WH:=tq V
   have J:(kj (VX l n) x.args).length=x.args.length:=by rw[sw,List.length_map]
   by_cases h5:x.op≤5
   ·have Ar:x.op=1∨x.op=2∨x.op=3∨x.op=4∨x.op=5:=by omega
    have K:=Jo x.op x.num Ar (kz x.args.length (ints (kj (VX l n) x.args)))
    have N:(if x.op=1∨x.op=2∨x.op=3 then x.num else if x.op=4 then 1 else if x.op=5 then 0 else DL x.op (kj (VX l n) x.args))=(if x.op=1∨x.op=2∨x.op=3 then x.num else if x.op=4 then 1 else 0):=by
     grind
    rw[N]
    generalize (if x.op=1∨x.op=2∨x.op=3 then x.num else if x.op=4 then 1 else 0)=q at K ⊢
    simp only[qA,seval,Qs,wV,D,W,hO,K,L9]
   ·have h7:7≤x.op:=by omega
    have mw:=Nq H h7 F (by rw[WH];exact lD) hr hk
    have K:=EP x.op x.num (kj (VX l n) x.args) (kz x.args.length (ints (kj (VX l n) x.args))) (by rw[J];exact mg (fun I=>by rw[I]at J;rw[List.length_eq_zero_iff.1 J];rfl)) (by rw[J];exact kI (by omega)) h7 F (by rw[J];exact lD) mw.1
    rw[if_neg (by omega),if_neg (by omega),if_neg (by omega)]
    generalize DL x.op (kj (VX l n) x.args)=q at K ⊢
    simp only[qA,seval,Qs,wV,D,W,hO,K,L9]
end
section
variable(l:Cs)(lT:T)(cl:List T)(hl:IsSl lT l.length cl)(l9:kN l cl)(hlen:l.length≤oh)(qW:U2 l)
theorem NM{k:Nat}(h:k<l.length)(hl:IsSl lT l.length cl)(l9:kN l cl): ∃ex,lT= .sl cl l.length ex∧IsSl (.sl (List.take (k*5) cl) k (ex&&decide (k=l.length))) k (cl.take (k*5))∧kN (l.take k) (cl.take (k*5))∧cl.length=l.length*5:=by
 rcases hl with⟨_,hz,_⟩|⟨ex,rfl⟩
 ·omega
 ·exact⟨ex,rfl,Or.inr ⟨_,rfl⟩,l9.take k,l9.len⟩
theorem JN(qW:U2 l)(k:Nat):U2 (l.take k):=fun c h=>qW c (List.mem_of_mem_take h)
include hl l9 hlen qW
theorem awz(fr:Fr)(lh:iz ib)(sh:List ib)(F:an fr 0=lT)(K:an fr 3= .nilsl)(I:an fr 4= .i .i64 0):
  rD 43 uf fr lh sh (.ext 0)∧
  (iP (lZ pE 43 uf fr lh sh) (an (pw pE 43 uf fr lh sh) 3) 41 1 l.length (ints (tX l l.length))∧ng pE 43 uf fr lh sh=sh):=by
 refine jc (P:=fun js iN jb=>iP iN (an js 3) 41 1 l.length (ints (tX l l.length))∧jb=sh)
  (jm (fun k st=> ∃(fr:Fr) (V:iz ib),st=⟨fr,V,sh⟩∧an fr 0=lT∧an fr 4= .i .i64 (k:Int)∧iP V (an fr 3) 41 1 k (ints (tX l k))) _ l.length ?_ ?_ 0 _ (Nat.zero_le _) ⟨fr,lh,rfl,F,I,by rw[K];exact iP.nil⟩)
 ·rintro k _ W ⟨fr,V,rfl,F,I,D⟩
  left
  have Y:(k:Int)<l.length:=by omega
  have Z:=iG (k:=k) (by omega)
  obtain⟨b,cb,r,iS,kg,tK,hb⟩:=lW hl l9 k W
  obtain⟨NB,Ke⟩:=qW l[k] (List.getElem_mem W)
  obtain⟨ex,rfl,tG,N,Qc⟩:=NM l lT cl W hl l9
  have O:k≤l.length:=by omega
  have U:(l.take k).length=k:=by rw[List.length_take,Nat.min_eq_left O]
  have H:=C5 (l.take k) (.sl (List.take (k*5) cl) k (ex&&decide (k=l.length))) (cl.take (k*5)) (by rw[U];exact tG) N (by rw[U];omega) (JN l qW k) 0 l[k].2 _ hb NB Ke
  rw[Df l O]at H
  have h:=fun(hz:l[k].2.nodes≤100000) (hv:l[k].2.wf=true) (ht:l[k].2.ty (CL l k) 0=((tV (l.take k) (kB l k) l[k].2).1,0))=>aai l k O (.sl (List.take (k*5) cl) k (ex&&decide (k=l.length))) (kz k (ints (tX l k))) (cl.take (k*5)) tG N hlen D.isl l[k].2 (tV (l.take k) (kB l k) l[k].2).1 _ hb hz hv ht
  have X:=JJ l W
  by_cases E:(tV (l.take k) (kB l k) l[k].2).2=0
  ·rw[if_pos E]at X
   have DM:jh l[k].2=0:=by
    unfold tV at E
    grind
   have h:=h (by have:=yq DM;omega) (mM DM) (by
    have:tV (l.take k) (kB l k) l[k].2=l[k].2.ty (CL l k) 0:=by unfold tV CL;rw[if_neg (by simp[DM])]
    rw[←this];exact Prod.ext rfl E)
   change hZ pE 76 _ []=some (.i .i64 (l[k].2.val0 (Vu (l.take k) (tX l k))),[])at h
   generalize l[k].2.val0 (Vu (l.take k) (tX l k))=q at h X
   generalize tV (l.take k) (kB l k) l[k].2=p at H E
   obtain⟨p1,p2⟩:=p
   simp only at H E
   subst E
   have J:=oe D (by omega) (sh:=sh) (T.i .i64 q) true
   generalize K:an fr 3=v3 at D J
   simp only[qA,seval,wC,repl,iY,uf,F,K,I,Y,iS,Z,H,L3,RU,kg.froz1,O,Qc,Nat.sub_zero,D.fzV,h,ats,atu,D.notS,J.1]
   refine⟨_,rfl,_,_,rfl, ?_, ?_, ?_⟩
   all_goals first|(simp only[qA,seval,F];done)|skip
   simp only[qA,seval]
   grind [sx]
  ·rw[if_neg E]at X
   generalize tV (l.take k) (kB l k) l[k].2=p at H E
   obtain⟨p1,p2⟩:=p
   simp only at H E
   have J:=oe D (by omega) (sh:=sh) (T.i .i64 0) true
   generalize K:an fr 3=v3 at D J
   simp only[qA,seval,wC,repl,iY,uf,F,K,I,Y,iS,Z,H,L3,RU,kg.froz1,O,Qc,Nat.sub_zero,E,D.notS,J.1]
   refine⟨_,rfl,_,_,rfl, ?_, ?_, ?_⟩
   all_goals first|(simp only[qA,seval,F];done)|skip
   simp only[qA,seval]
   rw[X,sx]
   exact J.2.1
 ·rintro _ ⟨fr,V,rfl,F,I,D⟩
  simp only[qA,seval,uf,F,I,hl.lenI,Int.lt_irrefl]
  refine⟨_,_,qH,rfl,rfl, ?_,rfl⟩
  simp only[qA,seval]
  exact D
theorem P3:hZ pE 77 [lT] []=some (kz l.length (ints (tX l l.length)),[]):=by
 have F:=fun fr lh sh h D E=>awz l lT cl hl l9 hlen qW fr lh sh h D E
 have WR:=fun keep fr lh sh h D E=>iP.fzV (keep:=keep) (sh:=sh) (F fr lh sh h D E).2.1
 rw[im ad0 (by simp[c77])]
 simp only[qA,seval,c77,F,WR,zB]
end
def iB{α:Type}(R:α→List T→Prop):List α→List T→Prop
 | [],cs=>cs= []
 |x::xs,cs=> ∃c r,cs=c++r∧R x c∧iB R xs r
section
variable{α:Type}{R:α→List T→Prop}{k:Nat}
theorem iB.len(D: ∀x c,R x c→c.length=k): ∀{xs:List α} {cs:List T},iB R xs cs→cs.length=xs.length*k
 | [],cs,h=>by grind [iB]
 |x::xs,cs,h=>by
  rw[iB]at h
  obtain⟨c,r,rfl,E,F⟩:=h
  rw[List.length_append,D _ _ E,iB.len D F,List.length_cons,Nat.add_mul,Nat.one_mul,Nat.add_comm]
theorem iB.drop(D: ∀x c,R x c→c.length=k): ∀{xs:List α} {cs:List T} (i:Nat) (hi:i<xs.length),iB R xs cs→ ∃c r,cs.drop (i*k)=c++r∧R xs[i] c
 | [],cs,i,hi,h=>by simp at hi
 |x::xs,cs,0,hi,h=>by
  grind [iB]
 |x::xs,cs,i+1,hi,h=>by
  rw[iB]at h
  obtain⟨c,r,rfl,E,F⟩:=h
  obtain⟨H,I,e,J⟩:=iB.drop D i (by simpa using hi) F
  refine⟨H,I, ?_,J⟩
  have:(i+1)*k=c.length+i*k:=by rw[D _ _ E,Nat.add_mul,Nat.one_mul,Nat.add_comm]
  grind [List.drop_append,Nat.add_sub_cancel_left,List.drop_eq_nil_of_le]
theorem oa(h: ∀x c,R x c→c.length=k){xs:List α}{a:T}{D:List T}(F:IsSl a xs.length D)(E:iB R xs D)(i:Nat)(hi:i<xs.length): ∃c r,(∀kk,pv a (.i kk (i:Int)) k=some (.vp (c++r)))∧R xs[i] c:=by
 obtain⟨c,r,e,H⟩:=iB.drop h i hi E
 exact⟨c,r,fun kk=>by rw[F.ia (sz:=k) (iB.len h E) hi,e],H⟩
theorem iB.append: ∀{xs h:List α} {c r:List T},iB R xs c→iB R h r→iB R (xs++h) (c++r)
 | [],h,c,r,D,E=>by grind [iB]
 |x::xs,h,c,r,D,E=>by
  rw[iB]at D
  obtain⟨F,H,rfl,I,J⟩:=D
  rw[List.append_assoc]
  exact⟨F,H++r,rfl,I,iB.append J E⟩
theorem iB.one{x:α}{c:List T}(h:R x c):iB R [x] c:=⟨c,[],by simp,h,rfl⟩
end
structure Ru where
 sc:Int
 nm:List Nat
 x:Ex
structure Co where
 sc:Int
 x:Ex
structure Li where
 nm:List Nat
 me:List Nat
 mo:Int
 da:Int
structure Of where
 nm:List Nat
 ct:Int
 da:Int
def WN(u:Ru)(c:List T):Prop:= ∃a h,c= [.i .i64 u.sc,.s u.nm,.i .i64 u.x.op,.i .i64 u.x.num,.s u.x.name,a]∧IsSl a u.x.args.length h∧jx u.x.args h
def CoR(u:Co)(c:List T):Prop:= ∃a h,c= [.i .i64 u.sc,.i .i64 u.x.op,.i .i64 u.x.num,.s u.x.name,a]∧IsSl a u.x.args.length h∧jx u.x.args h
def WU(u:Li)(c:List T):Prop:=c= [.s u.nm,.s u.me,.i .i64 u.mo,.i .i64 u.da]
def OfR(u:Of)(c:List T):Prop:=c= [.s u.nm,.i .i64 u.ct,.i .i64 u.da]
theorem WN.len(u:Ru)(c:List T)(h:WN u c):c.length=6:=by obtain⟨a,D,rfl,_⟩:=h;rfl
theorem CoR.len(u:Co)(c:List T)(h:CoR u c):c.length=5:=by obtain⟨a,D,rfl,_⟩:=h;rfl
theorem WU.len(u:Li)(c:List T)(h:WU u c):c.length=4:=by rw[h];rfl
theorem OfR.len(u:Of)(c:List T)(h:OfR u c):c.length=3:=by rw[h];rfl
theorem Fc{xs:List Ru}{a:T}{D:List T}(F:IsSl a xs.length D)(H:iB WN xs D)(i:Nat)(hi:i<xs.length):
  ∃b h r,(∀kk,pv a (.i kk (i:Int)) 6=some (.vp (.i .i64 xs[i].sc:: .s xs[i].nm:: .i .i64 xs[i].x.op:: .i .i64 xs[i].x.num:: .s xs[i].x.name::b::r)))∧IsSl b xs[i].x.args.length h∧lv xs[i].x [.i .i64 xs[i].x.op,.i .i64 xs[i].x.num,.s xs[i].x.name,b]:=by
 obtain⟨c,r,I,b,h,rfl,E,J⟩:=oa WN.len F H i hi
 exact⟨b,h,r,I,E,lv.of E J⟩
theorem JO{xs:List Co}{a:T}{D:List T}(F:IsSl a xs.length D)(H:iB CoR xs D)(i:Nat)(hi:i<xs.length):
  ∃b h r,(∀kk,pv a (.i kk (i:Int)) 5=some (.vp (.i .i64 xs[i].sc:: .i .i64 xs[i].x.op:: .i .i64 xs[i].x.num:: .s xs[i].x.name::b::r)))∧IsSl b xs[i].x.args.length h∧lv xs[i].x [.i .i64 xs[i].x.op,.i .i64 xs[i].x.num,.s xs[i].x.name,b]:=by
 obtain⟨c,r,I,b,h,rfl,E,J⟩:=oa CoR.len F H i hi
 exact⟨b,h,r,I,E,lv.of E J⟩
theorem NN{xs:List Li}{a:T}{h:List T}(E:IsSl a xs.length h)(F:iB WU xs h)(i:Nat)(hi:i<xs.length):
  ∃r,∀kk,pv a (.i kk (i:Int)) 4=some (.vp (.s xs[i].nm:: .s xs[i].me:: .i .i64 xs[i].mo:: .i .i64 xs[i].da::r)):=by
 obtain⟨c,r,D,H⟩:=oa WU.len E F i hi
 rw[H]at D
 exact⟨r,D⟩
theorem We{xs:List Of}{a:T}{h:List T}(E:IsSl a xs.length h)(F:iB OfR xs h)(i:Nat)(hi:i<xs.length):
  ∃r,∀kk,pv a (.i kk (i:Int)) 3=some (.vp (.s xs[i].nm:: .i .i64 xs[i].ct:: .i .i64 xs[i].da::r)):=by
 obtain⟨c,r,D,H⟩:=oa OfR.len E F i hi
 rw[H]at D
 exact⟨r,D⟩
structure Ct where
 rp:Int
 rl:Int
 cn:Int
 st:Int
 ly:Int
 nf:Int
 nt:Int
 cs:Cs
 ru:List Ru
 co:List Co
 cr:List Ex
 li:List Li
 fs:List Of
 gu:Int
def Au(n lo hi:Int):Bool:=decide (lo≤n)&&decide (n≤hi)
def NO(seen:List (List Nat)):Cs→Int
 | []=>0
 |c::l=>if rE c.1=false then 1 else if c.1∈seen then 7 else if jh c.2≠0 then jh c.2 else NO (seen++ [c.1]) l
def J8(seen:List (Int×List Nat)):List Ru→Int
 | []=>0
 |u::l=>if Au u.sc 1 3=false∨rE u.nm=false then 1 else if(u.sc,u.nm)∈seen then 7 else if jh u.x≠0 then jh u.x else J8 (seen++ [(u.sc,u.nm)]) l
def Le:List Co→Int
 | []=>0
 |u::l=>if Au u.sc 1 3=false then 1 else if jh u.x≠0 then jh u.x else Le l
def Lf:List Ex→Int
 | []=>0
 |x::l=>if jh x≠0 then jh x else Lf l
def GA(s:List Nat):Int:=if s= [98,108,111,99,107]∨s= [115,112,97,110]∨s= [110,105,103,104,116]∨s= [99,114,101,100,105,116]then 3 else if s= [108,101,103,115]∨s= [104,101,97,100,115]∨s= [100,117,116,105,101,115]then 2 else 0
def Jp(seen:List (List Nat)):List Li→Int
 | []=>0
 |u::l=>if rE u.nm=false then 1 else if u.nm∈seen then 7 else if GA u.me=0 then 6 else if Au u.mo 0 599999=false∨Au u.da 1 31=false then 5 else Jp (seen++ [u.nm]) l
def QE(seen:List (List Nat)):List Of→Int
 | []=>0
 |u::l=>if rE u.nm=false then 1 else if u.nm∈seen then 7 else if Au u.da 1 31=false∨Au u.ct 1 u.da=false then 5 else QE (seen++ [u.nm]) l
def LF(c:Ct):Int:=if Jp [] c.li≠0 then Jp [] c.li else QE (c.li.map Li.nm) c.fs
def pz(c:Ct):Bool:=Au c.rp 0 1440&&(Au c.rl 0 1440&&(Au c.cn 0 1440&&(Au c.st c.cn 1440&&(Au c.ly 0 10080&&(Au c.nf 0 1439&&(Au c.nt 0 1439&&Au c.gu 0 599999))))))
def pI(c:Ct):Bool:=decide (c.cs.length≤32)&&(decide (c.ru.length≤40)&&(decide (c.co.length≤16)&&(decide (c.cr.length≤1)&&(decide (c.li.length≤16)&&decide (c.fs.length≤16)))))
def mK(c:Ct):Int:=if pz c=false then 5 else if pI c=false then 10 else if NO [] c.cs≠0 then NO [] c.cs else if J8 [] c.ru≠0 then J8 [] c.ru else if Le c.co≠0 then Le c.co else if Lf c.cr≠0 then Lf c.cr else LF c
theorem yj(n lo hi:Int):hZ pE 108 [.i .i64 n,.i .i64 lo,.i .i64 hi] []=some (.b (Au n lo hi),[]):=by
 rw[im aaB (by simp[Q3])]
 unfold Au
 by_cases h:lo≤n <;> simp only[qA,seval,Q3,h]
theorem Fe(n:Int):hZ pE 111 [.i .i64 n] []=some (.b (Au n 1 3),[]):=by
 rw[im aaE (by simp[Q6])]
 simp only[qA,seval,Q6,yj,HZ]
theorem sE{α:Type}[DecidableEq α](s:α): ∀l:List α,iH (l.map fun x=>(x,true)) s=if s∈l then some true else none
 | []=>by simp[iH]
 |a::l=>by
  rw[List.map_cons,iH,sE s l]
  grind
theorem G0(seen:List (List Nat))(s:List Nat):nF (.one .str) ((seen.map fun x=>(x,true)).map fun p=>sK p.1) ((seen.map fun x=>(x,true)).map fun p=>T.b p.2) (.s s) (.b false) false=some (.b (decide (s∈seen))):=by
 have:=MS (kT:=sK) (vT:=T.b) DT (fun _=>rfl) (seen.map fun x=>(x,true)) s (.b false)
 rw[show(T.s s)=sK s from rfl,this,sE]
 grind
theorem Dg(seen:List (List Nat))(s:List Nat)(h:s∉seen):p6 (.one .str) (.s s) (.b true) ((seen.map fun x=>(x,true)).map fun p=>sK p.1) ((seen.map fun x=>(x,true)).map fun p=>T.b p.2)=some (((seen++ [s]).map fun x=>(x,true)).map (fun p=>sK p.1),((seen++ [s]).map fun x=>(x,true)).map (fun p=>T.b p.2)):=by
 have:=xS (kT:=sK) (vT:=T.b) DT (seen.map fun x=>(x,true)) s true (by rw[sE,if_neg h])
 rw[show(T.s s)=sK s from rfl,show T.b true=T.b (true)from rfl,this]
 grind
theorem awA(l:Cs)(a:T)(U:List T)(Z:IsSl a l.length U)(hc:kN l U)(hlen:l.length≤oh)(qW:U2 l)(g:Nat)(fr:Fr)(lh:iz ib)(sh:List ib)
  (V:an fr 3= .mp .L 7 g) (W:an fr 8=a) (J:an fr 9= .i .i64 (l.length:Int)) (K:an fr 10= .i .i64 0) (D:a6 lh 7=⟨g,.map [] [] false⟩):
  tJ pE 32 uT fr lh sh 0 2 (NO [] l) (fun F N=>N=sh):=by
 refine jD N0 (fun k f F N=>an f 10= .i .i64 (k:Int)∧a6 F 7=⟨g,.map ((((l.take k).map Prod.fst).map fun x=>(x,true)).map fun p=>sK p.1) ((((l.take k).map Prod.fst).map fun x=>(x,true)).map fun p=>T.b p.2) false⟩∧N=sh∧NO [] l=NO ((l.take k).map Prod.fst) (l.drop k)) l.length ⟨K,D,rfl,rfl⟩ ?_ ?_
 ·rintro k f F _ H h ⟨I,D,rfl,O⟩
  rw[List.drop_eq_getElem_cons H,NO]at O
  have X:(k:Int)<l.length:=by omega
  have hw:=iG (k:=k) (by omega)
  obtain⟨b,cb,rr,Y,kg,tK,hb⟩:=lW Z hc k H
  obtain⟨NB,Ke⟩:=qW l[k] (List.getElem_mem H)
  have D2:=jE (se l[k].1)
  have LZ:=fun z fr lh sh=>sy (z:=z) (fr:=fr) (lh:=lh) (sh:=sh) l[k].2 _ hb NB Ke
  have E:=G0 ((l.take k).map Prod.fst) l[k].1
  have nY:=Dg ((l.take k).map Prod.fst) l[k].1
  have pD:(l.take (k+1)).map Prod.fst=(l.take k).map Prod.fst++ [l[k].1]:=by rw[List.take_succ_eq_append_getElem H,List.map_append];rfl
  by_cases hs:l[k].1∈(l.take k).map Prod.fst
  ·simp only[qB,seval,gd,uT,h,V,W,J,I,D,X,Y,D2,xg,jB,E,hs]
   clear h
   grind
  ·simp only[qB,seval,gd,uT,h,V,W,J,I,D,X,Y,hw,D2,xg,jB,E,hs,th,Aq,nY hs,LZ,pD]
   clear h
   grind
 ·rintro f F _ h ⟨I,D,rfl,O⟩
  simp only[qB,seval,gd,uT,h,J,I,Int.lt_irrefl,O,List.drop_length,NO]
theorem ag2(l:Cs)(a:T)(h:List T)(D:IsSl a l.length h)(E:kN l h)(hlen:l.length≤oh)(qW:U2 l):hZ pE 109 [a] []=some (.i .i64 (NO [] l),[]):=by
 have F:=awA l a h D E hlen qW 1
 rw[im aaC (by simp[Q4])]
 simp only[qB,seval,Q4,D.lenI,F]
 grind
def rK(p:Int×List Nat):T:= .agg [.i .i64 p.1,.s p.2]
theorem aqi(a b:Int×List Nat):tO (.flat [.int,.str]) (rK a) (rK b)=some (decide (a=b)):=by
 unfold rK
 rw[afg]
 congr 1
 by_cases h:a.1=b.1 <;> by_cases D:a.2=b.2 <;> simp[h,D,Prod.ext_iff]
theorem Wf(seen:List (Int×List Nat))(s:Int×List Nat):nF (.flat [.int,.str]) ((seen.map fun x=>(x,true)).map fun p=>rK p.1) ((seen.map fun x=>(x,true)).map fun p=>T.b p.2) (.agg [.i .i64 s.1,.s s.2]) (.b false) false=some (.b (decide (s∈seen))):=by
 have:=MS (kT:=rK) (vT:=T.b) aqi (fun _=>T9) (seen.map fun x=>(x,true)) s (.b false)
 rw[show T.agg [.i .i64 s.1,.s s.2]=rK s from rfl,this,sE]
 by_cases h:s∈seen <;> simp[h]
theorem Qn(seen:List (Int×List Nat))(s:Int×List Nat)(h:s∉seen):p6 (.flat [.int,.str]) (.agg [.i .i64 s.1,.s s.2]) (.b true) ((seen.map fun x=>(x,true)).map fun p=>rK p.1) ((seen.map fun x=>(x,true)).map fun p=>T.b p.2)=some (((seen++ [s]).map fun x=>(x,true)).map (fun p=>rK p.1),((seen++ [s]).map fun x=>(x,true)).map (fun p=>T.b p.2)):=by
 have:=xS (kT:=rK) (vT:=T.b) aqi (seen.map fun x=>(x,true)) s true (by rw[sE,if_neg h])
 rw[show T.agg [.i .i64 s.1,.s s.2]=rK s from rfl,this]
 simp only[List.map_append,List.map_cons,List.map_nil]
def Qz(x:Ex):Prop:=0≤x.nodes∧x.sm
def Hh(u:Ru):Int×List Nat:=(u.sc,u.nm)
theorem awB(l:List Ru)(a:T)(U:List T)(ha:IsSl a l.length U)(hc:iB WN l U)(hlen:l.length≤oh)(qW: ∀u∈l,Qz u.x)(g:Nat)(fr:Fr)(lh:iz ib)(sh:List ib)
  (V:an fr 3= .mp .L 8 g) (W:an fr 9=a) (h:an fr 10= .i .i64 (l.length:Int)) (K:an fr 11= .i .i64 0) (E:a6 lh 8=⟨g,.map [] [] false⟩):
  tJ pE 42 uU fr lh sh 0 2 (J8 [] l) (fun H N=>N=sh):=by
 refine jD N1 (fun k f H N=>an f 11= .i .i64 (k:Int)∧a6 H 8=⟨g,.map ((((l.take k).map Hh).map fun x=>(x,true)).map fun p=>rK p.1) ((((l.take k).map Hh).map fun x=>(x,true)).map fun p=>T.b p.2) false⟩∧N=sh∧J8 [] l=J8 ((l.take k).map Hh) (l.drop k)) l.length ⟨K,E,rfl,rfl⟩ ?_ ?_
 ·rintro k f H _ I D ⟨J,E,rfl,O⟩
  rw[List.drop_eq_getElem_cons I,J8]at O
  have X:(k:Int)<l.length:=by omega
  have hw:=iG (k:=k) (by omega)
  obtain⟨b,cb,rr,Y,kg,hb⟩:=Fc ha hc k I
  obtain⟨NB,Ke⟩:=qW l[k] (List.getElem_mem I)
  have Z:=jE (Fe l[k].sc)
  have D2:=jE (se l[k].nm)
  have LZ:=fun z fr lh sh=>sy (z:=z) (fr:=fr) (lh:=lh) (sh:=sh) l[k].x _ hb NB Ke
  have F:=Wf ((l.take k).map Hh) (l[k].sc,l[k].nm)
  have nY:=Qn ((l.take k).map Hh) (l[k].sc,l[k].nm)
  have pD:(l.take (k+1)).map Hh=(l.take k).map Hh++ [(l[k].sc,l[k].nm)]:=by rw[List.take_succ_eq_append_getElem I,List.map_append];rfl
  by_cases hs:(l[k].sc,l[k].nm)∈(l.take k).map Hh
  ·simp only[qB,seval,gd,uU,D,V,W,h,J,E,X,Y,Z,RZ,D2,xg,jB,F,hs]
   clear D
   grind
  ·simp only[qB,seval,gd,uU,D,V,W,h,J,E,X,Y,hw,Z,RZ,D2,xg,jB,F,hs,th,T9,nY hs,LZ,pD]
   clear D
   grind
 ·rintro f H _ D ⟨J,E,rfl,O⟩
  simp only[qB,seval,gd,uU,D,h,J,Int.lt_irrefl,O,List.drop_length,J8]
theorem ag3(l:List Ru)(a:T)(h:List T)(D:IsSl a l.length h)(E:iB WN l h)(hlen:l.length≤oh)(qW: ∀u∈l,Qz u.x):hZ pE 110 [a] []=some (.i .i64 (J8 [] l),[]):=by
 have F:=awB l a h D E hlen qW 1
 rw[im aaD (by simp[Q5])]
 simp only[qB,seval,Q5,D.lenI,F]
 grind
def Ff:List (List Nat):= [[98,108,111,99,107],[115,112,97,110],[110,105,103,104,116],[99,114,101,100,105,116],[108,101,103,115],[104,101,97,100,115],[100,117,116,105,101,115]]
theorem Wg(s:List Nat):hZ pE 159 [.s s] []=some (.i .i64 (GA s),[]):=by
 by_cases h:s∈Ff
 ·simp only[Ff,List.mem_cons,List.not_mem_nil,or_false]at h
  rcases h with rfl|rfl|rfl|rfl|rfl|rfl|rfl <;> exact jZ (m:=20) (jX (by kernel_rfl))
 ·simp only[Ff,List.mem_cons,List.not_mem_nil,or_false,not_or]at h
  obtain⟨D,E,F,H,I,J,K⟩:=h
  rw[im abh (by simp[Rr])]
  unfold GA
  simp only[qA,seval,Rr,D,E,F,H,I,J,K,or_self]
theorem Wh(s:List Nat): ∃n:Int,(n=0↔GA s=0)∧hZ pE 91 [.s s] []=some (.i .i64 n,[]):=by
 by_cases h:s∈Ff
 ·simp only[Ff,List.mem_cons,List.not_mem_nil,or_false]at h
  rcases h with rfl|rfl|rfl|rfl|rfl|rfl|rfl
  iterate 4 exact⟨2,by decide,jZ (m:=20) (jX (by kernel_rfl))⟩
  iterate 3 exact⟨1,by decide,jZ (m:=20) (jX (by kernel_rfl))⟩
 ·simp only[Ff,List.mem_cons,List.not_mem_nil,or_false,not_or]at h
  obtain⟨D,E,F,H,I,J,K⟩:=h
  refine⟨0, ?_, ?_⟩
  ·unfold GA;simp[D,E,F,H,I,J,K]
  ·rw[im alw (by simp[c91])]
   simp only[qA,seval,c91,D,E,F,H,I,J,K]
def tL(g:Nat)(seen:List (List Nat)):ib:=⟨g,.map ((seen.map fun x=>(x,true)).map fun p=>sK p.1) ((seen.map fun x=>(x,true)).map fun p=>T.b p.2) false⟩
theorem JP(g:Nat)(seen:List (List Nat))(s:List Nat):lkE (tL g seen) g (.one .str) (.s s) (.b false) false=some (.b (decide (s∈seen))):=by
 unfold tL;rw[jB,if_pos rfl,G0]
theorem JQ{lh:iz ib}{kk:Nat}(g:Nat)(seen:List (List Nat))(s:List Nat)(h:s∉seen):muE lh kk (tL g seen) g (.one .str) (.s s) (.b true)=some (mr lh kk (tL g (seen++ [s]))):=by
 unfold tL;rw[th,if_pos ⟨rfl,rfl⟩,Dg seen s h];rfl
theorem awC(l:List Li)(a:T)(cc:List T)(ha:IsSl a l.length cc)(hc:iB WU l cc)(hlen:l.length≤oh)(g:Nat)(O:ib)(fr:Fr)(lh:iz ib)(sh:List ib)
  (h3:an fr 3= .mp .L 8 g) (J:an fr 10=a) (h:an fr 11= .i .i64 (l.length:Int)) (U:an fr 12= .i .i64 0) (D:a6 lh 8=tL g []) (H:a6 lh 1=O):
  tJ pE 80 uW fr lh sh 0 2 (Jp [] l) (fun E V=>(Jp [] l=0→a6 E 8=tL g (l.map Li.nm))∧a6 E 1=O∧V=sh):=by
 refine jD D6 (fun k f E V=>an f 12= .i .i64 (k:Int)∧a6 E 8=tL g ((l.take k).map Li.nm)∧a6 E 1=O∧V=sh∧Jp [] l=Jp ((l.take k).map Li.nm) (l.drop k)) l.length ⟨U,D,H,rfl,rfl⟩ ?_ ?_
 ·rintro k f E _ W I ⟨N,D,H,rfl,X⟩
  rw[List.drop_eq_getElem_cons W,Jp]at X
  have iR:(k:Int)<l.length:=by omega
  have hw:=iG (k:=k) (by omega)
  obtain⟨rr,iS⟩:=NN ha hc k W
  have D2:=jE (se l[k].nm)
  have Y:=Wg l[k].me
  have Z:=fun n lo hi=>jE (yj n lo hi)
  have K:=JP g ((l.take k).map Li.nm) l[k].nm
  have F:=fun lh kk=>JQ (lh:=lh) (kk:=kk) g ((l.take k).map Li.nm) l[k].nm
  have pD:(l.take (k+1)).map Li.nm=(l.take k).map Li.nm++ [l[k].nm]:=by rw[List.take_succ_eq_append_getElem W,List.map_append];rfl
  by_cases hs:l[k].nm∈(l.take k).map Li.nm
  ·simp only[qB,seval,gd,uW,I,h3,J,h,N,D,H,iR,iS,D2,xg,K,hs]
   clear I Z F
   grind
  ·simp only[qB,seval,gd,uW,I,h3,J,h,N,D,H,iR,iS,hw,D2,xg,K,hs,fun lh kk=>F lh kk hs,Y,al9,Z,HZ,pD]
   clear I Z F
   grind (splits:=30)
 ·rintro f E _ I ⟨N,D,H,rfl,X⟩
  rw[List.take_length]at D
  simp only[qB,seval,gd,uW,I,h,N,D,H,Int.lt_irrefl,X,List.drop_length,Jp]
  exact fun _=>trivial
theorem awD(l:List Of)(h:List (List Nat))(a:T)(Y:List T)(ha:IsSl a l.length Y)(hc:iB OfR l Y)(hlen:l.length≤oh)(g:Nat)(fr:Fr)(lh:iz ib)(sh:List ib)
  (Z:an fr 3= .mp .L 8 g) (H:an fr 47=a) (D:an fr 48= .i .i64 (l.length:Int)) (O:an fr 49= .i .i64 0) (I:a6 lh 8=tL g h):
  tJ pE 80 uV fr lh sh 3 2 (QE h l) (fun K U=>U=sh):=by
 refine jD N3 (fun k f K U=>an f 49= .i .i64 (k:Int)∧a6 K 8=tL g (h++(l.take k).map Of.nm)∧U=sh∧QE h l=QE (h++(l.take k).map Of.nm) (l.drop k)) l.length ⟨O,by simpa using I,rfl,by simp⟩ ?_ ?_
 ·rintro k f K _ V F ⟨N,I,rfl,W⟩
  rw[List.drop_eq_getElem_cons V,QE]at W
  have iR:(k:Int)<l.length:=by omega
  have hw:=iG (k:=k) (by omega)
  obtain⟨rr,iS⟩:=We ha hc k V
  have D2:=jE (se l[k].nm)
  have X:=fun n lo hi=>jE (yj n lo hi)
  have J:=JP g (h++(l.take k).map Of.nm) l[k].nm
  have E:=fun lh kk=>JQ (lh:=lh) (kk:=kk) g (h++(l.take k).map Of.nm) l[k].nm
  have pD:h++(l.take (k+1)).map Of.nm=(h++(l.take k).map Of.nm)++ [l[k].nm]:=by rw[List.take_succ_eq_append_getElem V,List.map_append,List.append_assoc];rfl
  by_cases hs:l[k].nm∈h++(l.take k).map Of.nm
  ·simp only[qB,seval,gd,uV,F,Z,H,D,N,I,iR,iS,D2,xg,J,hs]
   clear F X E
   grind
  ·simp only[qB,seval,gd,uV,F,Z,H,D,N,I,iR,iS,hw,D2,xg,J,hs,fun lh kk=>E lh kk hs,X,HZ,pD]
   clear F X E
   grind
 ·rintro f K _ F ⟨N,I,rfl,W⟩
  simp only[qB,seval,gd,uV,F,D,N,Int.lt_irrefl,W,List.drop_length,QE]
structure tZ (c:Ct) (a7 a8 a9 iv iw iy:T):Prop where
 h7: ∃cc,IsSl a7 c.cs.length cc∧kN c.cs cc
 h8: ∃cc,IsSl a8 c.ru.length cc∧iB WN c.ru cc
 h9: ∃cc,IsSl a9 c.co.length cc∧iB CoR c.co cc
 h10: ∃cc,IsSl iv c.cr.length cc∧jx c.cr cc
 h11: ∃cc,IsSl iw c.li.length cc∧iB WU c.li cc
 h12: ∃cc,IsSl iy c.fs.length cc∧iB OfR c.fs cc
structure yc (c:Ct):Prop where
 s7:U2 c.cs∧c.cs.length≤oh
 s8:(∀u∈c.ru,Qz u.x)∧c.ru.length≤oh
 s9:(∀u∈c.co,Qz u.x)∧c.co.length≤oh
 s10:(∀x∈c.cr,Qz x)∧c.cr.length≤oh
 s11:c.li.length≤oh
 s12:c.fs.length≤oh
section
variable(c:Ct)(a7 a8 a9 iv iw iy:T)(hT:tZ c a7 a8 a9 iv iw iy)(hS:yc c)
def jf:List T:= [.i .i64 c.rp,.i .i64 c.rl,.i .i64 c.cn,.i .i64 c.st,.i .i64 c.ly,.i .i64 c.nf,.i .i64 c.nt,a7,a8,a9,iv,iw,iy,.i .i64 c.gu]
include hT hS
theorem ag5:hZ pE 113 [.agg (jf c a7 a8 a9 iv iw iy)] []=some (.i .i64 (LF c),[]):=by
 obtain⟨F,h,H⟩:=hT.h11
 obtain⟨I,D,DO⟩:=hT.h12
 rw[im aaG (by simp[Q7])]
 have E:=fun fr lh sh J K N O U V=>lpO (awC c.li iw F h H hS.s11 1 ⟨1,.cells (jf c a7 a8 a9 iv iw iy) 0 true⟩ fr lh sh J K N O U V) (by simp[tL])
 have W:=awD c.fs (c.li.map Li.nm) iy I D DO hS.s12 1
 unfold jf at E ⊢
 unfold LF
 have X:tL 1 []=⟨1,.map [] [] false⟩:=rfl
 simp(maxDischargeDepth:=6) only[qB,seval,Q7,D6,h.lenI,D.lenI,X,E,W]
 grind
end
theorem awE(l:List Co)(a:T)(V:List T)(W:IsSl a l.length V)(X:iB CoR l V)(hlen:l.length≤oh)(qW: ∀u∈l,Qz u.x)(H:ib)(fr:Fr)(lh:iz ib)(sh:List ib)
  (I:an fr 84=a) (h:an fr 85= .i .i64 (l.length:Int)) (J:an fr 86= .i .i64 0) (D:a6 lh 1=H):
  tJ pE 116 BG fr lh sh 1 2 (Le l) (fun E K=>a6 E 1=H∧K=sh):=by
 refine jD HJ (fun k f E K=>an f 86= .i .i64 (k:Int)∧a6 E 1=H∧K=sh∧Le l=Le (l.drop k)) l.length ⟨J,D,rfl,rfl⟩ ?_ ?_
 ·rintro k f E _ N F ⟨O,D,rfl,U⟩
  rw[List.drop_eq_getElem_cons N,Le]at U
  have Y:(k:Int)<l.length:=by omega
  have Z:=iG (k:=k) (by omega)
  obtain⟨b,cb,rr,iS,kg,hb⟩:=JO W X k N
  obtain⟨NB,Ke⟩:=qW l[k] (List.getElem_mem N)
  have nQ:=jE (Fe l[k].sc)
  have LZ:=fun z fr lh sh=>sy (z:=z) (fr:=fr) (lh:=lh) (sh:=sh) l[k].x _ hb NB Ke
  simp only[qB,seval,gd,BG,F,I,h,O,D,Y,iS,Z,nQ,RZ,LZ]
  clear F
  grind
 ·rintro f E _ F ⟨O,D,rfl,U⟩
  simp only[qB,seval,gd,BG,F,h,O,D,Int.lt_irrefl,U,List.drop_length,Le]
theorem awF(l:List Ex)(a:T)(V:List T)(W:IsSl a l.length V)(X:jx l V)(hlen:l.length≤oh)(qW: ∀x∈l,Qz x)(H:ib)(fr:Fr)(lh:iz ib)(sh:List ib)
  (I:an fr 102=a) (h:an fr 103= .i .i64 (l.length:Int)) (J:an fr 104= .i .i64 0) (D:a6 lh 1=H):
  tJ pE 116 BF fr lh sh 3 2 (Lf l) (fun E K=>a6 E 1=H∧K=sh):=by
 refine jD HI (fun k f E K=>an f 104= .i .i64 (k:Int)∧a6 E 1=H∧K=sh∧Lf l=Lf (l.drop k)) l.length ⟨J,D,rfl,rfl⟩ ?_ ?_
 ·rintro k f E _ N F ⟨O,D,rfl,U⟩
  rw[List.drop_eq_getElem_cons N,Lf]at U
  have Y:(k:Int)<l.length:=by omega
  have Z:=iG (k:=k) (by omega)
  obtain⟨b,cb,rr,iS,kg,tK,hb⟩:=nJ W X k N
  obtain⟨NB,Ke⟩:=qW l[k] (List.getElem_mem N)
  have LZ:=fun z fr lh sh=>sy (z:=z) (fr:=fr) (lh:=lh) (sh:=sh) l[k] _ hb NB Ke
  simp only[qB,seval,gd,BF,F,I,h,O,D,Y,iS,Z,LZ]
  clear F
  grind
 ·rintro f E _ F ⟨O,D,rfl,U⟩
  simp only[qB,seval,gd,BF,F,h,O,D,Int.lt_irrefl,U,List.drop_length,Lf]
section
variable(c:Ct)(a7 a8 a9 iv iw iy:T)(hT:tZ c a7 a8 a9 iv iw iy)(hS:yc c)
include hT hS
theorem Wi:hZ pE 60 [.agg (jf c a7 a8 a9 iv iw iy)] []=some (.i .i64 (mK c),[]):=by
 have hv:=ag5 c a7 a8 a9 iv iw iy hT hS
 obtain⟨⟨U,F,V⟩,⟨W,H,X⟩,⟨Y,I,Z⟩,⟨vU,h,As⟩,⟨wT,D,yF⟩,⟨yG,E,DO⟩⟩:=hT
 have N:=ag2 c.cs a7 U F V hS.s7.2 hS.s7.1
 have O:=ag3 c.ru a8 W H X hS.s8.2 hS.s8.1
 have J:=awE c.co a9 Y I Z hS.s9.2 hS.s9.1 ⟨1,.cells (jf c a7 a8 a9 iv iw iy) 0 true⟩
 have K:=awF c.cr iv vU h As hS.s10.2 hS.s10.1 ⟨1,.cells (jf c a7 a8 a9 iv iw iy) 0 true⟩
 have w:=fun n lo hi=>jE (yj n lo hi)
 unfold jf at J K hv ⊢
 rw[im adQ (by simp[c60])]
 unfold mK pz pI
 simp(maxDischargeDepth:=6) only[qB,seval,c60,HI,HJ,F.froz,H.froz,F.lenI,H.lenI,I.lenI,h.lenI,D.lenI,E.lenI,F.froz1,H.froz1,I.froz1,h.froz1,D.froz1,E.froz1,w,HZ,N,O,alH,alI,J,K,hv,alK]
 clear N O J K hv w hS
 grind (splits:=40)
end
theorem ri(n lo hi:Int):hZ pE 92 [.i .i64 n,.i .i64 lo,.i .i64 hi] []=some (.b (Au n lo hi),[]):=by
 rw[im alx (by simp[c92])]
 unfold Au
 by_cases h:lo≤n <;> simp only[qA,seval,c92,h]
theorem awI(l:List Li)(a:T)(H:List T)(K:IsSl a l.length H)(N:iB WU l H)(hlen:l.length≤oh)(n:Nat)(hn:n≤l.length)(s:List Nat)(c:Ct)(a7 a8 a9 iv iy:T)(O:List T)(G4:Nat)(fr:Fr)(lh:iz ib)(sh:List ib)(U:an fr 1= .ptr .L 1 1 0)(I:an fr 3= .i .i64 (n:Int))(V:an fr 4= .ptr .L 4 G4 0)(W:an fr 5= .i .i64 0)(X:a6 lh 1=⟨1,.cells (jf c a7 a8 a9 iv a iy) 0 true⟩)(Y:a6 lh 4=⟨G4,.cells (.s s::O) 0 true⟩):
  tJ pE 112 BK fr lh sh 2 2 (if s∈(l.map Li.nm).take n then 7 else 0) (fun D E=>D=lh∧E=sh):=by
 refine jD HM (fun j f D E=>an f 5= .i .i64 (j:Int)∧D=lh∧E=sh∧s∉(l.map Li.nm).take j) n ⟨W,rfl,rfl,by simp⟩ ?_ ?_
 ·rintro j f _ _ hj h ⟨F,rfl,rfl,J⟩
  obtain⟨rr,Z⟩:=NN K N j (by omega)
  have hw:=iG (k:=j) (by omega)
  have WW:(j:Int)<n:=by omega
  simp only[qB,seval,gd,BK,h,U,I,V,F,WW,Z,hw,X,Y,jf]
  clear h
  grind [List.mem_take_iff_getElem]
 ·rintro f _ _ h ⟨F,rfl,rfl,J⟩
  simp only[qB,seval,gd,BK,h,I,F,Int.lt_irrefl,J]
theorem awJ(l:List Li)(a:T)(J:List T)(D:IsSl a l.length J)(O:iB WU l J)(hlen:l.length≤oh)(s:List Nat)(c:Ct)(a7 a8 a9 iv iy:T)(U:List T)(G7:Nat)(fr:Fr)(lh:iz ib)(sh:List ib)(K:an fr 1= .ptr .L 1 1 0)(V:an fr 7= .ptr .L 7 G7 0)(W:an fr 8= .i .i64 0)(N:a6 lh 1=⟨1,.cells (jf c a7 a8 a9 iv a iy) 0 true⟩)(X:a6 lh 7=⟨G7,.cells (.s s::U) 0 true⟩):
  tJ pE 112 BI fr lh sh 6 2 (if s∈l.map Li.nm then 7 else 0) (fun E F=>E=lh∧F=sh):=by
 refine jD HL (fun j f E F=>an f 8= .i .i64 (j:Int)∧E=lh∧F=sh∧s∉(l.map Li.nm).take j) l.length ⟨W,rfl,rfl,by simp⟩ ?_ ?_
 ·rintro j f _ _ Y h ⟨H,rfl,rfl,I⟩
  obtain⟨rr,Z⟩:=NN D O j Y
  have hw:=iG (k:=j) (by omega)
  have WW:(j:Int)<l.length:=by omega
  simp only[qB,seval,gd,BI,h,K,V,H,D.lenI,WW,Z,hw,N,X,jf]
  clear h
  grind [List.mem_take_iff_getElem]
 ·rintro f _ _ h ⟨H,rfl,rfl,I⟩
  rw[List.take_of_length_le (by simp)]at I
  simp only[qB,seval,gd,BI,h,K,H,D.lenI,N,jf,Int.lt_irrefl,I]
theorem awK(l:List Of)(a:T)(H:List T)(K:IsSl a l.length H)(N:iB OfR l H)(hlen:l.length≤oh)(n:Nat)(hn:n≤l.length)(s:List Nat)(c:Ct)(a7 a8 a9 iv iw:T)(O:List T)(G7:Nat)(fr:Fr)(lh:iz ib)(sh:List ib)(U:an fr 1= .ptr .L 1 1 0)(I:an fr 6= .i .i64 (n:Int))(V:an fr 7= .ptr .L 7 G7 0)(W:an fr 9= .i .i64 0)(X:a6 lh 1=⟨1,.cells (jf c a7 a8 a9 iv iw a) 0 true⟩)(Y:a6 lh 7=⟨G7,.cells (.s s::O) 0 true⟩):
  tJ pE 112 BH fr lh sh 8 2 (if s∈(l.map Of.nm).take n then 7 else 0) (fun D E=>D=lh∧E=sh):=by
 refine jD HK (fun j f D E=>an f 9= .i .i64 (j:Int)∧D=lh∧E=sh∧s∉(l.map Of.nm).take j) n ⟨W,rfl,rfl,by simp⟩ ?_ ?_
 ·rintro j f _ _ hj h ⟨F,rfl,rfl,J⟩
  obtain⟨rr,Z⟩:=We K N j (by omega)
  have hw:=iG (k:=j) (by omega)
  have WW:(j:Int)<n:=by omega
  simp only[qB,seval,gd,BH,h,U,I,V,F,WW,Z,hw,X,Y,jf]
  clear h
  grind [List.mem_take_iff_getElem]
 ·rintro f _ _ h ⟨F,rfl,rfl,J⟩
  simp only[qB,seval,gd,BH,h,I,F,Int.lt_irrefl,J]
end Go.Proofs.YtbdfboojnfinkaaGreat
