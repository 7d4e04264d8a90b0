/- Walks of functions of the program and of the reference, and their plain laws, part 6. Conditions: the theorems' own. -/
import Derived.Test.YtcpceiclnbmgiaaGreatM5
import Derived.KernelRfl
set_option maxRecDepth 100000
set_option linter.unusedSimpArgs false
set_option linter.unusedVariables false
set_option maxHeartbeats 16000000
namespace Go.Proofs.YtcpceiclnbmgiaaGreat
open Go Go.Ev
section
variable(l:Cs)(lT:T)(R:List b8)(cl:List T)(hl:IsSl lT l.length cl)(mJ:mh l cl)(hlen:l.length≤qK)
theorem HX(n:Nat)(Ki:n≤l.length)(hc: ∀j,j<n→ave l lT R j)(scope:Int)(nk:scope=0∨scope=1∨scope=2∨scope=3)(x:Ex):avd l lT R n scope x:=by
 induction x using Ex.ind with
 |h x ih=>
  intro k kn cs O hx hn Bf ht
  obtain⟨a,cc,rfl,ha,KT⟩:=hx.cells
  obtain⟨D,h2,nq,On,E4,Kj⟩:=CZ Bf
  have hnd:=x.nodes_eq
  rw[il ahj (by simp[Jr]),rY]
  by_cases e1:x.op=1
  ·rw[if_pos (.inl e1)]
   simp only[qA,seval,Jr,e1]
   exact⟨_,kn,rfl,oB.of (x:= .mk 1 x.num []) (Or.inl ⟨rfl,rfl,rfl⟩) iS.nil,O,fun _ _=>rfl⟩
  by_cases e2:x.op=2
  ·rw[if_pos (.inr (.inl e2))]
   simp only[qA,seval,Jr,e2]
   exact⟨_,kn,rfl,oB.of (x:= .mk 1 x.num []) (Or.inl ⟨rfl,rfl,rfl⟩) iS.nil,O,fun _ _=>rfl⟩
  by_cases e3:x.op=3
  ·rw[if_pos (.inr (.inr e3))]
   simp only[qA,seval,Jr,e3]
   exact⟨_,kn,rfl,oB.of (x:= .mk 1 x.num []) (Or.inl ⟨rfl,rfl,rfl⟩) iS.nil,O,fun _ _=>rfl⟩
  rw[if_neg (by omega)]
  by_cases e4:x.op=4
  ·rw[if_pos e4]
   simp only[qA,seval,Jr,e4]
   exact⟨_,kn,rfl,oB.of (x:= .mk 1 1 []) (Or.inl ⟨rfl,rfl,rfl⟩) iS.nil,O,fun _ _=>rfl⟩
  rw[if_neg e4]
  by_cases e5:x.op=5
  ·rw[if_pos e5]
   simp only[qA,seval,Jr,e5]
   exact⟨_,kn,rfl,oB.of (x:= .mk 1 0 []) (Or.inl ⟨rfl,rfl,rfl⟩) iS.nil,O,fun _ _=>rfl⟩
  rw[if_neg e5]
  by_cases N:x.op=6
  ·rw[if_pos N]
   rw[Ex.ty_eq,if_pos N]at ht
   have r:=lkS (kW (TA scope) (TA scope).length) x.name
   change _=some (TD (PH scope x.name))at r
   by_cases hz:l6 scope x.name=0
   ·rw[if_neg (by simp[hz])]at ht
    have hp:=(vh scope x.name).2 hz
    rw[hp]at r ⊢
    obtain⟨i,rj,my,Td,_,_,alE,_⟩:=C1 Ki ht
    obtain⟨U,im,oJ,nl⟩:=hc i my x.name k kn Td alE O
    simp only[TD]at r
    rcases nk with rfl|rfl|rfl|rfl
    ·change nI _ ((kW [] 0).map _) ((kW [] 0).map _) _ _ _=_ at r
     simp only[qA,seval,k9,j3,Jr,N,IP,aCn,jF,r,im,aaq]
     exact⟨_,U,rfl,oB.of (x:= .mk 1 (qd l x.name) []) (Or.inl ⟨rfl,rfl,rfl⟩) iS.nil,oJ,fun i hi=>nl i (by omega)⟩
    ·change nI _ ((kW kb 11).map _) ((kW kb 11).map _) _ _ _=_ at r
     simp only[qA,seval,k9,j3,Jr,N,IP,au9,jF,r,im,aaq]
     exact⟨_,U,rfl,oB.of (x:= .mk 1 (qd l x.name) []) (Or.inl ⟨rfl,rfl,rfl⟩) iS.nil,oJ,fun i hi=>nl i (by omega)⟩
    ·change nI _ ((kW mD 25).map _) ((kW mD 25).map _) _ _ _=_ at r
     simp only[qA,seval,k9,j3,Jr,N,IP,ava,jF,r,im,aaq]
     exact⟨_,U,rfl,oB.of (x:= .mk 1 (qd l x.name) []) (Or.inl ⟨rfl,rfl,rfl⟩) iS.nil,oJ,fun i hi=>nl i (by omega)⟩
    ·change nI _ ((kW qY 7).map _) ((kW qY 7).map _) _ _ _=_ at r
     simp only[qA,seval,k9,j3,Jr,N,IP,avb,jF,r,im,aaq]
     exact⟨_,U,rfl,oB.of (x:= .mk 1 (qd l x.name) []) (Or.inl ⟨rfl,rfl,rfl⟩) iS.nil,oJ,fun i hi=>nl i (by omega)⟩
   ·cases hp:PH scope x.name with
    |none=>exact absurd ((vh scope x.name).1 hp) hz
    |some i=>
     rw[hp]at r
     rw[show TD (some i)= .tup [.i .i64 (i:Int),.b true]from rfl]at r
     have hf:oB (.mk 6 (i:Int) []) [.i .i64 6,.i .i64 (i:Int),.nilsl]:=oB.of (x:= .mk 6 (i:Int) []) (Or.inl ⟨rfl,rfl,rfl⟩) iS.nil
     rcases nk with rfl|rfl|rfl|rfl
     ·exact absurd (rX _) hz
     ·change nI _ ((kW kb 11).map _) ((kW kb 11).map _) _ _ _=_ at r
      simp only[qA,seval,k9,Jr,N,IP,au9,jF,r]
      exact⟨_,kn,rfl,hf,O,fun _ _=>rfl⟩
     ·change nI _ ((kW mD 25).map _) ((kW mD 25).map _) _ _ _=_ at r
      simp only[qA,seval,k9,Jr,N,IP,ava,jF,r]
      exact⟨_,kn,rfl,hf,O,fun _ _=>rfl⟩
     ·change nI _ ((kW qY 7).map _) ((kW qY 7).map _) _ _ _=_ at r
      simp only[qA,seval,k9,Jr,N,IP,avb,jF,r]
      exact⟨_,kn,rfl,hf,O,fun _ _=>rfl⟩
  ·rw[if_neg N]
   obtain⟨ts,yS,hr,hk⟩:=CY ht N
   have MI:=mn x.args
   have Cd:x.args.length≤qK:=oy (by omega)
   have hmk:x.args.length*40≤roomy∧x.args.length≤roomy:=by unfold qK at Cd;unfold roomy;omega
   have FM:=fun fr lh sh F H D I B6 EH Cf J K Hd=>aCp l lT R n scope x.args (fun y hy=>ih y hy) a cc ha KT (by omega) Kj ts yS kn O (.i .i64 x.op) 1 1 ⟨1,.cells [.i .i64 0,.i .i64 0,.nilsl] 0 true⟩ fr lh sh F H D I B6 EH Cf J K Hd
   have hL:=fun fr lh sh F H D I B6 EH Cf J K Hd=>And.intro (FM fr lh sh F H D I B6 EH Cf J K Hd).1 (And.intro (FM fr lh sh F H D I B6 EH Cf J K Hd).2.1 (And.intro (FM fr lh sh F H D I B6 EH Cf J K Hd).2.2.1 (And.intro (WX (FM fr lh sh F H D I B6 EH Cf J K Hd).2.2.2.1).1 (agI (FM fr lh sh F H D I B6 EH Cf J K Hd).2.2.2.2).1)))
   have hF:=fun fr lh sh F H D I B6 EH Cf J K Hd=>(WX (FM fr lh sh F H D I B6 EH Cf J K Hd).2.2.2.1).2
   have hM:=fun fr lh sh F H D I B6 EH Cf J K Hd=>(agI (FM fr lh sh F H D I B6 EH Cf J K Hd).2.2.2.2).2
   have V:=fun fr lh sh F H D I B6 EH Cf J K Hd=>(hF fr lh sh F H D I B6 EH Cf J K Hd).len
   have mJ:(l7 (qd l) scope x.args).length=x.args.length:=by rw[qL];simp
   rw[mJ]at V
   simp only[qA,seval,jI,sW,iE,lj,Jr,TT,e1,e2,e3,e4,e5,N,ha.lenI,hmk,hL,V]
   generalize hX:WW _ _=X
   generalize hMX:kL _ _ _ _ _ _=U
   have W:iS (l7 (qd l) scope x.args) X:=by
    rw[←hX]
    refine hF _ _ _ rfl ?_ ?_ ?_ ?_ ?_ ?_ ?_ ?_ ?_ <;> simp only[qA,seval]
   have Y:oI l U∧ ∀i,n≤i→iJ U i=iJ kn i:=by
    rw[←hMX]
    refine hM _ _ _ rfl ?_ ?_ ?_ ?_ ?_ ?_ ?_ ?_ ?_ <;> simp only[qA,seval]
   have Z:=W.len
   rw[mJ]at Z
   rw[←Z,List.take_length]
   exact⟨_,U,rfl,oB.of (x:= .mk x.op 0 (l7 (qd l) scope x.args)) (Or.inr ⟨false,by show T.sl X x.args.length false= .sl X (l7 (qd l) scope x.args).length false;rw[mJ]⟩) W,Y.1,Y.2⟩
end
theorem pg{x:Ex}(hv:jy x=0):x.nodes≤200∧x.depth≤16:=by
 unfold jy at hv
 by_cases h:big x
 ·rw[if_pos h]at hv;cases hv
 ·unfold big at h;omega
theorem Zw{lh:iq b8}{sh:List b8}{keep:Bool}{k g wm:Nat}{cs:List T}{bx:Bool}(h:b7 lh k=⟨g,.cells cs wm bx⟩)(hc:cs.all froz1=true):fzV lh sh keep (.ptr .L k g 0)=some (.vp cs,[(.L,k,⟨g,.cells cs cs.length bx⟩)]):=by
 unfold fzV iG
 have hk:(keep&&Sp.L==Sp.S)=false:=by cases keep <;> rfl
 show Q.run _ _ (if(keep&&Sp.L==Sp.S)=true then _ else _)=_
 rw[hk]
 simp only[Bool.false_eq_true,if_false,Q.run]
 have i:(St.mk .nil lh sh).get .L k=⟨g,.cells cs wm bx⟩:=h
 rw[i]
 simp only[if_true,List.drop_zero]
 have:ja (fz false 7) cs= .ret (cs,[]):=by
  clear h i
  induction cs with
  |nil=>rfl
  |cons c cs ih=>
   rw[List.all_cons,Bool.and_eq_true]at hc
   simp only[ja,pM hc.1,ih hc.2,Q.bind,List.append_nil]
 rw[this]
 rfl
theorem const_comp{l:Cs}{s:List Nat}{t:Int}(h:Mm l s=(t,0)): ∃i,∃hi:i<l.length,pd l s=some i∧jy l[i].2=0∧l[i].2.ty (CL l i) 0=(t,0)∧Fi [] (comp (qd l) 0 l[i].2)∧(comp (qd l) 0 l[i].2).val []=qd l s∧qd l s=(Fj l l.length).getD i 0:=by
 obtain⟨i,hi,Td,hv,J,r,ZX,K,_,N⟩:=L4 h
 have Bf:=oz hv
 have O:=(l[i].2).nodes_eq
 have Y:=pg hv
 have U:Sw (Z0 (Mm l) 0) (I5 (qd l) 0 []):=by rw[au5,agH];exact Ib l
 obtain⟨V,F,H⟩:=PI U rfl l[i].2 t Bf (by omega) r
 rw[agH]at F H
 have W:=(QA (Ib l) 0 (fun s=>rX s) l[i].2 t Bf r).1
 have D:Zp l 0 l[i].2=wy t (l[i].2.val0 (qd l)):=W
 rw[ZX]at D
 have X:=(IM (scope:=0) K).2.2
 have I:=(IM (scope:=0) H).2.2
 rw[←D,X]at I
 exact⟨i,hi,Td,hv,J,V,by rw[F,I],N⟩
section
variable(l:Cs)(lT:T)(R:List b8)(cl:List T)(hl:IsSl lT l.length cl)(mJ:mh l cl)(hlen:l.length≤qK)
include hl mJ
theorem HY: ∀j,j<l.length→ave l lT R j:=by
 intro j
 induction j using Nat.strongRecOn with
 |ind j ih=>
  intro Y s t kn Td O U
  obtain⟨j',Z9,H,hv,ht,tW,I,Z⟩:=const_comp O
  rw[Td]at H
  cases H
  have D:=lkS (jt l l.length) s
  rw[wh l s l.length (Nat.le_refl _),List.take_length,Td]at D
  rw[show TD (some j)= .tup [.i .i64 (j:Int),.b true]from rfl]at D
  have F:nI (.one .int) (kn.map fun p=>nK p.1) (kn.map fun p=>iV p.2) (.i .i64 (j:Int)) (.i .i64 0) true=_:=aiV (kT:=nK) (vT:=iV) adz (fun _=>rfl) kn j (.i .i64 0)
  rw[il aqs (by simp[c94])]
  cases N:iJ kn j with
  |some v=>
   have e:=U j v N
   rw[N]at F
   simp only[show iV v= .i .i64 v from rfl]at F
   rw[Z,←e]
   simp only[qA,seval,c94,IP,au7,au8,jF,D,F]
   exact⟨kn,rfl,U,fun _ _=>rfl⟩
  |none=>
   rw[N]at F
   simp only at F
   obtain⟨b,cb,r,jg,m9,sx,hb⟩:=oE hl mJ j Y
   obtain⟨cf,J,im,yX,oJ,nl⟩:=HX l lT R j (Nat.le_of_lt Y) (fun i hi=>ih i hi (by omega)) 0 (.inl rfl) l[j].2 t kn _ U hb (pg hv).1 (oz hv) ht
   obtain⟨V,fc,rfl,B7,W⟩:=yX.cells
   have K:=Eu [] .nilsl (Or.inl ⟨rfl,rfl,rfl⟩) (comp (qd l) 0 l[j].2) V fc [] B7 W tW
   rw[I]at K
   have xU:iJ J j=none:=by rw[nl j (Nat.le_refl _),N]
   have oj:qN (.one .int) (.i .i64 (j:Int)) (.i .i64 (qd l s)) (J.map fun p=>nK p.1) (J.map fun p=>iV p.2)=_:=zq (kT:=nK) (vT:=iV) adz J j (qd l s) xU
   generalize comp (qd l) 0 l[j].2=y at*
   have FY:([T.i .i64 y.op,T.i .i64 y.num,V]:List T).all froz1=true:=by simp[B7.froz1,zi]
   have X:=fun lh sh keep (h:b7 lh 9=⟨1,.cells [.i .i64 y.op,.i .i64 y.num,V] 0 true⟩)=>Zw (sh:=sh) (keep:=keep) h FY
   simp only[qA,seval,j3,c94,IP,au7,au8,jF,D,F,jg,m9.kept1,im,ri,X,ax1,K,afS,oj,avc]
   refine⟨_,rfl, ?_, ?_⟩
   ·intro i v hi
    rw[qI]at hi
    cases Cu:iJ J i with
    |some u=>rw[Cu]at hi;cases hi;exact oJ i _ Cu
    |none=>
     rw[Cu]at hi
     simp only at hi
     split at hi
     ·rename_i e;subst e;cases hi;exact Z
     ·cases hi
   ·intro i hi
    rw[qI,nl i (by omega)]
    cases iJ kn i with
    |some u=>rfl
    |none=>simp only;rw[if_neg (by omega)]
end
section
variable(l:Cs)(n:Nat)(Ki:n≤l.length)(lT vT:T)(cl:List T)(hl:IsSl lT n cl)(mJ:mh (l.take n) cl)(hlen:l.length≤qK)(hv:IsSl vT n (ints (Fj l n)))
include hl hv
include Ki mJ hlen
end
section
variable(l:Cs)(lT:T)(cl:List T)(hl:IsSl lT l.length cl)(mJ:mh l cl)(hlen:l.length≤qK)(wu:smC l)
include hl mJ hlen wu
end
def iA{α:Type}(R:α→List T→Prop):List α→List T→Prop
 | [],cs=>cs= []
 |x::xs,cs=> ∃c r,cs=c++r∧R x c∧iA R xs r
section
variable{α:Type}{R:α→List T→Prop}{k:Nat}
theorem iA.len(i: ∀x c,R x c→c.length=k): ∀{xs:List α} {cs:List T},iA R xs cs→cs.length=xs.length*k
 | [],cs,h=>by grind [iA]
 |x::xs,cs,h=>by
  rw[iA]at h
  obtain⟨c,r,rfl,D,F⟩:=h
  rw[List.length_append,i _ _ D,iA.len i F,List.length_cons,Nat.add_mul,Nat.one_mul,Nat.add_comm]
theorem iA.drop(D: ∀x c,R x c→c.length=k): ∀{xs:List α} {cs:List T} (i:Nat) (hi:i<xs.length),iA R xs cs→ ∃c r,cs.drop (i*k)=c++r∧R xs[i] c
 | [],cs,i,hi,h=>by simp at hi
 |x::xs,cs,0,hi,h=>by
  grind [iA]
 |x::xs,cs,i+1,hi,h=>by
  rw[iA]at h
  obtain⟨c,r,rfl,F,H⟩:=h
  obtain⟨I,J,e,K⟩:=iA.drop D i (by simpa using hi) H
  refine⟨I,J, ?_,K⟩
  have:(i+1)*k=c.length+i*k:=by rw[D _ _ F,Nat.add_mul,Nat.one_mul,Nat.add_comm]
  grind [List.drop_append,Nat.add_sub_cancel_left,List.drop_eq_nil_of_le]
theorem py(D: ∀x c,R x c→c.length=k){xs:List α}{a:T}{F:List T}(I:IsSl a xs.length F)(H:iA R xs F)(i:Nat)(hi:i<xs.length): ∃c r,(∀kk,lY a (.i kk (i:Int)) k=some (.vp (c++r)))∧R xs[i] c:=by
 obtain⟨c,r,e,J⟩:=iA.drop D i hi H
 exact⟨c,r,fun kk=>by rw[I.ia (sz:=k) (iA.len D H) hi,e],J⟩
theorem iA.append: ∀{xs i:List α} {c r:List T},iA R xs c→iA R i r→iA R (xs++i) (c++r)
 | [],i,c,r,D,F=>by grind [iA]
 |x::xs,i,c,r,D,F=>by
  rw[iA]at D
  obtain⟨H,I,rfl,J,K⟩:=D
  rw[List.append_assoc]
  exact⟨H,I++r,rfl,J,iA.append K F⟩
theorem iA.one{x:α}{c:List T}(h:R x c):iA R [x] c:=⟨c,[],by simp,h,rfl⟩
end
structure Ru where
 sc:Int
 nm:List Nat
 x:Ex
structure Co where
 sc:Int
 x:Ex
structure Li where
 nm:List Nat
 me:List Nat
 mo:Int
 da:Int
structure Of where
 nm:List Nat
 ct:Int
 da:Int
def Tq(u:Ru)(c:List T):Prop:= ∃a r,c= [.i .i64 u.sc,.s u.nm,.i .i64 u.x.op,.i .i64 u.x.num,.s u.x.name,a]∧IsSl a u.x.args.length r∧ku u.x.args r
def ZY(u:Co)(c:List T):Prop:= ∃a r,c= [.i .i64 u.sc,.i .i64 u.x.op,.i .i64 u.x.num,.s u.x.name,a]∧IsSl a u.x.args.length r∧ku u.x.args r
def LiR(u:Li)(c:List T):Prop:=c= [.s u.nm,.s u.me,.i .i64 u.mo,.i .i64 u.da]
def OfR(u:Of)(c:List T):Prop:=c= [.s u.nm,.i .i64 u.ct,.i .i64 u.da]
theorem Tq.len(u:Ru)(c:List T)(h:Tq u c):c.length=6:=by obtain⟨a,i,rfl,_⟩:=h;rfl
theorem ZY.len(u:Co)(c:List T)(h:ZY u c):c.length=5:=by obtain⟨a,i,rfl,_⟩:=h;rfl
theorem LiR.len(u:Li)(c:List T)(h:LiR u c):c.length=4:=by rw[h];rfl
theorem OfR.len(u:Of)(c:List T)(h:OfR u c):c.length=3:=by rw[h];rfl
theorem L7{xs:List Ru}{a:T}{F:List T}(I:IsSl a xs.length F)(J:iA Tq xs F)(i:Nat)(hi:i<xs.length):
  ∃b D r,(∀kk,lY a (.i kk (i:Int)) 6=some (.vp (.i .i64 xs[i].sc:: .s xs[i].nm:: .i .i64 xs[i].x.op:: .i .i64 xs[i].x.num:: .s xs[i].x.name::b::r)))∧IsSl b xs[i].x.args.length D∧mY xs[i].x [.i .i64 xs[i].x.op,.i .i64 xs[i].x.num,.s xs[i].x.name,b]:=by
 obtain⟨c,r,K,b,D,rfl,H,N⟩:=py Tq.len I J i hi
 exact⟨b,D,r,K,H,mY.of H N⟩
theorem QD{xs:List Co}{a:T}{F:List T}(I:IsSl a xs.length F)(J:iA ZY xs F)(i:Nat)(hi:i<xs.length):
  ∃b D r,(∀kk,lY a (.i kk (i:Int)) 5=some (.vp (.i .i64 xs[i].sc:: .i .i64 xs[i].x.op:: .i .i64 xs[i].x.num:: .s xs[i].x.name::b::r)))∧IsSl b xs[i].x.args.length D∧mY xs[i].x [.i .i64 xs[i].x.op,.i .i64 xs[i].x.num,.s xs[i].x.name,b]:=by
 obtain⟨c,r,K,b,D,rfl,H,N⟩:=py ZY.len I J i hi
 exact⟨b,D,r,K,H,mY.of H N⟩
theorem QE{xs:List Li}{a:T}{D:List T}(H:IsSl a xs.length D)(I:iA LiR xs D)(i:Nat)(hi:i<xs.length):
  ∃r,∀kk,lY a (.i kk (i:Int)) 4=some (.vp (.s xs[i].nm:: .s xs[i].me:: .i .i64 xs[i].mo:: .i .i64 xs[i].da::r)):=by
 obtain⟨c,r,F,J⟩:=py LiR.len H I i hi
 rw[J]at F
 exact⟨r,F⟩
theorem Zx{xs:List Of}{a:T}{D:List T}(H:IsSl a xs.length D)(I:iA OfR xs D)(i:Nat)(hi:i<xs.length):
  ∃r,∀kk,lY a (.i kk (i:Int)) 3=some (.vp (.s xs[i].nm:: .i .i64 xs[i].ct:: .i .i64 xs[i].da::r)):=by
 obtain⟨c,r,F,J⟩:=py OfR.len H I i hi
 rw[J]at F
 exact⟨r,F⟩
structure Ct where
 rp:Int
 rl:Int
 cn:Int
 st:Int
 ly:Int
 nf:Int
 nt:Int
 cs:Cs
 ru:List Ru
 co:List Co
 cr:List Ex
 li:List Li
 fs:List Of
 gu:Int
def rk(n lo hi:Int):Bool:=decide (lo≤n)&&decide (n≤hi)
def Mp(seen:List (List Nat)):Cs→Int
 | []=>0
 |c::l=>if ou c.1=false then 1 else if c.1∈seen then 7 else if jy c.2≠0 then jy c.2 else Mp (seen++ [c.1]) l
def I4(seen:List (Int×List Nat)):List Ru→Int
 | []=>0
 |u::l=>if rk u.sc 1 3=false∨ou u.nm=false then 1 else if(u.sc,u.nm)∈seen then 7 else if jy u.x≠0 then jy u.x else I4 (seen++ [(u.sc,u.nm)]) l
def K4:List Co→Int
 | []=>0
 |u::l=>if rk u.sc 1 3=false then 1 else if jy u.x≠0 then jy u.x else K4 l
def K5:List Ex→Int
 | []=>0
 |x::l=>if jy x≠0 then jy x else K5 l
def Zy(s:List Nat):Int:=if s= [98,108,111,99,107]∨s= [115,112,97,110]∨s= [110,105,103,104,116]∨s= [99,114,101,100,105,116]then 3 else if s= [108,101,103,115]∨s= [104,101,97,100,115]∨s= [100,117,116,105,101,115]then 2 else 0
def QF(seen:List (List Nat)):List Li→Int
 | []=>0
 |u::l=>if ou u.nm=false then 1 else if u.nm∈seen then 7 else if Zy u.me=0 then 6 else if rk u.mo 0 599999=false∨rk u.da 1 31=false then 5 else QF (seen++ [u.nm]) l
def TK(seen:List (List Nat)):List Of→Int
 | []=>0
 |u::l=>if ou u.nm=false then 1 else if u.nm∈seen then 7 else if rk u.da 1 31=false∨rk u.ct 1 u.da=false then 5 else TK (seen++ [u.nm]) l
def Zz(c:Ct):Int:=if QF [] c.li≠0 then QF [] c.li else TK (c.li.map Li.nm) c.fs
def qe(c:Ct):Bool:=rk c.rp 0 1440&&(rk c.rl 0 1440&&(rk c.cn 0 1440&&(rk c.st c.cn 1440&&(rk c.ly 0 10080&&(rk c.nf 0 1439&&(rk c.nt 0 1439&&rk c.gu 0 599999))))))
def qo(c:Ct):Bool:=decide (c.cs.length≤32)&&(decide (c.ru.length≤40)&&(decide (c.co.length≤16)&&(decide (c.cr.length≤1)&&(decide (c.li.length≤16)&&decide (c.fs.length≤16)))))
def m5(c:Ct):Int:=if qe c=false then 5 else if qo c=false then 10 else if Mp [] c.cs≠0 then Mp [] c.cs else if I4 [] c.ru≠0 then I4 [] c.ru else if K4 c.co≠0 then K4 c.co else if K5 c.cr≠0 then K5 c.cr else Zz c
theorem zy(n lo hi:Int):be pE 137 [.i .i64 n,.i .i64 lo,.i .i64 hi] []=some (.b (rk n lo hi),[]):=by
 rw[il aeD (by simp[Ug])]
 unfold rk
 by_cases h:lo≤n <;> simp only[qA,seval,Ug,h]
theorem He(n:Int):be pE 140 [.i .i64 n] []=some (.b (rk n 1 3),[]):=by
 rw[il aeG (by simp[Uj])]
 simp only[qA,seval,Uj,zy,JY]
theorem tj{α:Type}[DecidableEq α](s:α): ∀l:List α,iJ (l.map fun x=>(x,true)) s=if s∈l then some true else none
 | []=>by simp[iJ]
 |a::l=>by
  rw[List.map_cons,iJ,tj s l]
  grind
theorem IQ(seen:List (List Nat))(s:List Nat):nI (.one .str) ((seen.map fun x=>(x,true)).map fun p=>sK p.1) ((seen.map fun x=>(x,true)).map fun p=>T.b p.2) (.s s) (.b false) false=some (.b (decide (s∈seen))):=by
 have:=Pl (kT:=sK) (vT:=T.b) FQ (fun _=>rfl) (seen.map fun x=>(x,true)) s (.b false)
 rw[show(T.s s)=sK s from rfl,this,tj]
 grind
theorem E6(seen:List (List Nat))(s:List Nat)(h:s∉seen):qN (.one .str) (.s s) (.b true) ((seen.map fun x=>(x,true)).map fun p=>sK p.1) ((seen.map fun x=>(x,true)).map fun p=>T.b p.2)=some (((seen++ [s]).map fun x=>(x,true)).map (fun p=>sK p.1),((seen++ [s]).map fun x=>(x,true)).map (fun p=>T.b p.2)):=by
 have:=zq (kT:=sK) (vT:=T.b) FQ (seen.map fun x=>(x,true)) s true (by rw[tj,if_neg h])
 rw[show(T.s s)=sK s from rfl,show T.b true=T.b (true)from rfl,this]
 grind
theorem aCq(l:Cs)(a:T)(O:List T)(Z:IsSl a l.length O)(hc:mh l O)(hlen:l.length≤qK)(wu:smC l)(g:Nat)(fr:Fr)(lh:iq b8)(sh:List b8)
  (U:an fr 3= .mp .L 7 g) (V:an fr 8=a) (I:an fr 9= .i .i64 (l.length:Int)) (J:an fr 10= .i .i64 0) (D:b7 lh 7=⟨g,.map [] [] false⟩):
  xy pE 32 vJ fr lh sh 0 2 (Mp [] l) (fun F K=>K=sh):=by
 refine kj QR (fun k f F K=>an f 10= .i .i64 (k:Int)∧b7 F 7=⟨g,.map ((((l.take k).map Prod.fst).map fun x=>(x,true)).map fun p=>sK p.1) ((((l.take k).map Prod.fst).map fun x=>(x,true)).map fun p=>T.b p.2) false⟩∧K=sh∧Mp [] l=Mp ((l.take k).map Prod.fst) (l.drop k)) l.length ⟨J,D,rfl,rfl⟩ ?_ ?_
 ·rintro k f F _ hk r ⟨H,D,rfl,hr⟩
  rw[List.drop_eq_getElem_cons hk,Mp]at hr
  have W:(k:Int)<l.length:=by omega
  have hw:=ji (k:=k) (by omega)
  obtain⟨b,cb,rr,X,m9,sx,hb⟩:=oE Z hc k hk
  obtain⟨FW,N⟩:=wu l[k] (List.getElem_mem hk)
  have FZ:=kq (sX l[k].1)
  have Oq:=fun z fr lh sh=>tf (z:=z) (fr:=fr) (lh:=lh) (sh:=sh) l[k].2 _ hb FW N
  have Y:=IQ ((l.take k).map Prod.fst) l[k].1
  have oj:=E6 ((l.take k).map Prod.fst) l[k].1
  have qG:(l.take (k+1)).map Prod.fst=(l.take k).map Prod.fst++ [l[k].1]:=by rw[List.take_succ_eq_append_getElem hk,List.map_append];rfl
  by_cases hs:l[k].1∈(l.take k).map Prod.fst
  ·simp only[qB,seval,gd,vJ,r,U,V,I,H,D,W,X,FZ,yx,jF,Y,hs]
   clear r
   grind
  ·simp only[qB,seval,gd,vJ,r,U,V,I,H,D,W,X,hw,FZ,yx,jF,Y,hs,tP,BN,oj hs,Oq,qG]
   clear r
   grind
 ·rintro f F _ r ⟨H,D,rfl,hr⟩
  simp only[qB,seval,gd,vJ,r,I,H,Int.lt_irrefl,hr,List.drop_length,Mp]
theorem alG(l:Cs)(a:T)(r:List T)(D:IsSl a l.length r)(hc:mh l r)(hlen:l.length≤qK)(wu:smC l):be pE 138 [a] []=some (.i .i64 (Mp [] l),[]):=by
 have F:=aCq l a r D hc hlen wu 1
 rw[il aeE (by simp[Uh])]
 simp only[qB,seval,Uh,D.lenI,F]
 grind
def rK(p:Int×List Nat):T:= .agg [.i .i64 p.1,.s p.2]
theorem avf(a b:Int×List Nat):uP (.flat [.int,.str]) (rK a) (rK b)=some (decide (a=b)):=by
 unfold rK
 rw[aiP]
 congr 1
 by_cases i:a.1=b.1 <;> by_cases r:a.2=b.2 <;> simp[i,r,Prod.ext_iff]
theorem ZA(seen:List (Int×List Nat))(s:Int×List Nat):nI (.flat [.int,.str]) ((seen.map fun x=>(x,true)).map fun p=>rK p.1) ((seen.map fun x=>(x,true)).map fun p=>T.b p.2) (.agg [.i .i64 s.1,.s s.2]) (.b false) false=some (.b (decide (s∈seen))):=by
 have:=Pl (kT:=rK) (vT:=T.b) avf (fun _=>WD) (seen.map fun x=>(x,true)) s (.b false)
 rw[show T.agg [.i .i64 s.1,.s s.2]=rK s from rfl,this,tj]
 by_cases h:s∈seen <;> simp[h]
theorem Te(seen:List (Int×List Nat))(s:Int×List Nat)(h:s∉seen):qN (.flat [.int,.str]) (.agg [.i .i64 s.1,.s s.2]) (.b true) ((seen.map fun x=>(x,true)).map fun p=>rK p.1) ((seen.map fun x=>(x,true)).map fun p=>T.b p.2)=some (((seen++ [s]).map fun x=>(x,true)).map (fun p=>rK p.1),((seen++ [s]).map fun x=>(x,true)).map (fun p=>T.b p.2)):=by
 have:=zq (kT:=rK) (vT:=T.b) avf (seen.map fun x=>(x,true)) s true (by rw[tj,if_neg h])
 rw[show T.agg [.i .i64 s.1,.s s.2]=rK s from rfl,this]
 simp only[List.map_append,List.map_cons,List.map_nil]
def XE(x:Ex):Prop:=0≤x.nodes∧x.sm
def Jb(u:Ru):Int×List Nat:=(u.sc,u.nm)
theorem aCr(l:List Ru)(a:T)(O:List T)(ha:IsSl a l.length O)(hc:iA Tq l O)(hlen:l.length≤qK)(wu: ∀u∈l,XE u.x)(g:Nat)(fr:Fr)(lh:iq b8)(sh:List b8)
  (U:an fr 3= .mp .L 8 g) (V:an fr 9=a) (r:an fr 10= .i .i64 (l.length:Int)) (J:an fr 11= .i .i64 0) (F:b7 lh 8=⟨g,.map [] [] false⟩):
  xy pE 42 vK fr lh sh 0 2 (I4 [] l) (fun H K=>K=sh):=by
 refine kj QS (fun k f H K=>an f 11= .i .i64 (k:Int)∧b7 H 8=⟨g,.map ((((l.take k).map Jb).map fun x=>(x,true)).map fun p=>rK p.1) ((((l.take k).map Jb).map fun x=>(x,true)).map fun p=>T.b p.2) false⟩∧K=sh∧I4 [] l=I4 ((l.take k).map Jb) (l.drop k)) l.length ⟨J,F,rfl,rfl⟩ ?_ ?_
 ·rintro k f H _ hk D ⟨I,F,rfl,hr⟩
  rw[List.drop_eq_getElem_cons hk,I4]at hr
  have W:(k:Int)<l.length:=by omega
  have hw:=ji (k:=k) (by omega)
  obtain⟨b,cb,rr,X,m9,hb⟩:=L7 ha hc k hk
  obtain⟨FW,N⟩:=wu l[k] (List.getElem_mem hk)
  have Y:=kq (He l[k].sc)
  have FZ:=kq (sX l[k].nm)
  have Oq:=fun z fr lh sh=>tf (z:=z) (fr:=fr) (lh:=lh) (sh:=sh) l[k].x _ hb FW N
  have Z:=ZA ((l.take k).map Jb) (l[k].sc,l[k].nm)
  have oj:=Te ((l.take k).map Jb) (l[k].sc,l[k].nm)
  have qG:(l.take (k+1)).map Jb=(l.take k).map Jb++ [(l[k].sc,l[k].nm)]:=by rw[List.take_succ_eq_append_getElem hk,List.map_append];rfl
  by_cases hs:(l[k].sc,l[k].nm)∈(l.take k).map Jb
  ·simp only[qB,seval,gd,vK,D,U,V,r,I,F,W,X,Y,UT,FZ,yx,jF,Z,hs]
   clear D
   grind
  ·simp only[qB,seval,gd,vK,D,U,V,r,I,F,W,X,hw,Y,UT,FZ,yx,jF,Z,hs,tP,WD,oj hs,Oq,qG]
   clear D
   grind
 ·rintro f H _ D ⟨I,F,rfl,hr⟩
  simp only[qB,seval,gd,vK,D,r,I,Int.lt_irrefl,hr,List.drop_length,I4]
theorem alH(l:List Ru)(a:T)(r:List T)(D:IsSl a l.length r)(hc:iA Tq l r)(hlen:l.length≤qK)(wu: ∀u∈l,XE u.x):be pE 139 [a] []=some (.i .i64 (I4 [] l),[]):=by
 have F:=aCr l a r D hc hlen wu 1
 rw[il aeF (by simp[Ui])]
 simp only[qB,seval,Ui,D.lenI,F]
 grind
def Hf:List (List Nat):= [[98,108,111,99,107],[115,112,97,110],[110,105,103,104,116],[99,114,101,100,105,116],[108,101,103,115],[104,101,97,100,115],[100,117,116,105,101,115]]
theorem ZB(s:List Nat):be pE 182 [.s s] []=some (.i .i64 (Zy s),[]):=by
 by_cases h:s∈Hf
 ·simp only[Hf,List.mem_cons,List.not_mem_nil,or_false]at h
  rcases h with rfl|rfl|rfl|rfl|rfl|rfl|rfl <;> exact mX (m:=20) (mS (by kernel_rfl))
 ·simp only[Hf,List.mem_cons,List.not_mem_nil,or_false,not_or]at h
  obtain⟨r,D,F,H,I,J,K⟩:=h
  rw[il ae8 (by simp[Uu])]
  unfold Zy
  simp only[qA,seval,Uu,r,D,F,H,I,J,K,or_self]
theorem ZC(s:List Nat): ∃n:Int,(n=0↔Zy s=0)∧be pE 128 [.s s] []=some (.i .i64 n,[]):=by
 by_cases h:s∈Hf
 ·simp only[Hf,List.mem_cons,List.not_mem_nil,or_false]at h
  rcases h with rfl|rfl|rfl|rfl|rfl|rfl|rfl
  iterate 4 exact⟨2,by decide,mX (m:=20) (mS (by kernel_rfl))⟩
  iterate 3 exact⟨1,by decide,mX (m:=20) (mS (by kernel_rfl))⟩
 ·simp only[Hf,List.mem_cons,List.not_mem_nil,or_false,not_or]at h
  obtain⟨r,D,F,H,I,J,K⟩:=h
  refine⟨0, ?_, ?_⟩
  ·unfold Zy;simp[r,D,F,H,I,J,K]
  ·rw[il aeu (by simp[Ua])]
   simp only[qA,seval,Ua,r,D,F,H,I,J,K]
def uy(g:Nat)(seen:List (List Nat)):b8:=⟨g,.map ((seen.map fun x=>(x,true)).map fun p=>sK p.1) ((seen.map fun x=>(x,true)).map fun p=>T.b p.2) false⟩
theorem L8(g:Nat)(seen:List (List Nat))(s:List Nat):lkE (uy g seen) g (.one .str) (.s s) (.b false) false=some (.b (decide (s∈seen))):=by
 unfold uy;rw[jF,if_pos rfl,IQ]
theorem L9{lh:iq b8}{kk:Nat}(g:Nat)(seen:List (List Nat))(s:List Nat)(h:s∉seen):muE lh kk (uy g seen) g (.one .str) (.s s) (.b true)=some (nN lh kk (uy g (seen++ [s]))):=by
 unfold uy;rw[tP,if_pos ⟨rfl,rfl⟩,E6 seen s h];rfl
theorem aCs(l:List Li)(a:T)(Y:List T)(ha:IsSl a l.length Y)(hc:iA LiR l Y)(hlen:l.length≤qK)(g:Nat)(O:b8)(fr:Fr)(lh:iq b8)(sh:List b8)
  (Z:an fr 3= .mp .L 8 g) (K:an fr 10=a) (r:an fr 11= .i .i64 (l.length:Int)) (U:an fr 12= .i .i64 0) (D:b7 lh 8=uy g []) (I:b7 lh 1=O):
  xy pE 80 vM fr lh sh 0 2 (QF [] l) (fun F V=>(QF [] l=0→b7 F 8=uy g (l.map Li.nm))∧b7 F 1=O∧V=sh):=by
 refine kj F9 (fun k f F V=>an f 12= .i .i64 (k:Int)∧b7 F 8=uy g ((l.take k).map Li.nm)∧b7 F 1=O∧V=sh∧QF [] l=QF ((l.take k).map Li.nm) (l.drop k)) l.length ⟨U,D,I,rfl,rfl⟩ ?_ ?_
 ·rintro k f F _ hk J ⟨N,D,I,rfl,hr⟩
  rw[List.drop_eq_getElem_cons hk,QF]at hr
  have iX:(k:Int)<l.length:=by omega
  have hw:=ji (k:=k) (by omega)
  obtain⟨rr,jg⟩:=QE ha hc k hk
  have FZ:=kq (sX l[k].nm)
  have W:=ZB l[k].me
  have X:=fun n lo hi=>kq (zy n lo hi)
  have mg:=L8 g ((l.take k).map Li.nm) l[k].nm
  have H:=fun lh kk=>L9 (lh:=lh) (kk:=kk) g ((l.take k).map Li.nm) l[k].nm
  have qG:(l.take (k+1)).map Li.nm=(l.take k).map Li.nm++ [l[k].nm]:=by rw[List.take_succ_eq_append_getElem hk,List.map_append];rfl
  by_cases hs:l[k].nm∈(l.take k).map Li.nm
  ·simp only[qB,seval,gd,vM,J,Z,K,r,N,D,I,iX,jg,FZ,yx,mg,hs]
   clear J X H
   grind
  ·simp only[qB,seval,gd,vM,J,Z,K,r,N,D,I,iX,jg,hw,FZ,yx,mg,hs,fun lh kk=>H lh kk hs,W,aqW,X,JY,qG]
   clear J X H
   grind (splits:=30)
 ·rintro f F _ J ⟨N,D,I,rfl,hr⟩
  rw[List.take_length]at D
  simp only[qB,seval,gd,vM,J,r,N,D,I,Int.lt_irrefl,hr,List.drop_length,QF]
  exact fun _=>trivial
theorem aCu(l:List Of)(r:List (List Nat))(a:T)(V:List T)(ha:IsSl a l.length V)(hc:iA OfR l V)(hlen:l.length≤qK)(g:Nat)(fr:Fr)(lh:iq b8)(sh:List b8)
  (W:an fr 3= .mp .L 8 g) (Ii:an fr 47=a) (D:an fr 48= .i .i64 (l.length:Int)) (N:an fr 49= .i .i64 0) (I:b7 lh 8=uy g r):
  xy pE 80 vL fr lh sh 3 2 (TK r l) (fun J O=>O=sh):=by
 refine kj QU (fun k f J O=>an f 49= .i .i64 (k:Int)∧b7 J 8=uy g (r++(l.take k).map Of.nm)∧O=sh∧TK r l=TK (r++(l.take k).map Of.nm) (l.drop k)) l.length ⟨N,by simpa using I,rfl,by simp⟩ ?_ ?_
 ·rintro k f J _ hk H ⟨K,I,rfl,hr⟩
  rw[List.drop_eq_getElem_cons hk,TK]at hr
  have X:(k:Int)<l.length:=by omega
  have hw:=ji (k:=k) (by omega)
  obtain⟨rr,Y⟩:=Zx ha hc k hk
  have FZ:=kq (sX l[k].nm)
  have U:=fun n lo hi=>kq (zy n lo hi)
  have Z:=L8 g (r++(l.take k).map Of.nm) l[k].nm
  have F:=fun lh kk=>L9 (lh:=lh) (kk:=kk) g (r++(l.take k).map Of.nm) l[k].nm
  have qG:r++(l.take (k+1)).map Of.nm=(r++(l.take k).map Of.nm)++ [l[k].nm]:=by rw[List.take_succ_eq_append_getElem hk,List.map_append,List.append_assoc];rfl
  by_cases hs:l[k].nm∈r++(l.take k).map Of.nm
  ·simp only[qB,seval,gd,vL,H,W,Ii,D,K,I,X,Y,FZ,yx,Z,hs]
   clear H U F
   grind
  ·simp only[qB,seval,gd,vL,H,W,Ii,D,K,I,X,Y,hw,FZ,yx,Z,hs,fun lh kk=>F lh kk hs,U,JY,qG]
   clear H U F
   grind
 ·rintro f J _ H ⟨K,I,rfl,hr⟩
  simp only[qB,seval,gd,vL,H,D,K,Int.lt_irrefl,hr,List.drop_length,TK]
structure tp (c:Ct) (a7 a8 a9 iv iy iw:T):Prop where
 h7: ∃cc,IsSl a7 c.cs.length cc∧mh c.cs cc
 h8: ∃cc,IsSl a8 c.ru.length cc∧iA Tq c.ru cc
 h9: ∃cc,IsSl a9 c.co.length cc∧iA ZY c.co cc
 h10: ∃cc,IsSl iv c.cr.length cc∧ku c.cr cc
 h11: ∃cc,IsSl iy c.li.length cc∧iA LiR c.li cc
 h12: ∃cc,IsSl iw c.fs.length cc∧iA OfR c.fs cc
structure A1 (c:Ct):Prop where
 s7:smC c.cs∧c.cs.length≤qK
 s8:(∀u∈c.ru,XE u.x)∧c.ru.length≤qK
 s9:(∀u∈c.co,XE u.x)∧c.co.length≤qK
 s10:(∀x∈c.cr,XE x)∧c.cr.length≤qK
 s11:c.li.length≤qK
 s12:c.fs.length≤qK
section
variable(c:Ct)(a7 a8 a9 iv iy iw:T)(hT:tp c a7 a8 a9 iv iy iw)(hS:A1 c)
def jB:List T:= [.i .i64 c.rp,.i .i64 c.rl,.i .i64 c.cn,.i .i64 c.st,.i .i64 c.ly,.i .i64 c.nf,.i .i64 c.nt,a7,a8,a9,iv,iy,iw,.i .i64 c.gu]
include hT hS
theorem alJ:be pE 142 [.agg (jB c a7 a8 a9 iv iy iw)] []=some (.i .i64 (Zz c),[]):=by
 obtain⟨Tu,r,Po⟩:=hT.h11
 obtain⟨Mf,D,Tv⟩:=hT.h12
 rw[il aeI (by simp[Uk])]
 have F:=fun fr lh sh x1 x2 x3 x4 x5 x6=>lpO (aCs c.li iy Tu r Po hS.s11 1 ⟨1,.cells (jB c a7 a8 a9 iv iy iw) 0 true⟩ fr lh sh x1 x2 x3 x4 x5 x6) (by simp[uy])
 have H:=aCu c.fs (c.li.map Li.nm) iw Mf D Tv hS.s12 1
 unfold jB at F ⊢
 unfold Zz
 have I:uy 1 []=⟨1,.map [] [] false⟩:=rfl
 simp(maxDischargeDepth:=6) only[qB,seval,Uk,F9,r.lenI,D.lenI,I,F,H]
 grind
end
theorem aCv(l:List Co)(a:T)(V:List T)(W:IsSl a l.length V)(hc:iA ZY l V)(hlen:l.length≤qK)(wu: ∀u∈l,XE u.x)(I:b8)(fr:Fr)(lh:iq b8)(sh:List b8)
  (J:an fr 84=a) (r:an fr 85= .i .i64 (l.length:Int)) (K:an fr 86= .i .i64 0) (D:b7 lh 1=I):
  xy pE 116 Dn fr lh sh 1 2 (K4 l) (fun F N=>b7 F 1=I∧N=sh):=by
 refine kj JN (fun k f F N=>an f 86= .i .i64 (k:Int)∧b7 F 1=I∧N=sh∧K4 l=K4 (l.drop k)) l.length ⟨K,D,rfl,rfl⟩ ?_ ?_
 ·rintro k f F _ hk H ⟨O,D,rfl,hr⟩
  rw[List.drop_eq_getElem_cons hk,K4]at hr
  have X:(k:Int)<l.length:=by omega
  have Y:=ji (k:=k) (by omega)
  obtain⟨b,cb,rr,Z,m9,hb⟩:=QD W hc k hk
  obtain⟨FW,U⟩:=wu l[k] (List.getElem_mem hk)
  have nk:=kq (He l[k].sc)
  have Oq:=fun z fr lh sh=>tf (z:=z) (fr:=fr) (lh:=lh) (sh:=sh) l[k].x _ hb FW U
  simp only[qB,seval,gd,Dn,H,J,r,O,D,X,Z,Y,nk,UT,Oq]
  clear H
  grind
 ·rintro f F _ H ⟨O,D,rfl,hr⟩
  simp only[qB,seval,gd,Dn,H,r,O,D,Int.lt_irrefl,hr,List.drop_length,K4]
theorem aCw(l:List Ex)(a:T)(V:List T)(W:IsSl a l.length V)(hc:ku l V)(hlen:l.length≤qK)(wu: ∀x∈l,XE x)(I:b8)(fr:Fr)(lh:iq b8)(sh:List b8)
  (J:an fr 102=a) (r:an fr 103= .i .i64 (l.length:Int)) (K:an fr 104= .i .i64 0) (D:b7 lh 1=I):
  xy pE 116 Dm fr lh sh 3 2 (K5 l) (fun F N=>b7 F 1=I∧N=sh):=by
 refine kj JM (fun k f F N=>an f 104= .i .i64 (k:Int)∧b7 F 1=I∧N=sh∧K5 l=K5 (l.drop k)) l.length ⟨K,D,rfl,rfl⟩ ?_ ?_
 ·rintro k f F _ hk H ⟨O,D,rfl,hr⟩
  rw[List.drop_eq_getElem_cons hk,K5]at hr
  have X:(k:Int)<l.length:=by omega
  have Y:=ji (k:=k) (by omega)
  obtain⟨b,cb,rr,Z,m9,sx,hb⟩:=si W hc k hk
  obtain⟨FW,U⟩:=wu l[k] (List.getElem_mem hk)
  have Oq:=fun z fr lh sh=>tf (z:=z) (fr:=fr) (lh:=lh) (sh:=sh) l[k] _ hb FW U
  simp only[qB,seval,gd,Dm,H,J,r,O,D,X,Z,Y,Oq]
  clear H
  grind
 ·rintro f F _ H ⟨O,D,rfl,hr⟩
  simp only[qB,seval,gd,Dm,H,r,O,D,Int.lt_irrefl,hr,List.drop_length,K5]
section
variable(c:Ct)(a7 a8 a9 iv iy iw:T)(hT:tp c a7 a8 a9 iv iy iw)(hS:A1 c)
include hT hS
theorem ZD:be pE 88 [.agg (jB c a7 a8 a9 iv iy iw)] []=some (.i .i64 (m5 c),[]):=by
 have hv:=alJ c a7 a8 a9 iv iy iw hT hS
 obtain⟨⟨c7,H,V⟩,⟨c8,I,W⟩,⟨X,J,Y⟩,⟨F3,r,Nn⟩,⟨Tu,D,Po⟩,⟨Mf,F,Tv⟩⟩:=hT
 have O:=alG c.cs a7 c7 H V hS.s7.2 hS.s7.1
 have U:=alH c.ru a8 c8 I W hS.s8.2 hS.s8.1
 have K:=aCv c.co a9 X J Y hS.s9.2 hS.s9.1 ⟨1,.cells (jB c a7 a8 a9 iv iy iw) 0 true⟩
 have N:=aCw c.cr iv F3 r Nn hS.s10.2 hS.s10.1 ⟨1,.cells (jB c a7 a8 a9 iv iy iw) 0 true⟩
 have w:=fun n lo hi=>kq (zy n lo hi)
 unfold jB at K N hv ⊢
 rw[il aht (by simp[c88])]
 unfold m5 qe qo
 simp(maxDischargeDepth:=6) only[qB,seval,c88,JM,JN,H.froz,I.froz,H.lenI,I.lenI,J.lenI,r.lenI,D.lenI,F.lenI,H.froz1,I.froz1,J.froz1,r.froz1,D.froz1,F.froz1,w,JY,O,U,aqK,aqL,K,N,hv,aqN]
 clear O U K N hv w hS
 grind (splits:=40)
end
theorem um(n lo hi:Int):be pE 129 [.i .i64 n,.i .i64 lo,.i .i64 hi] []=some (.b (rk n lo hi),[]):=by
 rw[il aev (by simp[Ub])]
 unfold rk
 by_cases h:lo≤n <;> simp only[qA,seval,Ub,h]
theorem aCz(l:List Li)(a:T)(I:List T)(J:IsSl a l.length I)(hc:iA LiR l I)(hlen:l.length≤qK)(n:Nat)(Z:n≤l.length)(s:List Nat)(c:Ct)(a7 a8 a9 iv iw:T)(K:List T)(G4:Nat)(fr:Fr)(lh:iq b8)(sh:List b8)(N:an fr 1= .ptr .L 1 1 0)(g3:an fr 3= .i .i64 (n:Int))(O:an fr 4= .ptr .L 4 G4 0)(U:an fr 5= .i .i64 0)(V:b7 lh 1=⟨1,.cells (jB c a7 a8 a9 iv a iw) 0 true⟩)(W:b7 lh 4=⟨G4,.cells (.s s::K) 0 true⟩):
  xy pE 112 yi fr lh sh 2 2 (if s∈(l.map Li.nm).take n then 7 else 0) (fun D F=>D=lh∧F=sh):=by
 refine kj F7 (fun j f D F=>an f 5= .i .i64 (j:Int)∧D=lh∧F=sh∧s∉(l.map Li.nm).take j) n ⟨U,rfl,rfl,by simp⟩ ?_ ?_
 ·rintro j f _ _ hj r ⟨H,rfl,rfl,hr⟩
  obtain⟨rr,X⟩:=QE J hc j (by omega)
  have Y:=ji (k:=j) (by omega)
  have Z9:(j:Int)<n:=by omega
  simp only[qB,seval,gd,yi,r,N,g3,O,H,Z9,X,Y,V,W,jB]
  clear r
  grind [List.mem_take_iff_getElem]
 ·rintro f _ _ r ⟨H,rfl,rfl,hr⟩
  simp only[qB,seval,gd,yi,r,g3,H,Int.lt_irrefl,hr]
theorem aCA(l:List Li)(a:T)(J:List T)(D:IsSl a l.length J)(hc:iA LiR l J)(hlen:l.length≤qK)(s:List Nat)(c:Ct)(a7 a8 a9 iv iw:T)(O:List T)(G7:Nat)(fr:Fr)(lh:iq b8)(sh:List b8)(K:an fr 1= .ptr .L 1 1 0)(U:an fr 7= .ptr .L 7 G7 0)(V:an fr 8= .i .i64 0)(N:b7 lh 1=⟨1,.cells (jB c a7 a8 a9 iv a iw) 0 true⟩)(W:b7 lh 7=⟨G7,.cells (.s s::O) 0 true⟩):
  xy pE 112 yg fr lh sh 6 2 (if s∈l.map Li.nm then 7 else 0) (fun F H=>F=lh∧H=sh):=by
 refine kj F6 (fun j f F H=>an f 8= .i .i64 (j:Int)∧F=lh∧H=sh∧s∉(l.map Li.nm).take j) l.length ⟨V,rfl,rfl,by simp⟩ ?_ ?_
 ·rintro j f _ _ X r ⟨I,rfl,rfl,hr⟩
  obtain⟨rr,Y⟩:=QE D hc j X
  have Z:=ji (k:=j) (by omega)
  have Z9:(j:Int)<l.length:=by omega
  simp only[qB,seval,gd,yg,r,K,U,I,D.lenI,Z9,Y,Z,N,W,jB]
  clear r
  grind [List.mem_take_iff_getElem]
 ·rintro f _ _ r ⟨I,rfl,rfl,hr⟩
  rw[List.take_of_length_le (by simp)]at hr
  simp only[qB,seval,gd,yg,r,K,I,D.lenI,N,jB,Int.lt_irrefl,hr]
theorem aCB(l:List Of)(a:T)(I:List T)(K:IsSl a l.length I)(hc:iA OfR l I)(hlen:l.length≤qK)(n:Nat)(hn:n≤l.length)(s:List Nat)(c:Ct)(a7 a8 a9 iv iy:T)(N:List T)(G7:Nat)(fr:Fr)(lh:iq b8)(sh:List b8)(O:an fr 1= .ptr .L 1 1 0)(J:an fr 6= .i .i64 (n:Int))(U:an fr 7= .ptr .L 7 G7 0)(V:an fr 9= .i .i64 0)(W:b7 lh 1=⟨1,.cells (jB c a7 a8 a9 iv iy a) 0 true⟩)(X:b7 lh 7=⟨G7,.cells (.s s::N) 0 true⟩):
  xy pE 112 yf fr lh sh 8 2 (if s∈(l.map Of.nm).take n then 7 else 0) (fun D F=>D=lh∧F=sh):=by
 refine kj F5 (fun j f D F=>an f 9= .i .i64 (j:Int)∧D=lh∧F=sh∧s∉(l.map Of.nm).take j) n ⟨V,rfl,rfl,by simp⟩ ?_ ?_
 ·rintro j f _ _ hj r ⟨H,rfl,rfl,hr⟩
  obtain⟨rr,Y⟩:=Zx K hc j (by omega)
  have Z:=ji (k:=j) (by omega)
  have Z9:(j:Int)<n:=by omega
  simp only[qB,seval,gd,yf,r,O,J,U,H,Z9,Y,Z,W,X,jB]
  clear r
  grind [List.mem_take_iff_getElem]
 ·rintro f _ _ r ⟨H,rfl,rfl,hr⟩
  simp only[qB,seval,gd,yf,r,J,H,Int.lt_irrefl,hr]
end Go.Proofs.YtcpceiclnbmgiaaGreat
