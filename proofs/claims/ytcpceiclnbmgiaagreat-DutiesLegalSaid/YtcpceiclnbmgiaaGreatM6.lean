/- Walks of functions of the program and of the reference, and their plain laws, part 6. Conditions: the theorems' own. -/
import Derived.Test.YtcpceiclnbmgiaaGreatM5
import Derived.KernelRfl
set_option maxRecDepth 100000
set_option linter.unusedSimpArgs false
set_option linter.unusedVariables false
set_option maxHeartbeats 16000000
namespace Go.Proofs.YtcpceiclnbmgiaaGreat
open Go Go.Ev
section
variable(l:Cs)(lT:T)(R:List b8)(cl:List T)(hl:IsSl lT l.length cl)(mG:mf l cl)(hlen:l.length≤qz)
theorem HN(n:Nat)(J3:n≤l.length)(hc: ∀j,j<n→auV l lT R j)(scope:Int)(m9:scope=0∨scope=1∨scope=2∨scope=3)(x:Ex):auU l lT R n scope x:=by
 induction x using Ex.ind with
 |h x ih=>
  intro k kn cs O hx hn Cv ht
  obtain⟨a,cc,rfl,ha,KE⟩:=hx.cells
  obtain⟨D,h2,nh,NV,ER,J4⟩:=CE Cv
  have hnd:=x.nodes_eq
  rw[il agR (by simp[Jd]),rS]
  by_cases e1:x.op=1
  ·rw[if_pos (.inl e1)]
   simp only[qA,seval,Jd,e1]
   exact⟨_,kn,rfl,om.of (x:= .mk 1 x.num []) (Or.inl ⟨rfl,rfl,rfl⟩) iR.nil,O,fun _ _=>rfl⟩
  by_cases e2:x.op=2
  ·rw[if_pos (.inr (.inl e2))]
   simp only[qA,seval,Jd,e2]
   exact⟨_,kn,rfl,om.of (x:= .mk 1 x.num []) (Or.inl ⟨rfl,rfl,rfl⟩) iR.nil,O,fun _ _=>rfl⟩
  by_cases e3:x.op=3
  ·rw[if_pos (.inr (.inr e3))]
   simp only[qA,seval,Jd,e3]
   exact⟨_,kn,rfl,om.of (x:= .mk 1 x.num []) (Or.inl ⟨rfl,rfl,rfl⟩) iR.nil,O,fun _ _=>rfl⟩
  rw[if_neg (by omega)]
  by_cases e4:x.op=4
  ·rw[if_pos e4]
   simp only[qA,seval,Jd,e4]
   exact⟨_,kn,rfl,om.of (x:= .mk 1 1 []) (Or.inl ⟨rfl,rfl,rfl⟩) iR.nil,O,fun _ _=>rfl⟩
  rw[if_neg e4]
  by_cases e5:x.op=5
  ·rw[if_pos e5]
   simp only[qA,seval,Jd,e5]
   exact⟨_,kn,rfl,om.of (x:= .mk 1 0 []) (Or.inl ⟨rfl,rfl,rfl⟩) iR.nil,O,fun _ _=>rfl⟩
  rw[if_neg e5]
  by_cases N:x.op=6
  ·rw[if_pos N]
   rw[Ex.ty_eq,if_pos N]at ht
   have r:=lkS (kV (S9 scope) (S9 scope).length) x.name
   change _=some (Te (Pm scope x.name))at r
   by_cases hz:lX scope x.name=0
   ·rw[if_neg (by simp[hz])]at ht
    have hp:=(uS scope x.name).2 hz
    rw[hp]at r ⊢
    obtain⟨i,qZ,mH,SQ,_,_,ak5,_⟩:=CG J3 ht
    obtain⟨U,im,oz,qk⟩:=hc i mH x.name k kn SQ ak5 O
    simp only[Te]at r
    rcases m9 with rfl|rfl|rfl|rfl
    ·change nz _ ((kV [] 0).map _) ((kV [] 0).map _) _ _ _=_ at r
     simp only[qA,seval,kZ,j2,Jd,N,IA,aBR,jF,r,im,aae]
     exact⟨_,U,rfl,om.of (x:= .mk 1 (pX l x.name) []) (Or.inl ⟨rfl,rfl,rfl⟩) iR.nil,oz,fun i hi=>qk i (by omega)⟩
    ·change nz _ ((kV kb 11).map _) ((kV kb 11).map _) _ _ _=_ at r
     simp only[qA,seval,kZ,j2,Jd,N,IA,auQ,jF,r,im,aae]
     exact⟨_,U,rfl,om.of (x:= .mk 1 (pX l x.name) []) (Or.inl ⟨rfl,rfl,rfl⟩) iR.nil,oz,fun i hi=>qk i (by omega)⟩
    ·change nz _ ((kV my 25).map _) ((kV my 25).map _) _ _ _=_ at r
     simp only[qA,seval,kZ,j2,Jd,N,IA,auR,jF,r,im,aae]
     exact⟨_,U,rfl,om.of (x:= .mk 1 (pX l x.name) []) (Or.inl ⟨rfl,rfl,rfl⟩) iR.nil,oz,fun i hi=>qk i (by omega)⟩
    ·change nz _ ((kV qQ 7).map _) ((kV qQ 7).map _) _ _ _=_ at r
     simp only[qA,seval,kZ,j2,Jd,N,IA,auS,jF,r,im,aae]
     exact⟨_,U,rfl,om.of (x:= .mk 1 (pX l x.name) []) (Or.inl ⟨rfl,rfl,rfl⟩) iR.nil,oz,fun i hi=>qk i (by omega)⟩
   ·cases hp:Pm scope x.name with
    |none=>exact absurd ((uS scope x.name).1 hp) hz
    |some i=>
     rw[hp]at r
     rw[show Te (some i)= .tup [.i .i64 (i:Int),.b true]from rfl]at r
     have hf:om (.mk 6 (i:Int) []) [.i .i64 6,.i .i64 (i:Int),.nilsl]:=om.of (x:= .mk 6 (i:Int) []) (Or.inl ⟨rfl,rfl,rfl⟩) iR.nil
     rcases m9 with rfl|rfl|rfl|rfl
     ·exact absurd (rR _) hz
     ·change nz _ ((kV kb 11).map _) ((kV kb 11).map _) _ _ _=_ at r
      simp only[qA,seval,kZ,Jd,N,IA,auQ,jF,r]
      exact⟨_,kn,rfl,hf,O,fun _ _=>rfl⟩
     ·change nz _ ((kV my 25).map _) ((kV my 25).map _) _ _ _=_ at r
      simp only[qA,seval,kZ,Jd,N,IA,auR,jF,r]
      exact⟨_,kn,rfl,hf,O,fun _ _=>rfl⟩
     ·change nz _ ((kV qQ 7).map _) ((kV qQ 7).map _) _ _ _=_ at r
      simp only[qA,seval,kZ,Jd,N,IA,auS,jF,r]
      exact⟨_,kn,rfl,hf,O,fun _ _=>rfl⟩
  ·rw[if_neg N]
   obtain⟨ts,yK,hr,hk⟩:=CD ht N
   have Mi:=mi x.args
   have BY:x.args.length≤qz:=oi (by omega)
   have hmk:x.args.length*40≤roomy∧x.args.length≤roomy:=by unfold qz at BY;unfold roomy;omega
   have KG:=fun fr lh sh F H D I BT Em B0 J K G3=>aBT l lT R n scope x.args (fun y hy=>ih y hy) a cc ha KE (by omega) J4 ts yK kn O (.i .i64 x.op) 1 1 ⟨1,.cells [.i .i64 0,.i .i64 0,.nilsl] 0 true⟩ fr lh sh F H D I BT Em B0 J K G3
   have hL:=fun fr lh sh F H D I BT Em B0 J K G3=>And.intro (KG fr lh sh F H D I BT Em B0 J K G3).1 (And.intro (KG fr lh sh F H D I BT Em B0 J K G3).2.1 (And.intro (KG fr lh sh F H D I BT Em B0 J K G3).2.2.1 (And.intro (Wv (KG fr lh sh F H D I BT Em B0 J K G3).2.2.2.1).1 (agf (KG fr lh sh F H D I BT Em B0 J K G3).2.2.2.2).1)))
   have hF:=fun fr lh sh F H D I BT Em B0 J K G3=>(Wv (KG fr lh sh F H D I BT Em B0 J K G3).2.2.2.1).2
   have hM:=fun fr lh sh F H D I BT Em B0 J K G3=>(agf (KG fr lh sh F H D I BT Em B0 J K G3).2.2.2.2).2
   have V:=fun fr lh sh F H D I BT Em B0 J K G3=>(hF fr lh sh F H D I BT Em B0 J K G3).len
   have mG:(lY (pX l) scope x.args).length=x.args.length:=by rw[qC];simp
   rw[mG]at V
   simp only[qA,seval,jG,sN,iE,mc,Jd,Ts,e1,e2,e3,e4,e5,N,ha.lenI,hmk,hL,V]
   generalize hX:Wu _ _=X
   generalize hMX:kL _ _ _ _ _ _=U
   have W:iR (lY (pX l) scope x.args) X:=by
    rw[←hX]
    refine hF _ _ _ rfl ?_ ?_ ?_ ?_ ?_ ?_ ?_ ?_ ?_ <;> simp only[qA,seval]
   have Y:oy l U∧ ∀i,n≤i→iJ U i=iJ kn i:=by
    rw[←hMX]
    refine hM _ _ _ rfl ?_ ?_ ?_ ?_ ?_ ?_ ?_ ?_ ?_ <;> simp only[qA,seval]
   have Z:=W.len
   rw[mG]at Z
   rw[←Z,List.take_length]
   exact⟨_,U,rfl,om.of (x:= .mk x.op 0 (lY (pX l) scope x.args)) (Or.inr ⟨false,by show T.sl X x.args.length false= .sl X (lY (pX l) scope x.args).length false;rw[mG]⟩) W,Y.1,Y.2⟩
end
theorem oZ{x:Ex}(hv:jy x=0):x.nodes≤200∧x.depth≤16:=by
 unfold jy at hv
 by_cases h:big x
 ·rw[if_pos h]at hv;cases hv
 ·unfold big at h;omega
theorem Ze{lh:iw b8}{sh:List b8}{keep:Bool}{k g wm:Nat}{cs:List T}{bx:Bool}(h:b7 lh k=⟨g,.cells cs wm bx⟩)(hc:cs.all froz1=true):fzV lh sh keep (.ptr .L k g 0)=some (.vp cs,[(.L,k,⟨g,.cells cs cs.length bx⟩)]):=by
 unfold fzV iG
 have hk:(keep&&Sp.L==Sp.S)=false:=by cases keep <;> rfl
 show Q.run _ _ (if(keep&&Sp.L==Sp.S)=true then _ else _)=_
 rw[hk]
 simp only[Bool.false_eq_true,if_false,Q.run]
 have i:(St.mk .nil lh sh).get .L k=⟨g,.cells cs wm bx⟩:=h
 rw[i]
 simp only[if_true,List.drop_zero]
 have:ja (fz false 7) cs= .ret (cs,[]):=by
  clear h i
  induction cs with
  |nil=>rfl
  |cons c cs ih=>
   rw[List.all_cons,Bool.and_eq_true]at hc
   simp only[ja,pH hc.1,ih hc.2,Q.bind,List.append_nil]
 rw[this]
 rfl
theorem const_comp{l:Cs}{s:List Nat}{t:Int}(h:LY l s=(t,0)): ∃i,∃hi:i<l.length,oX l s=some i∧jy l[i].2=0∧l[i].2.ty (CL l i) 0=(t,0)∧E4 [] (comp (pX l) 0 l[i].2)∧(comp (pX l) 0 l[i].2).val []=pX l s∧pX l s=(E7 l l.length).getD i 0:=by
 obtain⟨i,hi,SQ,hv,J,r,ZI,K,_,N⟩:=LG h
 have Cv:=oj hv
 have O:=(l[i].2).nodes_eq
 have Y:=oZ hv
 have U:Sd (ZM (LY l) 0) (IQ (pX l) 0 []):=by rw[auM,age];exact HZ l
 obtain⟨V,F,H⟩:=Pn U rfl l[i].2 t Cv (by omega) r
 rw[age]at F H
 have W:=(Qg (HZ l) 0 (fun s=>rR s) l[i].2 t Cv r).1
 have D:Y7 l 0 l[i].2=wc t (l[i].2.val0 (pX l)):=W
 rw[ZI]at D
 have X:=(Iy (scope:=0) K).2.2
 have I:=(Iy (scope:=0) H).2.2
 rw[←D,X]at I
 exact⟨i,hi,SQ,hv,J,V,by rw[F,I],N⟩
section
variable(l:Cs)(lT:T)(R:List b8)(cl:List T)(hl:IsSl lT l.length cl)(mG:mf l cl)(hlen:l.length≤qz)
include hl mG
theorem HO: ∀j,j<l.length→auV l lT R j:=by
 intro j
 induction j using Nat.strongRecOn with
 |ind j ih=>
  intro Y s t kn SQ O U
  obtain⟨j',ZX,H,hv,ht,sP,I,Z⟩:=const_comp O
  rw[SQ]at H
  cases H
  have D:=lkS (js l l.length) s
  rw[vU l s l.length (Nat.le_refl _),List.take_length,SQ]at D
  rw[show Te (some j)= .tup [.i .i64 (j:Int),.b true]from rfl]at D
  have F:nz (.one .int) (kn.map fun p=>nK p.1) (kn.map fun p=>iV p.2) (.i .i64 (j:Int)) (.i .i64 0) true=_:=ais (kT:=nK) (vT:=iV) adi (fun _=>rfl) kn j (.i .i64 0)
  rw[il ap8 (by simp[c94])]
  cases N:iJ kn j with
  |some v=>
   have e:=U j v N
   rw[N]at F
   simp only[show iV v= .i .i64 v from rfl]at F
   rw[Z,←e]
   simp only[qA,seval,c94,IA,auO,auP,jF,D,F]
   exact⟨kn,rfl,U,fun _ _=>rfl⟩
  |none=>
   rw[N]at F
   simp only at F
   obtain⟨b,cb,r,je,mZ,sg,hb⟩:=ot hl mG j Y
   obtain⟨cf,J,im,yO,oz,qk⟩:=HN l lT R j (Nat.le_of_lt Y) (fun i hi=>ih i hi (by omega)) 0 (.inl rfl) l[j].2 t kn _ U hb (oZ hv).1 (oj hv) ht
   obtain⟨V,fc,rfl,BU,W⟩:=yO.cells
   have K:=Ec [] .nilsl (Or.inl ⟨rfl,rfl,rfl⟩) (comp (pX l) 0 l[j].2) V fc [] BU W sP
   rw[I]at K
   have xP:iJ J j=none:=by rw[qk j (Nat.le_refl _),N]
   have n6:qE (.one .int) (.i .i64 (j:Int)) (.i .i64 (pX l s)) (J.map fun p=>nK p.1) (J.map fun p=>iV p.2)=_:=y9 (kT:=nK) (vT:=iV) adi J j (pX l s) xP
   generalize comp (pX l) 0 l[j].2=y at*
   have FO:([T.i .i64 y.op,T.i .i64 y.num,V]:List T).all froz1=true:=by simp[BU.froz1,yX]
   have X:=fun lh sh keep (h:b7 lh 9=⟨1,.cells [.i .i64 y.op,.i .i64 y.num,V] 0 true⟩)=>Ze (sh:=sh) (keep:=keep) h FO
   simp only[qA,seval,j2,c94,IA,auO,auP,jF,D,F,je,mZ.kept1,im,qY,X,axC,K,afv,n6,auT]
   refine⟨_,rfl, ?_, ?_⟩
   ·intro i v hi
    rw[qx]at hi
    cases B7:iJ J i with
    |some u=>rw[B7]at hi;cases hi;exact oz i _ B7
    |none=>
     rw[B7]at hi
     simp only at hi
     split at hi
     ·rename_i e;subst e;cases hi;exact Z
     ·cases hi
   ·intro i hi
    rw[qx,qk i (by omega)]
    cases iJ kn i with
    |some u=>rfl
    |none=>simp only;rw[if_neg (by omega)]
end
section
variable(l:Cs)(n:Nat)(J3:n≤l.length)(lT vT:T)(cl:List T)(hl:IsSl lT n cl)(mG:mf (l.take n) cl)(hlen:l.length≤qz)(hv:IsSl vT n (ints (E7 l n)))
include hl hv
include J3 mG hlen
end
section
variable(l:Cs)(lT:T)(cl:List T)(hl:IsSl lT l.length cl)(mG:mf l cl)(hlen:l.length≤qz)(v9:smC l)
include hl mG hlen v9
end
def iA{α:Type}(R:α→List T→Prop):List α→List T→Prop
 | [],cs=>cs= []
 |x::xs,cs=> ∃c r,cs=c++r∧R x c∧iA R xs r
section
variable{α:Type}{R:α→List T→Prop}{k:Nat}
theorem iA.len(i: ∀x c,R x c→c.length=k): ∀{xs:List α} {cs:List T},iA R xs cs→cs.length=xs.length*k
 | [],cs,h=>by grind [iA]
 |x::xs,cs,h=>by
  rw[iA]at h
  obtain⟨c,r,rfl,D,F⟩:=h
  rw[List.length_append,i _ _ D,iA.len i F,List.length_cons,Nat.add_mul,Nat.one_mul,Nat.add_comm]
theorem iA.drop(D: ∀x c,R x c→c.length=k): ∀{xs:List α} {cs:List T} (i:Nat) (hi:i<xs.length),iA R xs cs→ ∃c r,cs.drop (i*k)=c++r∧R xs[i] c
 | [],cs,i,hi,h=>by simp at hi
 |x::xs,cs,0,hi,h=>by
  grind [iA]
 |x::xs,cs,i+1,hi,h=>by
  rw[iA]at h
  obtain⟨c,r,rfl,F,H⟩:=h
  obtain⟨I,J,e,K⟩:=iA.drop D i (by simpa using hi) H
  refine⟨I,J, ?_,K⟩
  have:(i+1)*k=c.length+i*k:=by rw[D _ _ F,Nat.add_mul,Nat.one_mul,Nat.add_comm]
  grind [List.drop_append,Nat.add_sub_cancel_left,List.drop_eq_nil_of_le]
theorem pt(D: ∀x c,R x c→c.length=k){xs:List α}{a:T}{F:List T}(I:IsSl a xs.length F)(H:iA R xs F)(i:Nat)(hi:i<xs.length): ∃c r,(∀kk,lR a (.i kk (i:Int)) k=some (.vp (c++r)))∧R xs[i] c:=by
 obtain⟨c,r,e,J⟩:=iA.drop D i hi H
 exact⟨c,r,fun kk=>by rw[I.ia (sz:=k) (iA.len D H) hi,e],J⟩
theorem iA.append: ∀{xs i:List α} {c r:List T},iA R xs c→iA R i r→iA R (xs++i) (c++r)
 | [],i,c,r,D,F=>by grind [iA]
 |x::xs,i,c,r,D,F=>by
  rw[iA]at D
  obtain⟨H,I,rfl,J,K⟩:=D
  rw[List.append_assoc]
  exact⟨H,I++r,rfl,J,iA.append K F⟩
theorem iA.one{x:α}{c:List T}(h:R x c):iA R [x] c:=⟨c,[],by simp,h,rfl⟩
end
structure Ru where
 sc:Int
 nm:List Nat
 x:Ex
structure Co where
 sc:Int
 x:Ex
structure Li where
 nm:List Nat
 me:List Nat
 mo:Int
 da:Int
structure Of where
 nm:List Nat
 ct:Int
 da:Int
def S2(u:Ru)(c:List T):Prop:= ∃a r,c= [.i .i64 u.sc,.s u.nm,.i .i64 u.x.op,.i .i64 u.x.num,.s u.x.name,a]∧IsSl a u.x.args.length r∧ku u.x.args r
def ZJ(u:Co)(c:List T):Prop:= ∃a r,c= [.i .i64 u.sc,.i .i64 u.x.op,.i .i64 u.x.num,.s u.x.name,a]∧IsSl a u.x.args.length r∧ku u.x.args r
def LiR(u:Li)(c:List T):Prop:=c= [.s u.nm,.s u.me,.i .i64 u.mo,.i .i64 u.da]
def OfR(u:Of)(c:List T):Prop:=c= [.s u.nm,.i .i64 u.ct,.i .i64 u.da]
theorem S2.len(u:Ru)(c:List T)(h:S2 u c):c.length=6:=by obtain⟨a,i,rfl,_⟩:=h;rfl
theorem ZJ.len(u:Co)(c:List T)(h:ZJ u c):c.length=5:=by obtain⟨a,i,rfl,_⟩:=h;rfl
theorem LiR.len(u:Li)(c:List T)(h:LiR u c):c.length=4:=by rw[h];rfl
theorem OfR.len(u:Of)(c:List T)(h:OfR u c):c.length=3:=by rw[h];rfl
theorem LJ{xs:List Ru}{a:T}{F:List T}(I:IsSl a xs.length F)(J:iA S2 xs F)(i:Nat)(hi:i<xs.length):
  ∃b D r,(∀kk,lR a (.i kk (i:Int)) 6=some (.vp (.i .i64 xs[i].sc:: .s xs[i].nm:: .i .i64 xs[i].x.op:: .i .i64 xs[i].x.num:: .s xs[i].x.name::b::r)))∧IsSl b xs[i].x.args.length D∧mU xs[i].x [.i .i64 xs[i].x.op,.i .i64 xs[i].x.num,.s xs[i].x.name,b]:=by
 obtain⟨c,r,K,b,D,rfl,H,N⟩:=pt S2.len I J i hi
 exact⟨b,D,r,K,H,mU.of H N⟩
theorem Qj{xs:List Co}{a:T}{F:List T}(I:IsSl a xs.length F)(J:iA ZJ xs F)(i:Nat)(hi:i<xs.length):
  ∃b D r,(∀kk,lR a (.i kk (i:Int)) 5=some (.vp (.i .i64 xs[i].sc:: .i .i64 xs[i].x.op:: .i .i64 xs[i].x.num:: .s xs[i].x.name::b::r)))∧IsSl b xs[i].x.args.length D∧mU xs[i].x [.i .i64 xs[i].x.op,.i .i64 xs[i].x.num,.s xs[i].x.name,b]:=by
 obtain⟨c,r,K,b,D,rfl,H,N⟩:=pt ZJ.len I J i hi
 exact⟨b,D,r,K,H,mU.of H N⟩
theorem Qk{xs:List Li}{a:T}{D:List T}(H:IsSl a xs.length D)(I:iA LiR xs D)(i:Nat)(hi:i<xs.length):
  ∃r,∀kk,lR a (.i kk (i:Int)) 4=some (.vp (.s xs[i].nm:: .s xs[i].me:: .i .i64 xs[i].mo:: .i .i64 xs[i].da::r)):=by
 obtain⟨c,r,F,J⟩:=pt LiR.len H I i hi
 rw[J]at F
 exact⟨r,F⟩
theorem Zf{xs:List Of}{a:T}{D:List T}(H:IsSl a xs.length D)(I:iA OfR xs D)(i:Nat)(hi:i<xs.length):
  ∃r,∀kk,lR a (.i kk (i:Int)) 3=some (.vp (.s xs[i].nm:: .i .i64 xs[i].ct:: .i .i64 xs[i].da::r)):=by
 obtain⟨c,r,F,J⟩:=pt OfR.len H I i hi
 rw[J]at F
 exact⟨r,F⟩
structure Ct where
 rp:Int
 rl:Int
 cn:Int
 st:Int
 ly:Int
 nf:Int
 nt:Int
 cs:Cs
 ru:List Ru
 co:List Co
 cr:List Ex
 li:List Li
 fs:List Of
 gu:Int
def re(n lo hi:Int):Bool:=decide (lo≤n)&&decide (n≤hi)
def L0(seen:List (List Nat)):Cs→Int
 | []=>0
 |c::l=>if og c.1=false then 1 else if c.1∈seen then 7 else if jy c.2≠0 then jy c.2 else L0 (seen++ [c.1]) l
def IP(seen:List (Int×List Nat)):List Ru→Int
 | []=>0
 |u::l=>if re u.sc 1 3=false∨og u.nm=false then 1 else if(u.sc,u.nm)∈seen then 7 else if jy u.x≠0 then jy u.x else IP (seen++ [(u.sc,u.nm)]) l
def KQ:List Co→Int
 | []=>0
 |u::l=>if re u.sc 1 3=false then 1 else if jy u.x≠0 then jy u.x else KQ l
def KR:List Ex→Int
 | []=>0
 |x::l=>if jy x≠0 then jy x else KR l
def Zg(s:List Nat):Int:=if s= [98,108,111,99,107]∨s= [115,112,97,110]∨s= [110,105,103,104,116]∨s= [99,114,101,100,105,116]then 3 else if s= [108,101,103,115]∨s= [104,101,97,100,115]∨s= [100,117,116,105,101,115]then 2 else 0
def Ql(seen:List (List Nat)):List Li→Int
 | []=>0
 |u::l=>if og u.nm=false then 1 else if u.nm∈seen then 7 else if Zg u.me=0 then 6 else if re u.mo 0 599999=false∨re u.da 1 31=false then 5 else Ql (seen++ [u.nm]) l
def Th(seen:List (List Nat)):List Of→Int
 | []=>0
 |u::l=>if og u.nm=false then 1 else if u.nm∈seen then 7 else if re u.da 1 31=false∨re u.ct 1 u.da=false then 5 else Th (seen++ [u.nm]) l
def Zh(c:Ct):Int:=if Ql [] c.li≠0 then Ql [] c.li else Th (c.li.map Li.nm) c.fs
def pY(c:Ct):Bool:=re c.rp 0 1440&&(re c.rl 0 1440&&(re c.cn 0 1440&&(re c.st c.cn 1440&&(re c.ly 0 10080&&(re c.nf 0 1439&&(re c.nt 0 1439&&re c.gu 0 599999))))))
def qc(c:Ct):Bool:=decide (c.cs.length≤32)&&(decide (c.ru.length≤40)&&(decide (c.co.length≤16)&&(decide (c.cr.length≤1)&&(decide (c.li.length≤16)&&decide (c.fs.length≤16)))))
def mW(c:Ct):Int:=if pY c=false then 5 else if qc c=false then 10 else if L0 [] c.cs≠0 then L0 [] c.cs else if IP [] c.ru≠0 then IP [] c.ru else if KQ c.co≠0 then KQ c.co else if KR c.cr≠0 then KR c.cr else Zh c
theorem zi(n lo hi:Int):be pE 137 [.i .i64 n,.i .i64 lo,.i .i64 hi] []=some (.b (re n lo hi),[]):=by
 rw[il aeh (by simp[TQ])]
 unfold re
 by_cases h:lo≤n <;> simp only[qA,seval,TQ,h]
theorem G5(n:Int):be pE 140 [.i .i64 n] []=some (.b (re n 1 3),[]):=by
 rw[il aek (by simp[TT])]
 simp only[qA,seval,TT,zi,JK]
theorem tb{α:Type}[DecidableEq α](s:α): ∀l:List α,iJ (l.map fun x=>(x,true)) s=if s∈l then some true else none
 | []=>by simp[iJ]
 |a::l=>by
  rw[List.map_cons,iJ,tb s l]
  grind
theorem IB(seen:List (List Nat))(s:List Nat):nz (.one .str) ((seen.map fun x=>(x,true)).map fun p=>sK p.1) ((seen.map fun x=>(x,true)).map fun p=>T.b p.2) (.s s) (.b false) false=some (.b (decide (s∈seen))):=by
 have:=O0 (kT:=sK) (vT:=T.b) FD (fun _=>rfl) (seen.map fun x=>(x,true)) s (.b false)
 rw[show(T.s s)=sK s from rfl,this,tb]
 grind
theorem ET(seen:List (List Nat))(s:List Nat)(h:s∉seen):qE (.one .str) (.s s) (.b true) ((seen.map fun x=>(x,true)).map fun p=>sK p.1) ((seen.map fun x=>(x,true)).map fun p=>T.b p.2)=some (((seen++ [s]).map fun x=>(x,true)).map (fun p=>sK p.1),((seen++ [s]).map fun x=>(x,true)).map (fun p=>T.b p.2)):=by
 have:=y9 (kT:=sK) (vT:=T.b) FD (seen.map fun x=>(x,true)) s true (by rw[tb,if_neg h])
 rw[show(T.s s)=sK s from rfl,show T.b true=T.b (true)from rfl,this]
 grind
theorem aBU(l:Cs)(a:T)(O:List T)(Z:IsSl a l.length O)(hc:mf l O)(hlen:l.length≤qz)(v9:smC l)(g:Nat)(fr:Fr)(lh:iw b8)(sh:List b8)
  (U:an fr 3= .mp .L 7 g) (V:an fr 8=a) (I:an fr 9= .i .i64 (l.length:Int)) (J:an fr 10= .i .i64 0) (D:b7 lh 7=⟨g,.map [] [] false⟩):
  xl pE 32 vq fr lh sh 0 2 (L0 [] l) (fun F K=>K=sh):=by
 refine kj Qx (fun k f F K=>an f 10= .i .i64 (k:Int)∧b7 F 7=⟨g,.map ((((l.take k).map Prod.fst).map fun x=>(x,true)).map fun p=>sK p.1) ((((l.take k).map Prod.fst).map fun x=>(x,true)).map fun p=>T.b p.2) false⟩∧K=sh∧L0 [] l=L0 ((l.take k).map Prod.fst) (l.drop k)) l.length ⟨J,D,rfl,rfl⟩ ?_ ?_
 ·rintro k f F _ hk r ⟨H,D,rfl,hr⟩
  rw[List.drop_eq_getElem_cons hk,L0]at hr
  have W:(k:Int)<l.length:=by omega
  have hw:=ji (k:=k) (by omega)
  obtain⟨b,cb,rr,X,mZ,sg,hb⟩:=ot Z hc k hk
  obtain⟨FJ,N⟩:=v9 l[k] (List.getElem_mem hk)
  have FQ:=kq (sO l[k].1)
  have NX:=fun z fr lh sh=>sX (z:=z) (fr:=fr) (lh:=lh) (sh:=sh) l[k].2 _ hb FJ N
  have Y:=IB ((l.take k).map Prod.fst) l[k].1
  have n6:=ET ((l.take k).map Prod.fst) l[k].1
  have qv:(l.take (k+1)).map Prod.fst=(l.take k).map Prod.fst++ [l[k].1]:=by rw[List.take_succ_eq_append_getElem hk,List.map_append];rfl
  by_cases hs:l[k].1∈(l.take k).map Prod.fst
  ·simp only[qB,seval,gd,vq,r,U,V,I,H,D,W,X,FQ,yn,jF,Y,hs]
   clear r
   grind
  ·simp only[qB,seval,gd,vq,r,U,V,I,H,D,W,X,hw,FQ,yn,jF,Y,hs,tE,BB,n6 hs,NX,qv]
   clear r
   grind
 ·rintro f F _ r ⟨H,D,rfl,hr⟩
  simp only[qB,seval,gd,vq,r,I,H,Int.lt_irrefl,hr,List.drop_length,L0]
theorem ak7(l:Cs)(a:T)(r:List T)(D:IsSl a l.length r)(hc:mf l r)(hlen:l.length≤qz)(v9:smC l):be pE 138 [a] []=some (.i .i64 (L0 [] l),[]):=by
 have F:=aBU l a r D hc hlen v9 1
 rw[il aei (by simp[TR])]
 simp only[qB,seval,TR,D.lenI,F]
 grind
def rK(p:Int×List Nat):T:= .agg [.i .i64 p.1,.s p.2]
theorem auW(a b:Int×List Nat):vz (.flat [.int,.str]) (rK a) (rK b)=some (decide (a=b)):=by
 unfold rK
 rw[aim]
 congr 1
 by_cases i:a.1=b.1 <;> by_cases r:a.2=b.2 <;> simp[i,r,Prod.ext_iff]
theorem Zi(seen:List (Int×List Nat))(s:Int×List Nat):nz (.flat [.int,.str]) ((seen.map fun x=>(x,true)).map fun p=>rK p.1) ((seen.map fun x=>(x,true)).map fun p=>T.b p.2) (.agg [.i .i64 s.1,.s s.2]) (.b false) false=some (.b (decide (s∈seen))):=by
 have:=O0 (kT:=rK) (vT:=T.b) auW (fun _=>We) (seen.map fun x=>(x,true)) s (.b false)
 rw[show T.agg [.i .i64 s.1,.s s.2]=rK s from rfl,this,tb]
 by_cases h:s∈seen <;> simp[h]
theorem SR(seen:List (Int×List Nat))(s:Int×List Nat)(h:s∉seen):qE (.flat [.int,.str]) (.agg [.i .i64 s.1,.s s.2]) (.b true) ((seen.map fun x=>(x,true)).map fun p=>rK p.1) ((seen.map fun x=>(x,true)).map fun p=>T.b p.2)=some (((seen++ [s]).map fun x=>(x,true)).map (fun p=>rK p.1),((seen++ [s]).map fun x=>(x,true)).map (fun p=>T.b p.2)):=by
 have:=y9 (kT:=rK) (vT:=T.b) auW (seen.map fun x=>(x,true)) s true (by rw[tb,if_neg h])
 rw[show T.agg [.i .i64 s.1,.s s.2]=rK s from rfl,this]
 simp only[List.map_append,List.map_cons,List.map_nil]
def Xf(x:Ex):Prop:=0≤x.nodes∧x.sm
def IX(u:Ru):Int×List Nat:=(u.sc,u.nm)
theorem aBV(l:List Ru)(a:T)(O:List T)(ha:IsSl a l.length O)(hc:iA S2 l O)(hlen:l.length≤qz)(v9: ∀u∈l,Xf u.x)(g:Nat)(fr:Fr)(lh:iw b8)(sh:List b8)
  (U:an fr 3= .mp .L 8 g) (V:an fr 9=a) (r:an fr 10= .i .i64 (l.length:Int)) (J:an fr 11= .i .i64 0) (F:b7 lh 8=⟨g,.map [] [] false⟩):
  xl pE 42 vt fr lh sh 0 2 (IP [] l) (fun H K=>K=sh):=by
 refine kj Qy (fun k f H K=>an f 11= .i .i64 (k:Int)∧b7 H 8=⟨g,.map ((((l.take k).map IX).map fun x=>(x,true)).map fun p=>rK p.1) ((((l.take k).map IX).map fun x=>(x,true)).map fun p=>T.b p.2) false⟩∧K=sh∧IP [] l=IP ((l.take k).map IX) (l.drop k)) l.length ⟨J,F,rfl,rfl⟩ ?_ ?_
 ·rintro k f H _ hk D ⟨I,F,rfl,hr⟩
  rw[List.drop_eq_getElem_cons hk,IP]at hr
  have W:(k:Int)<l.length:=by omega
  have hw:=ji (k:=k) (by omega)
  obtain⟨b,cb,rr,X,mZ,hb⟩:=LJ ha hc k hk
  obtain⟨FJ,N⟩:=v9 l[k] (List.getElem_mem hk)
  have Y:=kq (G5 l[k].sc)
  have FQ:=kq (sO l[k].nm)
  have NX:=fun z fr lh sh=>sX (z:=z) (fr:=fr) (lh:=lh) (sh:=sh) l[k].x _ hb FJ N
  have Z:=Zi ((l.take k).map IX) (l[k].sc,l[k].nm)
  have n6:=SR ((l.take k).map IX) (l[k].sc,l[k].nm)
  have qv:(l.take (k+1)).map IX=(l.take k).map IX++ [(l[k].sc,l[k].nm)]:=by rw[List.take_succ_eq_append_getElem hk,List.map_append];rfl
  by_cases hs:(l[k].sc,l[k].nm)∈(l.take k).map IX
  ·simp only[qB,seval,gd,vt,D,U,V,r,I,F,W,X,Y,Ut,FQ,yn,jF,Z,hs]
   clear D
   grind
  ·simp only[qB,seval,gd,vt,D,U,V,r,I,F,W,X,hw,Y,Ut,FQ,yn,jF,Z,hs,tE,We,n6 hs,NX,qv]
   clear D
   grind
 ·rintro f H _ D ⟨I,F,rfl,hr⟩
  simp only[qB,seval,gd,vt,D,r,I,Int.lt_irrefl,hr,List.drop_length,IP]
theorem ak8(l:List Ru)(a:T)(r:List T)(D:IsSl a l.length r)(hc:iA S2 l r)(hlen:l.length≤qz)(v9: ∀u∈l,Xf u.x):be pE 139 [a] []=some (.i .i64 (IP [] l),[]):=by
 have F:=aBV l a r D hc hlen v9 1
 rw[il aej (by simp[TS])]
 simp only[qB,seval,TS,D.lenI,F]
 grind
def G6:List (List Nat):= [[98,108,111,99,107],[115,112,97,110],[110,105,103,104,116],[99,114,101,100,105,116],[108,101,103,115],[104,101,97,100,115],[100,117,116,105,101,115]]
theorem Zj(s:List Nat):be pE 182 [.s s] []=some (.i .i64 (Zg s),[]):=by
 by_cases h:s∈G6
 ·simp only[G6,List.mem_cons,List.not_mem_nil,or_false]at h
  rcases h with rfl|rfl|rfl|rfl|rfl|rfl|rfl <;> exact mS (m:=20) (mP (by kernel_rfl))
 ·simp only[G6,List.mem_cons,List.not_mem_nil,or_false,not_or]at h
  obtain⟨r,D,F,H,I,J,K⟩:=h
  rw[il aeM (by simp[T3])]
  unfold Zg
  simp only[qA,seval,T3,r,D,F,H,I,J,K,or_self]
theorem Zk(s:List Nat): ∃n:Int,(n=0↔Zg s=0)∧be pE 128 [.s s] []=some (.i .i64 n,[]):=by
 by_cases h:s∈G6
 ·simp only[G6,List.mem_cons,List.not_mem_nil,or_false]at h
  rcases h with rfl|rfl|rfl|rfl|rfl|rfl|rfl
  iterate 4 exact⟨2,by decide,mS (m:=20) (mP (by kernel_rfl))⟩
  iterate 3 exact⟨1,by decide,mS (m:=20) (mP (by kernel_rfl))⟩
 ·simp only[G6,List.mem_cons,List.not_mem_nil,or_false,not_or]at h
  obtain⟨r,D,F,H,I,J,K⟩:=h
  refine⟨0, ?_, ?_⟩
  ·unfold Zg;simp[r,D,F,H,I,J,K]
  ·rw[il ad8 (by simp[TK])]
   simp only[qA,seval,TK,r,D,F,H,I,J,K]
def ug(g:Nat)(seen:List (List Nat)):b8:=⟨g,.map ((seen.map fun x=>(x,true)).map fun p=>sK p.1) ((seen.map fun x=>(x,true)).map fun p=>T.b p.2) false⟩
theorem LK(g:Nat)(seen:List (List Nat))(s:List Nat):lkE (ug g seen) g (.one .str) (.s s) (.b false) false=some (.b (decide (s∈seen))):=by
 unfold ug;rw[jF,if_pos rfl,IB]
theorem LL{lh:iw b8}{kk:Nat}(g:Nat)(seen:List (List Nat))(s:List Nat)(h:s∉seen):muE lh kk (ug g seen) g (.one .str) (.s s) (.b true)=some (nG lh kk (ug g (seen++ [s]))):=by
 unfold ug;rw[tE,if_pos ⟨rfl,rfl⟩,ET seen s h];rfl
theorem aBW(l:List Li)(a:T)(Y:List T)(ha:IsSl a l.length Y)(hc:iA LiR l Y)(hlen:l.length≤qz)(g:Nat)(O:b8)(fr:Fr)(lh:iw b8)(sh:List b8)
  (Z:an fr 3= .mp .L 8 g) (K:an fr 10=a) (r:an fr 11= .i .i64 (l.length:Int)) (U:an fr 12= .i .i64 0) (D:b7 lh 8=ug g []) (I:b7 lh 1=O):
  xl pE 80 vv fr lh sh 0 2 (Ql [] l) (fun F V=>(Ql [] l=0→b7 F 8=ug g (l.map Li.nm))∧b7 F 1=O∧V=sh):=by
 refine kj F1 (fun k f F V=>an f 12= .i .i64 (k:Int)∧b7 F 8=ug g ((l.take k).map Li.nm)∧b7 F 1=O∧V=sh∧Ql [] l=Ql ((l.take k).map Li.nm) (l.drop k)) l.length ⟨U,D,I,rfl,rfl⟩ ?_ ?_
 ·rintro k f F _ hk J ⟨N,D,I,rfl,hr⟩
  rw[List.drop_eq_getElem_cons hk,Ql]at hr
  have iW:(k:Int)<l.length:=by omega
  have hw:=ji (k:=k) (by omega)
  obtain⟨rr,je⟩:=Qk ha hc k hk
  have FQ:=kq (sO l[k].nm)
  have W:=Zj l[k].me
  have X:=fun n lo hi=>kq (zi n lo hi)
  have mb:=LK g ((l.take k).map Li.nm) l[k].nm
  have H:=fun lh kk=>LL (lh:=lh) (kk:=kk) g ((l.take k).map Li.nm) l[k].nm
  have qv:(l.take (k+1)).map Li.nm=(l.take k).map Li.nm++ [l[k].nm]:=by rw[List.take_succ_eq_append_getElem hk,List.map_append];rfl
  by_cases hs:l[k].nm∈(l.take k).map Li.nm
  ·simp only[qB,seval,gd,vv,J,Z,K,r,N,D,I,iW,je,FQ,yn,mb,hs]
   clear J X H
   grind
  ·simp only[qB,seval,gd,vv,J,Z,K,r,N,D,I,iW,je,hw,FQ,yn,mb,hs,fun lh kk=>H lh kk hs,W,aqC,X,JK,qv]
   clear J X H
   grind (splits:=30)
 ·rintro f F _ J ⟨N,D,I,rfl,hr⟩
  rw[List.take_length]at D
  simp only[qB,seval,gd,vv,J,r,N,D,I,Int.lt_irrefl,hr,List.drop_length,Ql]
  exact fun _=>trivial
theorem aBY(l:List Of)(r:List (List Nat))(a:T)(V:List T)(ha:IsSl a l.length V)(hc:iA OfR l V)(hlen:l.length≤qz)(g:Nat)(fr:Fr)(lh:iw b8)(sh:List b8)
  (W:an fr 3= .mp .L 8 g) (H7:an fr 47=a) (D:an fr 48= .i .i64 (l.length:Int)) (N:an fr 49= .i .i64 0) (I:b7 lh 8=ug g r):
  xl pE 80 vu fr lh sh 3 2 (Th r l) (fun J O=>O=sh):=by
 refine kj QA (fun k f J O=>an f 49= .i .i64 (k:Int)∧b7 J 8=ug g (r++(l.take k).map Of.nm)∧O=sh∧Th r l=Th (r++(l.take k).map Of.nm) (l.drop k)) l.length ⟨N,by simpa using I,rfl,by simp⟩ ?_ ?_
 ·rintro k f J _ hk H ⟨K,I,rfl,hr⟩
  rw[List.drop_eq_getElem_cons hk,Th]at hr
  have X:(k:Int)<l.length:=by omega
  have hw:=ji (k:=k) (by omega)
  obtain⟨rr,Y⟩:=Zf ha hc k hk
  have FQ:=kq (sO l[k].nm)
  have U:=fun n lo hi=>kq (zi n lo hi)
  have Z:=LK g (r++(l.take k).map Of.nm) l[k].nm
  have F:=fun lh kk=>LL (lh:=lh) (kk:=kk) g (r++(l.take k).map Of.nm) l[k].nm
  have qv:r++(l.take (k+1)).map Of.nm=(r++(l.take k).map Of.nm)++ [l[k].nm]:=by rw[List.take_succ_eq_append_getElem hk,List.map_append,List.append_assoc];rfl
  by_cases hs:l[k].nm∈r++(l.take k).map Of.nm
  ·simp only[qB,seval,gd,vu,H,W,H7,D,K,I,X,Y,FQ,yn,Z,hs]
   clear H U F
   grind
  ·simp only[qB,seval,gd,vu,H,W,H7,D,K,I,X,Y,hw,FQ,yn,Z,hs,fun lh kk=>F lh kk hs,U,JK,qv]
   clear H U F
   grind
 ·rintro f J _ H ⟨K,I,rfl,hr⟩
  simp only[qB,seval,gd,vu,H,D,K,Int.lt_irrefl,hr,List.drop_length,Th]
structure um (c:Ct) (a7 a8 a9 iq iy iv:T):Prop where
 h7: ∃cc,IsSl a7 c.cs.length cc∧mf c.cs cc
 h8: ∃cc,IsSl a8 c.ru.length cc∧iA S2 c.ru cc
 h9: ∃cc,IsSl a9 c.co.length cc∧iA ZJ c.co cc
 h10: ∃cc,IsSl iq c.cr.length cc∧ku c.cr cc
 h11: ∃cc,IsSl iy c.li.length cc∧iA LiR c.li cc
 h12: ∃cc,IsSl iv c.fs.length cc∧iA OfR c.fs cc
structure AP (c:Ct):Prop where
 s7:smC c.cs∧c.cs.length≤qz
 s8:(∀u∈c.ru,Xf u.x)∧c.ru.length≤qz
 s9:(∀u∈c.co,Xf u.x)∧c.co.length≤qz
 s10:(∀x∈c.cr,Xf x)∧c.cr.length≤qz
 s11:c.li.length≤qz
 s12:c.fs.length≤qz
section
variable(c:Ct)(a7 a8 a9 iq iy iv:T)(hT:um c a7 a8 a9 iq iy iv)(hS:AP c)
def jz:List T:= [.i .i64 c.rp,.i .i64 c.rl,.i .i64 c.cn,.i .i64 c.st,.i .i64 c.ly,.i .i64 c.nf,.i .i64 c.nt,a7,a8,a9,iq,iy,iv,.i .i64 c.gu]
include hT hS
theorem ala:be pE 142 [.agg (jz c a7 a8 a9 iq iy iv)] []=some (.i .i64 (Zh c),[]):=by
 obtain⟨S4,r,RU⟩:=hT.h11
 obtain⟨ZK,D,WY⟩:=hT.h12
 rw[il aem (by simp[TU])]
 have F:=fun fr lh sh x1 x2 x3 x4 x5 x6=>lpO (aBW c.li iy S4 r RU hS.s11 1 ⟨1,.cells (jz c a7 a8 a9 iq iy iv) 0 true⟩ fr lh sh x1 x2 x3 x4 x5 x6) (by simp[ug])
 have H:=aBY c.fs (c.li.map Li.nm) iv ZK D WY hS.s12 1
 unfold jz at F ⊢
 unfold Zh
 have I:ug 1 []=⟨1,.map [] [] false⟩:=rfl
 simp(maxDischargeDepth:=6) only[qB,seval,TU,F1,r.lenI,D.lenI,I,F,H]
 grind
end
theorem aBZ(l:List Co)(a:T)(V:List T)(W:IsSl a l.length V)(hc:iA ZJ l V)(hlen:l.length≤qz)(v9: ∀u∈l,Xf u.x)(I:b8)(fr:Fr)(lh:iw b8)(sh:List b8)
  (J:an fr 84=a) (r:an fr 85= .i .i64 (l.length:Int)) (K:an fr 86= .i .i64 0) (D:b7 lh 1=I):
  xl pE 116 C7 fr lh sh 1 2 (KQ l) (fun F N=>b7 F 1=I∧N=sh):=by
 refine kj Jz (fun k f F N=>an f 86= .i .i64 (k:Int)∧b7 F 1=I∧N=sh∧KQ l=KQ (l.drop k)) l.length ⟨K,D,rfl,rfl⟩ ?_ ?_
 ·rintro k f F _ hk H ⟨O,D,rfl,hr⟩
  rw[List.drop_eq_getElem_cons hk,KQ]at hr
  have X:(k:Int)<l.length:=by omega
  have Y:=ji (k:=k) (by omega)
  obtain⟨b,cb,rr,Z,mZ,hb⟩:=Qj W hc k hk
  obtain⟨FJ,U⟩:=v9 l[k] (List.getElem_mem hk)
  have m9:=kq (G5 l[k].sc)
  have NX:=fun z fr lh sh=>sX (z:=z) (fr:=fr) (lh:=lh) (sh:=sh) l[k].x _ hb FJ U
  simp only[qB,seval,gd,C7,H,J,r,O,D,X,Z,Y,m9,Ut,NX]
  clear H
  grind
 ·rintro f F _ H ⟨O,D,rfl,hr⟩
  simp only[qB,seval,gd,C7,H,r,O,D,Int.lt_irrefl,hr,List.drop_length,KQ]
theorem aB0(l:List Ex)(a:T)(V:List T)(W:IsSl a l.length V)(hc:ku l V)(hlen:l.length≤qz)(v9: ∀x∈l,Xf x)(I:b8)(fr:Fr)(lh:iw b8)(sh:List b8)
  (J:an fr 102=a) (r:an fr 103= .i .i64 (l.length:Int)) (K:an fr 104= .i .i64 0) (D:b7 lh 1=I):
  xl pE 116 C6 fr lh sh 3 2 (KR l) (fun F N=>b7 F 1=I∧N=sh):=by
 refine kj Jy (fun k f F N=>an f 104= .i .i64 (k:Int)∧b7 F 1=I∧N=sh∧KR l=KR (l.drop k)) l.length ⟨K,D,rfl,rfl⟩ ?_ ?_
 ·rintro k f F _ hk H ⟨O,D,rfl,hr⟩
  rw[List.drop_eq_getElem_cons hk,KR]at hr
  have X:(k:Int)<l.length:=by omega
  have Y:=ji (k:=k) (by omega)
  obtain⟨b,cb,rr,Z,mZ,sg,hb⟩:=rY W hc k hk
  obtain⟨FJ,U⟩:=v9 l[k] (List.getElem_mem hk)
  have NX:=fun z fr lh sh=>sX (z:=z) (fr:=fr) (lh:=lh) (sh:=sh) l[k] _ hb FJ U
  simp only[qB,seval,gd,C6,H,J,r,O,D,X,Z,Y,NX]
  clear H
  grind
 ·rintro f F _ H ⟨O,D,rfl,hr⟩
  simp only[qB,seval,gd,C6,H,r,O,D,Int.lt_irrefl,hr,List.drop_length,KR]
section
variable(c:Ct)(a7 a8 a9 iq iy iv:T)(hT:um c a7 a8 a9 iq iy iv)(hS:AP c)
include hT hS
theorem Zl:be pE 88 [.agg (jz c a7 a8 a9 iq iy iv)] []=some (.i .i64 (mW c),[]):=by
 have hv:=ala c a7 a8 a9 iq iy iv hT hS
 obtain⟨⟨c7,H,V⟩,⟨c8,I,W⟩,⟨X,J,Y⟩,⟨FV,r,O2⟩,⟨S4,D,RU⟩,⟨ZK,F,WY⟩⟩:=hT
 have O:=ak7 c.cs a7 c7 H V hS.s7.2 hS.s7.1
 have U:=ak8 c.ru a8 c8 I W hS.s8.2 hS.s8.1
 have K:=aBZ c.co a9 X J Y hS.s9.2 hS.s9.1 ⟨1,.cells (jz c a7 a8 a9 iq iy iv) 0 true⟩
 have N:=aB0 c.cr iq FV r O2 hS.s10.2 hS.s10.1 ⟨1,.cells (jz c a7 a8 a9 iq iy iv) 0 true⟩
 have w:=fun n lo hi=>kq (zi n lo hi)
 unfold jz at K N hv ⊢
 rw[il ag1 (by simp[c88])]
 unfold mW pY qc
 simp(maxDischargeDepth:=6) only[qB,seval,c88,Jy,Jz,H.froz,I.froz,H.lenI,I.lenI,J.lenI,r.lenI,D.lenI,F.lenI,H.froz1,I.froz1,J.froz1,r.froz1,D.froz1,F.froz1,w,JK,O,U,aqq,aqr,K,N,hv,aqt]
 clear O U K N hv w hS
 grind (splits:=40)
end
theorem tX(n lo hi:Int):be pE 129 [.i .i64 n,.i .i64 lo,.i .i64 hi] []=some (.b (re n lo hi),[]):=by
 rw[il ad9 (by simp[TL])]
 unfold re
 by_cases h:lo≤n <;> simp only[qA,seval,TL,h]
theorem aB3(l:List Li)(a:T)(I:List T)(J:IsSl a l.length I)(hc:iA LiR l I)(hlen:l.length≤qz)(n:Nat)(Z:n≤l.length)(s:List Nat)(c:Ct)(a7 a8 a9 iq iv:T)(K:List T)(G4:Nat)(fr:Fr)(lh:iw b8)(sh:List b8)(N:an fr 1= .ptr .L 1 1 0)(g3:an fr 3= .i .i64 (n:Int))(O:an fr 4= .ptr .L 4 G4 0)(U:an fr 5= .i .i64 0)(V:b7 lh 1=⟨1,.cells (jz c a7 a8 a9 iq a iv) 0 true⟩)(W:b7 lh 4=⟨G4,.cells (.s s::K) 0 true⟩):
  xl pE 112 xZ fr lh sh 2 2 (if s∈(l.map Li.nm).take n then 7 else 0) (fun D F=>D=lh∧F=sh):=by
 refine kj FZ (fun j f D F=>an f 5= .i .i64 (j:Int)∧D=lh∧F=sh∧s∉(l.map Li.nm).take j) n ⟨U,rfl,rfl,by simp⟩ ?_ ?_
 ·rintro j f _ _ hj r ⟨H,rfl,rfl,hr⟩
  obtain⟨rr,X⟩:=Qk J hc j (by omega)
  have Y:=ji (k:=j) (by omega)
  have ZX:(j:Int)<n:=by omega
  simp only[qB,seval,gd,xZ,r,N,g3,O,H,ZX,X,Y,V,W,jz]
  clear r
  grind [List.mem_take_iff_getElem]
 ·rintro f _ _ r ⟨H,rfl,rfl,hr⟩
  simp only[qB,seval,gd,xZ,r,g3,H,Int.lt_irrefl,hr]
theorem aB4(l:List Li)(a:T)(J:List T)(D:IsSl a l.length J)(hc:iA LiR l J)(hlen:l.length≤qz)(s:List Nat)(c:Ct)(a7 a8 a9 iq iv:T)(O:List T)(G7:Nat)(fr:Fr)(lh:iw b8)(sh:List b8)(K:an fr 1= .ptr .L 1 1 0)(U:an fr 7= .ptr .L 7 G7 0)(V:an fr 8= .i .i64 0)(N:b7 lh 1=⟨1,.cells (jz c a7 a8 a9 iq a iv) 0 true⟩)(W:b7 lh 7=⟨G7,.cells (.s s::O) 0 true⟩):
  xl pE 112 xX fr lh sh 6 2 (if s∈l.map Li.nm then 7 else 0) (fun F H=>F=lh∧H=sh):=by
 refine kj FY (fun j f F H=>an f 8= .i .i64 (j:Int)∧F=lh∧H=sh∧s∉(l.map Li.nm).take j) l.length ⟨V,rfl,rfl,by simp⟩ ?_ ?_
 ·rintro j f _ _ X r ⟨I,rfl,rfl,hr⟩
  obtain⟨rr,Y⟩:=Qk D hc j X
  have Z:=ji (k:=j) (by omega)
  have ZX:(j:Int)<l.length:=by omega
  simp only[qB,seval,gd,xX,r,K,U,I,D.lenI,ZX,Y,Z,N,W,jz]
  clear r
  grind [List.mem_take_iff_getElem]
 ·rintro f _ _ r ⟨I,rfl,rfl,hr⟩
  rw[List.take_of_length_le (by simp)]at hr
  simp only[qB,seval,gd,xX,r,K,I,D.lenI,N,jz,Int.lt_irrefl,hr]
theorem aB5(l:List Of)(a:T)(I:List T)(K:IsSl a l.length I)(hc:iA OfR l I)(hlen:l.length≤qz)(n:Nat)(hn:n≤l.length)(s:List Nat)(c:Ct)(a7 a8 a9 iq iy:T)(N:List T)(G7:Nat)(fr:Fr)(lh:iw b8)(sh:List b8)(O:an fr 1= .ptr .L 1 1 0)(J:an fr 6= .i .i64 (n:Int))(U:an fr 7= .ptr .L 7 G7 0)(V:an fr 9= .i .i64 0)(W:b7 lh 1=⟨1,.cells (jz c a7 a8 a9 iq iy a) 0 true⟩)(X:b7 lh 7=⟨G7,.cells (.s s::N) 0 true⟩):
  xl pE 112 xW fr lh sh 8 2 (if s∈(l.map Of.nm).take n then 7 else 0) (fun D F=>D=lh∧F=sh):=by
 refine kj FX (fun j f D F=>an f 9= .i .i64 (j:Int)∧D=lh∧F=sh∧s∉(l.map Of.nm).take j) n ⟨V,rfl,rfl,by simp⟩ ?_ ?_
 ·rintro j f _ _ hj r ⟨H,rfl,rfl,hr⟩
  obtain⟨rr,Y⟩:=Zf K hc j (by omega)
  have Z:=ji (k:=j) (by omega)
  have ZX:(j:Int)<n:=by omega
  simp only[qB,seval,gd,xW,r,O,J,U,H,ZX,Y,Z,W,X,jz]
  clear r
  grind [List.mem_take_iff_getElem]
 ·rintro f _ _ r ⟨H,rfl,rfl,hr⟩
  simp only[qB,seval,gd,xW,r,J,H,Int.lt_irrefl,hr]
end Go.Proofs.YtcpceiclnbmgiaaGreat
