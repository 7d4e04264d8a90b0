/- Walks of functions of the program and of the reference, and their plain laws, part 6. Conditions: the theorems' own. -/
import Derived.Test.YtcpceiclnbmgiaaGreatM5
import Derived.KernelRfl
set_option maxRecDepth 100000
set_option linter.unusedSimpArgs false
set_option linter.unusedVariables false
set_option maxHeartbeats 16000000
namespace Go.Proofs.YtcpceiclnbmgiaaGreat
open Go Go.Ev
section
variable(l:Cs)(lT:T)(R:List b8)(cl:List T)(hl:IsSl lT l.length cl)(lX:lS l cl)(hlen:l.length≤qh)
theorem Hl(n:Nat)(Jz:n≤l.length)(hc: ∀j,j<n→aui l lT R j)(scope:Int)(mF:scope=0∨scope=1∨scope=2∨scope=3)(x:Ex):auh l lT R n scope x:=by
 induction x using Ex.ind with
 |h x ih=>
  intro k kn cs O hx hn B5 ht
  obtain⟨a,cc,rfl,ha,Kb⟩:=hx.cells
  obtain⟨D,h2,mS,No,Ek,JA⟩:=Ch B5
  have hnd:=x.nodes_eq
  rw[gQ agk (by simp[IF]),rm]
  by_cases e1:x.op=1
  ·rw[if_pos (.inl e1)]
   simp only[qA,seval,IF,e1]
   exact⟨_,kn,rfl,n4.of (x:= .mk 1 x.num []) (Or.inl ⟨rfl,rfl,rfl⟩) iF.nil,O,fun _ _=>rfl⟩
  by_cases e2:x.op=2
  ·rw[if_pos (.inr (.inl e2))]
   simp only[qA,seval,IF,e2]
   exact⟨_,kn,rfl,n4.of (x:= .mk 1 x.num []) (Or.inl ⟨rfl,rfl,rfl⟩) iF.nil,O,fun _ _=>rfl⟩
  by_cases e3:x.op=3
  ·rw[if_pos (.inr (.inr e3))]
   simp only[qA,seval,IF,e3]
   exact⟨_,kn,rfl,n4.of (x:= .mk 1 x.num []) (Or.inl ⟨rfl,rfl,rfl⟩) iF.nil,O,fun _ _=>rfl⟩
  rw[if_neg (by omega)]
  by_cases e4:x.op=4
  ·rw[if_pos e4]
   simp only[qA,seval,IF,e4]
   exact⟨_,kn,rfl,n4.of (x:= .mk 1 1 []) (Or.inl ⟨rfl,rfl,rfl⟩) iF.nil,O,fun _ _=>rfl⟩
  rw[if_neg e4]
  by_cases e5:x.op=5
  ·rw[if_pos e5]
   simp only[qA,seval,IF,e5]
   exact⟨_,kn,rfl,n4.of (x:= .mk 1 0 []) (Or.inl ⟨rfl,rfl,rfl⟩) iF.nil,O,fun _ _=>rfl⟩
  rw[if_neg e5]
  by_cases N:x.op=6
  ·rw[if_pos N]
   rw[Ex.ty_eq,if_pos N]at ht
   have r:=lkS (kE (SE scope) (SE scope).length) x.name
   change _=some (SI (OU scope x.name))at r
   by_cases hz:lI scope x.name=0
   ·rw[if_neg (by simp[hz])]at ht
    have hp:=(uE scope x.name).2 hz
    rw[hp]at r ⊢
    obtain⟨i,qJ,mj,Sh,_,_,akO,_⟩:=Cj Jz ht
    obtain⟨U,gU,oe,pX⟩:=hc i mj x.name k kn Sh akO O
    simp only[SI]at r
    rcases mF with rfl|rfl|rfl|rfl
    ·change na _ ((kE [] 0).map _) ((kE [] 0).map _) _ _ _=_ at r
     simp only[qA,seval,kS,jO,IF,N,H5,aA1,ju,r,gU,ZH]
     exact⟨_,U,rfl,n4.of (x:= .mk 1 (pJ l x.name) []) (Or.inl ⟨rfl,rfl,rfl⟩) iF.nil,oe,fun i hi=>pX i (by omega)⟩
    ·change na _ ((kE jS 11).map _) ((kE jS 11).map _) _ _ _=_ at r
     simp only[qA,seval,kS,jO,IF,N,H5,aud,ju,r,gU,ZH]
     exact⟨_,U,rfl,n4.of (x:= .mk 1 (pJ l x.name) []) (Or.inl ⟨rfl,rfl,rfl⟩) iF.nil,oe,fun i hi=>pX i (by omega)⟩
    ·change na _ ((kE mb 25).map _) ((kE mb 25).map _) _ _ _=_ at r
     simp only[qA,seval,kS,jO,IF,N,H5,aue,ju,r,gU,ZH]
     exact⟨_,U,rfl,n4.of (x:= .mk 1 (pJ l x.name) []) (Or.inl ⟨rfl,rfl,rfl⟩) iF.nil,oe,fun i hi=>pX i (by omega)⟩
    ·change na _ ((kE qx 7).map _) ((kE qx 7).map _) _ _ _=_ at r
     simp only[qA,seval,kS,jO,IF,N,H5,auf,ju,r,gU,ZH]
     exact⟨_,U,rfl,n4.of (x:= .mk 1 (pJ l x.name) []) (Or.inl ⟨rfl,rfl,rfl⟩) iF.nil,oe,fun i hi=>pX i (by omega)⟩
   ·cases hp:OU scope x.name with
    |none=>exact absurd ((uE scope x.name).1 hp) hz
    |some i=>
     rw[hp]at r
     rw[show SI (some i)= .tup [.i .i64 (i:Int),.b true]from rfl]at r
     have hf:n4 (.mk 6 (i:Int) []) [.i .i64 6,.i .i64 (i:Int),.nilsl]:=n4.of (x:= .mk 6 (i:Int) []) (Or.inl ⟨rfl,rfl,rfl⟩) iF.nil
     rcases mF with rfl|rfl|rfl|rfl
     ·exact absurd (rk _) hz
     ·change na _ ((kE jS 11).map _) ((kE jS 11).map _) _ _ _=_ at r
      simp only[qA,seval,kS,IF,N,H5,aud,ju,r]
      exact⟨_,kn,rfl,hf,O,fun _ _=>rfl⟩
     ·change na _ ((kE mb 25).map _) ((kE mb 25).map _) _ _ _=_ at r
      simp only[qA,seval,kS,IF,N,H5,aue,ju,r]
      exact⟨_,kn,rfl,hf,O,fun _ _=>rfl⟩
     ·change na _ ((kE qx 7).map _) ((kE qx 7).map _) _ _ _=_ at r
      simp only[qA,seval,kS,IF,N,H5,auf,ju,r]
      exact⟨_,kn,rfl,hf,O,fun _ _=>rfl⟩
  ·rw[if_neg N]
   obtain⟨ts,yc,hr,hk⟩:=Cg ht N
   have LP:=lZ x.args
   have E3:x.args.length≤qh:=nY (by omega)
   have hmk:x.args.length*40≤roomy∧x.args.length≤roomy:=by unfold qh at E3;unfold roomy;omega
   have Ox:=fun fr lh sh F H D I Bw DZ BE J K Gy=>aA3 l lT R n scope x.args (fun y hy=>ih y hy) a cc ha Kb (by omega) JA ts yc kn O (.i .i64 x.op) 1 1 ⟨1,.cells [.i .i64 0,.i .i64 0,.nilsl] 0 true⟩ fr lh sh F H D I Bw DZ BE J K Gy
   have hL:=fun fr lh sh F H D I Bw DZ BE J K Gy=>And.intro (Ox fr lh sh F H D I Bw DZ BE J K Gy).1 (And.intro (Ox fr lh sh F H D I Bw DZ BE J K Gy).2.1 (And.intro (Ox fr lh sh F H D I Bw DZ BE J K Gy).2.2.1 (And.intro (V8 (Ox fr lh sh F H D I Bw DZ BE J K Gy).2.2.2.1).1 (afM (Ox fr lh sh F H D I Bw DZ BE J K Gy).2.2.2.2).1)))
   have hF:=fun fr lh sh F H D I Bw DZ BE J K Gy=>(V8 (Ox fr lh sh F H D I Bw DZ BE J K Gy).2.2.2.1).2
   have hM:=fun fr lh sh F H D I Bw DZ BE J K Gy=>(afM (Ox fr lh sh F H D I Bw DZ BE J K Gy).2.2.2.2).2
   have V:=fun fr lh sh F H D I Bw DZ BE J K Gy=>(hF fr lh sh F H D I Bw DZ BE J K Gy).len
   have lX:(lJ (pJ l) scope x.args).length=x.args.length:=by rw[qi];simp
   rw[lX]at V
   simp only[qA,seval,jq,qw,ig,lR,IF,SV,e1,e2,e3,e4,e5,N,ha.lenI,hmk,hL,V]
   generalize hX:V7 _ _=X
   generalize hMX:kL _ _ _ _ _ _=U
   have W:iF (lJ (pJ l) scope x.args) X:=by
    rw[←hX]
    refine hF _ _ _ rfl ?_ ?_ ?_ ?_ ?_ ?_ ?_ ?_ ?_ <;> simp only[qA,seval]
   have Y:od l U∧ ∀i,n≤i→iy U i=iy kn i:=by
    rw[←hMX]
    refine hM _ _ _ rfl ?_ ?_ ?_ ?_ ?_ ?_ ?_ ?_ ?_ <;> simp only[qA,seval]
   have Z:=W.len
   rw[lX]at Z
   rw[←Z,List.take_length]
   exact⟨_,U,rfl,n4.of (x:= .mk x.op 0 (lJ (pJ l) scope x.args)) (Or.inr ⟨false,by show T.sl X x.args.length false= .sl X (lJ (pJ l) scope x.args).length false;rw[lX]⟩) W,Y.1,Y.2⟩
end
theorem oL{x:Ex}(hv:jo x=0):x.nodes≤200∧x.depth≤16:=by
 unfold jo at hv
 by_cases h:big x
 ·rw[if_pos h]at hv;cases hv
 ·unfold big at h;omega
theorem YK{lh:gW b8}{sh:List b8}{keep:Bool}{k g wm:Nat}{cs:List T}{bx:Bool}(h:b7 lh k=⟨g,.cells cs wm bx⟩)(hc:cs.all froz1=true):fzV lh sh keep (.ptr .L k g 0)=some (.vp cs,[(.L,k,⟨g,.cells cs cs.length bx⟩)]):=by
 unfold fzV iq
 have hk:(keep&&Sp.L==Sp.S)=false:=by cases keep <;> rfl
 show Q.run _ _ (if(keep&&Sp.L==Sp.S)=true then _ else _)=_
 rw[hk]
 simp only[Bool.false_eq_true,if_false,Q.run]
 have i:(St.mk .nil lh sh).get .L k=⟨g,.cells cs wm bx⟩:=h
 rw[i]
 simp only[if_true,List.drop_zero]
 have:iL (fz false 7) cs= .ret (cs,[]):=by
  clear h i
  induction cs with
  |nil=>rfl
  |cons c cs ih=>
   rw[List.all_cons,Bool.and_eq_true]at hc
   simp only[iL,ph hc.1,ih hc.2,Q.bind,List.append_nil]
 rw[this]
 rfl
theorem const_comp{l:Cs}{s:List Nat}{t:Int}(h:Ls l s=(t,0)): ∃i,∃hi:i<l.length,oJ l s=some i∧jo l[i].2=0∧l[i].2.ty (CL l i) 0=(t,0)∧F8 [] (comp (pJ l) 0 l[i].2)∧(comp (pJ l) 0 l[i].2).val []=pJ l s∧pJ l s=(EB l l.length).getD i 0:=by
 obtain⟨i,hi,Sh,hv,J,r,Zc,K,_,N⟩:=K7 h
 have B5:=nZ hv
 have O:=(l[i].2).nodes_eq
 have Y:=oL hv
 have U:RD (Zg (Ls l) 0) (Ii (pJ l) 0 []):=by rw[at9,afL];exact Hv l
 obtain⟨V,F,H⟩:=OV U rfl l[i].2 t B5 (by omega) r
 rw[afL]at F H
 have W:=(PK (Hv l) 0 (fun s=>rk s) l[i].2 t B5 r).1
 have D:YD l 0 l[i].2=vI t (l[i].2.val0 (pJ l)):=W
 rw[Zc]at D
 have X:=(H3 (scope:=0) K).2.2
 have I:=(H3 (scope:=0) H).2.2
 rw[←D,X]at I
 exact⟨i,hi,Sh,hv,J,V,by rw[F,I],N⟩
section
variable(l:Cs)(lT:T)(R:List b8)(cl:List T)(hl:IsSl lT l.length cl)(lX:lS l cl)(hlen:l.length≤qh)
include hl lX
theorem Hm: ∀j,j<l.length→aui l lT R j:=by
 intro j
 induction j using Nat.strongRecOn with
 |ind j ih=>
  intro Y s t kn Sh O U
  obtain⟨j',Zn,H,hv,ht,tV,I,Z⟩:=const_comp O
  rw[Sh]at H
  cases H
  have D:=lkS (je l l.length) s
  rw[vv l s l.length (Nat.le_refl _),List.take_length,Sh]at D
  rw[show SI (some j)= .tup [.i .i64 (j:Int),.b true]from rfl]at D
  have F:na (.one .int) (kn.map fun p=>nK p.1) (kn.map fun p=>iV p.2) (.i .i64 (j:Int)) (.i .i64 0) true=_:=ahU (kT:=nK) (vT:=iV) acH (fun _=>rfl) kn j (.i .i64 0)
  rw[gQ apu (by simp[c94])]
  cases N:iy kn j with
  |some v=>
   have e:=U j v N
   rw[N]at F
   simp only[show iV v= .i .i64 v from rfl]at F
   rw[Z,←e]
   simp only[qA,seval,c94,H5,aub,auc,ju,D,F]
   exact⟨kn,rfl,U,fun _ _=>rfl⟩
  |none=>
   rw[N]at F
   simp only at F
   obtain⟨b,cb,r,iU,mP,sL,hb⟩:=n6 hl lX j Y
   obtain⟨cf,J,gU,zY,oe,pX⟩:=Hl l lT R j (Nat.le_of_lt Y) (fun i hi=>ih i hi (by omega)) 0 (.inl rfl) l[j].2 t kn _ U hb (oL hv).1 (nZ hv) ht
   obtain⟨V,fc,rfl,Bx,W⟩:=zY.cells
   have K:=Hx [] .nilsl (Or.inl ⟨rfl,rfl,rfl⟩) (comp (pJ l) 0 l[j].2) V fc [] Bx W tV
   rw[I]at K
   have xc:iy J j=none:=by rw[pX j (Nat.le_refl _),N]
   have nO:qj (.one .int) (.i .i64 (j:Int)) (.i .i64 (pJ l s)) (J.map fun p=>nK p.1) (J.map fun p=>iV p.2)=_:=yq (kT:=nK) (vT:=iV) acH J j (pJ l s) xc
   generalize comp (pJ l) 0 l[j].2=y at*
   have KS:([T.i .i64 y.op,T.i .i64 y.num,V]:List T).all froz1=true:=by simp[Bx.froz1,ym]
   have X:=fun lh sh keep (h:b7 lh 9=⟨1,.cells [.i .i64 y.op,.i .i64 y.num,V] 0 true⟩)=>YK (sh:=sh) (keep:=keep) h KS
   simp only[qA,seval,jO,c94,H5,aub,auc,ju,D,F,iU,mP.kept1,gU,qI,X,awH,K,aeX,nO,aug]
   refine⟨_,rfl, ?_, ?_⟩
   ·intro i v hi
    rw[qf]at hi
    cases Et:iy J i with
    |some u=>rw[Et]at hi;cases hi;exact oe i _ Et
    |none=>
     rw[Et]at hi
     simp only at hi
     split at hi
     ·rename_i e;subst e;cases hi;exact Z
     ·cases hi
   ·intro i hi
    rw[qf,pX i (by omega)]
    cases iy kn i with
    |some u=>rfl
    |none=>simp only;rw[if_neg (by omega)]
end
section
variable(l:Cs)(n:Nat)(Jz:n≤l.length)(lT vT:T)(cl:List T)(hl:IsSl lT n cl)(lX:lS (l.take n) cl)(hlen:l.length≤qh)(hv:IsSl vT n (ints (EB l n)))
include hl hv
include Jz lX hlen
end
section
variable(l:Cs)(lT:T)(cl:List T)(hl:IsSl lT l.length cl)(lX:lS l cl)(hlen:l.length≤qh)(vG:smC l)
include hl lX hlen vG
end
def hZ{α:Type}(R:α→List T→Prop):List α→List T→Prop
 | [],cs=>cs= []
 |x::xs,cs=> ∃c r,cs=c++r∧R x c∧hZ R xs r
section
variable{α:Type}{R:α→List T→Prop}{k:Nat}
theorem hZ.len(i: ∀x c,R x c→c.length=k): ∀{xs:List α} {cs:List T},hZ R xs cs→cs.length=xs.length*k
 | [],cs,h=>by grind [hZ]
 |x::xs,cs,h=>by
  rw[hZ]at h
  obtain⟨c,r,rfl,D,F⟩:=h
  rw[List.length_append,i _ _ D,hZ.len i F,List.length_cons,Nat.add_mul,Nat.one_mul,Nat.add_comm]
theorem hZ.drop(D: ∀x c,R x c→c.length=k): ∀{xs:List α} {cs:List T} (i:Nat) (hi:i<xs.length),hZ R xs cs→ ∃c r,cs.drop (i*k)=c++r∧R xs[i] c
 | [],cs,i,hi,h=>by simp at hi
 |x::xs,cs,0,hi,h=>by
  grind [hZ]
 |x::xs,cs,i+1,hi,h=>by
  rw[hZ]at h
  obtain⟨c,r,rfl,F,H⟩:=h
  obtain⟨I,J,e,K⟩:=hZ.drop D i (by simpa using hi) H
  refine⟨I,J, ?_,K⟩
  have:(i+1)*k=c.length+i*k:=by rw[D _ _ F,Nat.add_mul,Nat.one_mul,Nat.add_comm]
  grind [List.drop_append,Nat.add_sub_cancel_left,List.drop_eq_nil_of_le]
theorem oY(D: ∀x c,R x c→c.length=k){xs:List α}{a:T}{F:List T}(I:IsSl a xs.length F)(H:hZ R xs F)(i:Nat)(hi:i<xs.length): ∃c r,(∀kk,lH a (.i kk (i:Int)) k=some (.vp (c++r)))∧R xs[i] c:=by
 obtain⟨c,r,e,J⟩:=hZ.drop D i hi H
 exact⟨c,r,fun kk=>by rw[I.ia (sz:=k) (hZ.len D H) hi,e],J⟩
theorem hZ.append: ∀{xs i:List α} {c r:List T},hZ R xs c→hZ R i r→hZ R (xs++i) (c++r)
 | [],i,c,r,D,F=>by grind [hZ]
 |x::xs,i,c,r,D,F=>by
  rw[hZ]at D
  obtain⟨H,I,rfl,J,K⟩:=D
  rw[List.append_assoc]
  exact⟨H,I++r,rfl,J,hZ.append K F⟩
theorem hZ.one{x:α}{c:List T}(h:R x c):hZ R [x] c:=⟨c,[],by simp,h,rfl⟩
end
structure Ru where
 sc:Int
 nm:List Nat
 x:Ex
structure Co where
 sc:Int
 x:Ex
structure Li where
 nm:List Nat
 me:List Nat
 mo:Int
 da:Int
structure Of where
 nm:List Nat
 ct:Int
 da:Int
def Sv(u:Ru)(c:List T):Prop:= ∃a r,c= [.i .i64 u.sc,.s u.nm,.i .i64 u.x.op,.i .i64 u.x.num,.s u.x.name,a]∧IsSl a u.x.args.length r∧j3 u.x.args r
def Zd(u:Co)(c:List T):Prop:= ∃a r,c= [.i .i64 u.sc,.i .i64 u.x.op,.i .i64 u.x.num,.s u.x.name,a]∧IsSl a u.x.args.length r∧j3 u.x.args r
def LiR(u:Li)(c:List T):Prop:=c= [.s u.nm,.s u.me,.i .i64 u.mo,.i .i64 u.da]
def OfR(u:Of)(c:List T):Prop:=c= [.s u.nm,.i .i64 u.ct,.i .i64 u.da]
theorem Sv.len(u:Ru)(c:List T)(h:Sv u c):c.length=6:=by obtain⟨a,i,rfl,_⟩:=h;rfl
theorem Zd.len(u:Co)(c:List T)(h:Zd u c):c.length=5:=by obtain⟨a,i,rfl,_⟩:=h;rfl
theorem LiR.len(u:Li)(c:List T)(h:LiR u c):c.length=4:=by rw[h];rfl
theorem OfR.len(u:Of)(c:List T)(h:OfR u c):c.length=3:=by rw[h];rfl
theorem La{xs:List Ru}{a:T}{F:List T}(I:IsSl a xs.length F)(J:hZ Sv xs F)(i:Nat)(hi:i<xs.length):
  ∃b D r,(∀kk,lH a (.i kk (i:Int)) 6=some (.vp (.i .i64 xs[i].sc:: .s xs[i].nm:: .i .i64 xs[i].x.op:: .i .i64 xs[i].x.num:: .s xs[i].x.name::b::r)))∧IsSl b xs[i].x.args.length D∧mC xs[i].x [.i .i64 xs[i].x.op,.i .i64 xs[i].x.num,.s xs[i].x.name,b]:=by
 obtain⟨c,r,K,b,D,rfl,H,N⟩:=oY Sv.len I J i hi
 exact⟨b,D,r,K,H,mC.of H N⟩
theorem PN{xs:List Co}{a:T}{F:List T}(I:IsSl a xs.length F)(J:hZ Zd xs F)(i:Nat)(hi:i<xs.length):
  ∃b D r,(∀kk,lH a (.i kk (i:Int)) 5=some (.vp (.i .i64 xs[i].sc:: .i .i64 xs[i].x.op:: .i .i64 xs[i].x.num:: .s xs[i].x.name::b::r)))∧IsSl b xs[i].x.args.length D∧mC xs[i].x [.i .i64 xs[i].x.op,.i .i64 xs[i].x.num,.s xs[i].x.name,b]:=by
 obtain⟨c,r,K,b,D,rfl,H,N⟩:=oY Zd.len I J i hi
 exact⟨b,D,r,K,H,mC.of H N⟩
theorem PO{xs:List Li}{a:T}{D:List T}(H:IsSl a xs.length D)(I:hZ LiR xs D)(i:Nat)(hi:i<xs.length):
  ∃r,∀kk,lH a (.i kk (i:Int)) 4=some (.vp (.s xs[i].nm:: .s xs[i].me:: .i .i64 xs[i].mo:: .i .i64 xs[i].da::r)):=by
 obtain⟨c,r,F,J⟩:=oY LiR.len H I i hi
 rw[J]at F
 exact⟨r,F⟩
theorem YL{xs:List Of}{a:T}{D:List T}(H:IsSl a xs.length D)(I:hZ OfR xs D)(i:Nat)(hi:i<xs.length):
  ∃r,∀kk,lH a (.i kk (i:Int)) 3=some (.vp (.s xs[i].nm:: .i .i64 xs[i].ct:: .i .i64 xs[i].da::r)):=by
 obtain⟨c,r,F,J⟩:=oY OfR.len H I i hi
 rw[J]at F
 exact⟨r,F⟩
structure Ct where
 rp:Int
 rl:Int
 cn:Int
 st:Int
 ly:Int
 nf:Int
 nt:Int
 cs:Cs
 ru:List Ru
 co:List Co
 cr:List Ex
 li:List Li
 fs:List Of
 gu:Int
def qL(n lo hi:Int):Bool:=decide (lo≤n)&&decide (n≤hi)
def Lu(seen:List (List Nat)):Cs→Int
 | []=>0
 |c::l=>if nW c.1=false then 1 else if c.1∈seen then 7 else if jo c.2≠0 then jo c.2 else Lu (seen++ [c.1]) l
def Ih(seen:List (Int×List Nat)):List Ru→Int
 | []=>0
 |u::l=>if qL u.sc 1 3=false∨nW u.nm=false then 1 else if(u.sc,u.nm)∈seen then 7 else if jo u.x≠0 then jo u.x else Ih (seen++ [(u.sc,u.nm)]) l
def Kn:List Co→Int
 | []=>0
 |u::l=>if qL u.sc 1 3=false then 1 else if jo u.x≠0 then jo u.x else Kn l
def Ko:List Ex→Int
 | []=>0
 |x::l=>if jo x≠0 then jo x else Ko l
def YM(s:List Nat):Int:=if s= [98,108,111,99,107]∨s= [115,112,97,110]∨s= [110,105,103,104,116]∨s= [99,114,101,100,105,116]then 3 else if s= [108,101,103,115]∨s= [104,101,97,100,115]∨s= [100,117,116,105,101,115]then 2 else 0
def PQ(seen:List (List Nat)):List Li→Int
 | []=>0
 |u::l=>if nW u.nm=false then 1 else if u.nm∈seen then 7 else if YM u.me=0 then 6 else if qL u.mo 0 599999=false∨qL u.da 1 31=false then 5 else PQ (seen++ [u.nm]) l
def SL(seen:List (List Nat)):List Of→Int
 | []=>0
 |u::l=>if nW u.nm=false then 1 else if u.nm∈seen then 7 else if qL u.da 1 31=false∨qL u.ct 1 u.da=false then 5 else SL (seen++ [u.nm]) l
def YN(c:Ct):Int:=if PQ [] c.li≠0 then PQ [] c.li else SL (c.li.map Li.nm) c.fs
def pK(c:Ct):Bool:=qL c.rp 0 1440&&(qL c.rl 0 1440&&(qL c.cn 0 1440&&(qL c.st c.cn 1440&&(qL c.ly 0 10080&&(qL c.nf 0 1439&&(qL c.nt 0 1439&&qL c.gu 0 599999))))))
def pT(c:Ct):Bool:=decide (c.cs.length≤32)&&(decide (c.ru.length≤40)&&(decide (c.co.length≤16)&&(decide (c.cr.length≤1)&&(decide (c.li.length≤16)&&decide (c.fs.length≤16)))))
def mE(c:Ct):Int:=if pK c=false then 5 else if pT c=false then 10 else if Lu [] c.cs≠0 then Lu [] c.cs else if Ih [] c.ru≠0 then Ih [] c.ru else if Kn c.co≠0 then Kn c.co else if Ko c.cr≠0 then Ko c.cr else YN c
theorem yz(n lo hi:Int):be pE 137 [.i .i64 n,.i .i64 lo,.i .i64 hi] []=some (.b (qL n lo hi),[]):=by
 rw[gQ adF (by simp[Ti])]
 unfold qL
 by_cases h:lo≤n <;> simp only[qA,seval,Ti,h]
theorem Gz(n:Int):be pE 140 [.i .i64 n] []=some (.b (qL n 1 3),[]):=by
 rw[gQ adI (by simp[Tm])]
 simp only[qA,seval,Tm,yz,Jf]
theorem sI{α:Type}[DecidableEq α](s:α): ∀l:List α,iy (l.map fun x=>(x,true)) s=if s∈l then some true else none
 | []=>by simp[iy]
 |a::l=>by
  rw[List.map_cons,iy,sI s l]
  grind
theorem H6(seen:List (List Nat))(s:List Nat):na (.one .str) ((seen.map fun x=>(x,true)).map fun p=>sK p.1) ((seen.map fun x=>(x,true)).map fun p=>T.b p.2) (.s s) (.b false) false=some (.b (decide (s∈seen))):=by
 have:=Ou (kT:=sK) (vT:=T.b) E1 (fun _=>rfl) (seen.map fun x=>(x,true)) s (.b false)
 rw[show(T.s s)=sK s from rfl,this,sI]
 grind
theorem Em(seen:List (List Nat))(s:List Nat)(h:s∉seen):qj (.one .str) (.s s) (.b true) ((seen.map fun x=>(x,true)).map fun p=>sK p.1) ((seen.map fun x=>(x,true)).map fun p=>T.b p.2)=some (((seen++ [s]).map fun x=>(x,true)).map (fun p=>sK p.1),((seen++ [s]).map fun x=>(x,true)).map (fun p=>T.b p.2)):=by
 have:=yq (kT:=sK) (vT:=T.b) E1 (seen.map fun x=>(x,true)) s true (by rw[sI,if_neg h])
 rw[show(T.s s)=sK s from rfl,show T.b true=T.b (true)from rfl,this]
 grind
theorem aA4(l:Cs)(a:T)(O:List T)(Z:IsSl a l.length O)(hc:lS l O)(hlen:l.length≤qh)(vG:smC l)(g:Nat)(fr:Fr)(lh:gW b8)(sh:List b8)
  (U:an fr 3= .mp .L 7 g) (V:an fr 8=a) (I:an fr 9= .i .i64 (l.length:Int)) (J:an fr 10= .i .i64 0) (D:b7 lh 7=⟨g,.map [] [] false⟩):
  wH pE 32 uT fr lh sh 0 2 (Lu [] l) (fun F K=>K=sh):=by
 refine jY P4 (fun k f F K=>an f 10= .i .i64 (k:Int)∧b7 F 7=⟨g,.map ((((l.take k).map Prod.fst).map fun x=>(x,true)).map fun p=>sK p.1) ((((l.take k).map Prod.fst).map fun x=>(x,true)).map fun p=>T.b p.2) false⟩∧K=sh∧Lu [] l=Lu ((l.take k).map Prod.fst) (l.drop k)) l.length ⟨J,D,rfl,rfl⟩ ?_ ?_
 ·rintro k f F _ hk r ⟨H,D,rfl,hr⟩
  rw[List.drop_eq_getElem_cons hk,Lu]at hr
  have W:(k:Int)<l.length:=by omega
  have hw:=iT (k:=k) (by omega)
  obtain⟨b,cb,rr,X,mP,sL,hb⟩:=n6 Z hc k hk
  obtain⟨E6,N⟩:=vG l[k] (List.getElem_mem hk)
  have Fa:=j2 (sw l[k].1)
  have Nq:=fun z fr lh sh=>sE (z:=z) (fr:=fr) (lh:=lh) (sh:=sh) l[k].2 _ hb E6 N
  have Y:=H6 ((l.take k).map Prod.fst) l[k].1
  have nO:=Em ((l.take k).map Prod.fst) l[k].1
  have qc:(l.take (k+1)).map Prod.fst=(l.take k).map Prod.fst++ [l[k].1]:=by rw[List.take_succ_eq_append_getElem hk,List.map_append];rfl
  by_cases hs:l[k].1∈(l.take k).map Prod.fst
  ·simp only[qB,seval,gd,uT,r,U,V,I,H,D,W,X,Fa,xH,ju,Y,hs]
   clear r
   grind
  ·simp only[qB,seval,gd,uT,r,U,V,I,H,D,W,X,hw,Fa,xH,ju,Y,hs,th,Bd,nO hs,Nq,qc]
   clear r
   grind
 ·rintro f F _ r ⟨H,D,rfl,hr⟩
  simp only[qB,seval,gd,uT,r,I,H,Int.lt_irrefl,hr,List.drop_length,Lu]
theorem akQ(l:Cs)(a:T)(r:List T)(D:IsSl a l.length r)(hc:lS l r)(hlen:l.length≤qh)(vG:smC l):be pE 138 [a] []=some (.i .i64 (Lu [] l),[]):=by
 have F:=aA4 l a r D hc hlen vG 1
 rw[gQ adG (by simp[Tj])]
 simp only[qB,seval,Tj,D.lenI,F]
 grind
def rK(p:Int×List Nat):T:= .agg [.i .i64 p.1,.s p.2]
theorem auj(a b:Int×List Nat):vD (.flat [.int,.str]) (rK a) (rK b)=some (decide (a=b)):=by
 unfold rK
 rw[ahN]
 congr 1
 by_cases i:a.1=b.1 <;> by_cases r:a.2=b.2 <;> simp[i,r,Prod.ext_iff]
theorem YO(seen:List (Int×List Nat))(s:Int×List Nat):na (.flat [.int,.str]) ((seen.map fun x=>(x,true)).map fun p=>rK p.1) ((seen.map fun x=>(x,true)).map fun p=>T.b p.2) (.agg [.i .i64 s.1,.s s.2]) (.b false) false=some (.b (decide (s∈seen))):=by
 have:=Ou (kT:=rK) (vT:=T.b) auj (fun _=>VO) (seen.map fun x=>(x,true)) s (.b false)
 rw[show T.agg [.i .i64 s.1,.s s.2]=rK s from rfl,this,sI]
 by_cases h:s∈seen <;> simp[h]
theorem Si(seen:List (Int×List Nat))(s:Int×List Nat)(h:s∉seen):qj (.flat [.int,.str]) (.agg [.i .i64 s.1,.s s.2]) (.b true) ((seen.map fun x=>(x,true)).map fun p=>rK p.1) ((seen.map fun x=>(x,true)).map fun p=>T.b p.2)=some (((seen++ [s]).map fun x=>(x,true)).map (fun p=>rK p.1),((seen++ [s]).map fun x=>(x,true)).map (fun p=>T.b p.2)):=by
 have:=yq (kT:=rK) (vT:=T.b) auj (seen.map fun x=>(x,true)) s true (by rw[sI,if_neg h])
 rw[show T.agg [.i .i64 s.1,.s s.2]=rK s from rfl,this]
 simp only[List.map_append,List.map_cons,List.map_nil]
def WQ(x:Ex):Prop:=0≤x.nodes∧x.sm
def Iq(u:Ru):Int×List Nat:=(u.sc,u.nm)
theorem aA5(l:List Ru)(a:T)(O:List T)(ha:IsSl a l.length O)(hc:hZ Sv l O)(hlen:l.length≤qh)(vG: ∀u∈l,WQ u.x)(g:Nat)(fr:Fr)(lh:gW b8)(sh:List b8)
  (U:an fr 3= .mp .L 8 g) (V:an fr 9=a) (r:an fr 10= .i .i64 (l.length:Int)) (J:an fr 11= .i .i64 0) (F:b7 lh 8=⟨g,.map [] [] false⟩):
  wH pE 42 uU fr lh sh 0 2 (Ih [] l) (fun H K=>K=sh):=by
 refine jY P5 (fun k f H K=>an f 11= .i .i64 (k:Int)∧b7 H 8=⟨g,.map ((((l.take k).map Iq).map fun x=>(x,true)).map fun p=>rK p.1) ((((l.take k).map Iq).map fun x=>(x,true)).map fun p=>T.b p.2) false⟩∧K=sh∧Ih [] l=Ih ((l.take k).map Iq) (l.drop k)) l.length ⟨J,F,rfl,rfl⟩ ?_ ?_
 ·rintro k f H _ hk D ⟨I,F,rfl,hr⟩
  rw[List.drop_eq_getElem_cons hk,Ih]at hr
  have W:(k:Int)<l.length:=by omega
  have hw:=iT (k:=k) (by omega)
  obtain⟨b,cb,rr,X,mP,hb⟩:=La ha hc k hk
  obtain⟨E6,N⟩:=vG l[k] (List.getElem_mem hk)
  have Y:=j2 (Gz l[k].sc)
  have Fa:=j2 (sw l[k].nm)
  have Nq:=fun z fr lh sh=>sE (z:=z) (fr:=fr) (lh:=lh) (sh:=sh) l[k].x _ hb E6 N
  have Z:=YO ((l.take k).map Iq) (l[k].sc,l[k].nm)
  have nO:=Si ((l.take k).map Iq) (l[k].sc,l[k].nm)
  have qc:(l.take (k+1)).map Iq=(l.take k).map Iq++ [(l[k].sc,l[k].nm)]:=by rw[List.take_succ_eq_append_getElem hk,List.map_append];rfl
  by_cases hs:(l[k].sc,l[k].nm)∈(l.take k).map Iq
  ·simp only[qB,seval,gd,uU,D,U,V,r,I,F,W,X,Y,TY,Fa,xH,ju,Z,hs]
   clear D
   grind
  ·simp only[qB,seval,gd,uU,D,U,V,r,I,F,W,X,hw,Y,TY,Fa,xH,ju,Z,hs,th,VO,nO hs,Nq,qc]
   clear D
   grind
 ·rintro f H _ D ⟨I,F,rfl,hr⟩
  simp only[qB,seval,gd,uU,D,r,I,Int.lt_irrefl,hr,List.drop_length,Ih]
theorem akR(l:List Ru)(a:T)(r:List T)(D:IsSl a l.length r)(hc:hZ Sv l r)(hlen:l.length≤qh)(vG: ∀u∈l,WQ u.x):be pE 139 [a] []=some (.i .i64 (Ih [] l),[]):=by
 have F:=aA5 l a r D hc hlen vG 1
 rw[gQ adH (by simp[Tl])]
 simp only[qB,seval,Tl,D.lenI,F]
 grind
def GA:List (List Nat):= [[98,108,111,99,107],[115,112,97,110],[110,105,103,104,116],[99,114,101,100,105,116],[108,101,103,115],[104,101,97,100,115],[100,117,116,105,101,115]]
theorem YP(s:List Nat):be pE 182 [.s s] []=some (.i .i64 (YM s),[]):=by
 by_cases h:s∈GA
 ·simp only[GA,List.mem_cons,List.not_mem_nil,or_false]at h
  rcases h with rfl|rfl|rfl|rfl|rfl|rfl|rfl <;> exact mB (m:=20) (mz (by kernel_rfl))
 ·simp only[GA,List.mem_cons,List.not_mem_nil,or_false,not_or]at h
  obtain⟨r,D,F,H,I,J,K⟩:=h
  rw[gQ aec (by simp[Ty])]
  unfold YM
  simp only[qA,seval,Ty,r,D,F,H,I,J,K,or_self]
theorem YQ(s:List Nat): ∃n:Int,(n=0↔YM s=0)∧be pE 128 [.s s] []=some (.i .i64 n,[]):=by
 by_cases h:s∈GA
 ·simp only[GA,List.mem_cons,List.not_mem_nil,or_false]at h
  rcases h with rfl|rfl|rfl|rfl|rfl|rfl|rfl
  iterate 4 exact⟨2,by decide,mB (m:=20) (mz (by kernel_rfl))⟩
  iterate 3 exact⟨1,by decide,mB (m:=20) (mz (by kernel_rfl))⟩
 ·simp only[GA,List.mem_cons,List.not_mem_nil,or_false,not_or]at h
  obtain⟨r,D,F,H,I,J,K⟩:=h
  refine⟨0, ?_, ?_⟩
  ·unfold YM;simp[r,D,F,H,I,J,K]
  ·rw[gQ adw (by simp[Ta])]
   simp only[qA,seval,Ta,r,D,F,H,I,J,K]
def tP(g:Nat)(seen:List (List Nat)):b8:=⟨g,.map ((seen.map fun x=>(x,true)).map fun p=>sK p.1) ((seen.map fun x=>(x,true)).map fun p=>T.b p.2) false⟩
theorem Lb(g:Nat)(seen:List (List Nat))(s:List Nat):lkE (tP g seen) g (.one .str) (.s s) (.b false) false=some (.b (decide (s∈seen))):=by
 unfold tP;rw[ju,if_pos rfl,H6]
theorem Lc{lh:gW b8}{kk:Nat}(g:Nat)(seen:List (List Nat))(s:List Nat)(h:s∉seen):muE lh kk (tP g seen) g (.one .str) (.s s) (.b true)=some (nj lh kk (tP g (seen++ [s]))):=by
 unfold tP;rw[th,if_pos ⟨rfl,rfl⟩,Em seen s h];rfl
theorem aA6(l:List Li)(a:T)(Y:List T)(ha:IsSl a l.length Y)(hc:hZ LiR l Y)(hlen:l.length≤qh)(g:Nat)(O:b8)(fr:Fr)(lh:gW b8)(sh:List b8)
  (Z:an fr 3= .mp .L 8 g) (K:an fr 10=a) (r:an fr 11= .i .i64 (l.length:Int)) (U:an fr 12= .i .i64 0) (D:b7 lh 8=tP g []) (I:b7 lh 1=O):
  wH pE 80 uW fr lh sh 0 2 (PQ [] l) (fun F V=>(PQ [] l=0→b7 F 8=tP g (l.map Li.nm))∧b7 F 1=O∧V=sh):=by
 refine jY Fp (fun k f F V=>an f 12= .i .i64 (k:Int)∧b7 F 8=tP g ((l.take k).map Li.nm)∧b7 F 1=O∧V=sh∧PQ [] l=PQ ((l.take k).map Li.nm) (l.drop k)) l.length ⟨U,D,I,rfl,rfl⟩ ?_ ?_
 ·rintro k f F _ hk J ⟨N,D,I,rfl,hr⟩
  rw[List.drop_eq_getElem_cons hk,PQ]at hr
  have iP:(k:Int)<l.length:=by omega
  have hw:=iT (k:=k) (by omega)
  obtain⟨rr,iU⟩:=PO ha hc k hk
  have Fa:=j2 (sw l[k].nm)
  have W:=YP l[k].me
  have X:=fun n lo hi=>j2 (yz n lo hi)
  have lQ:=Lb g ((l.take k).map Li.nm) l[k].nm
  have H:=fun lh kk=>Lc (lh:=lh) (kk:=kk) g ((l.take k).map Li.nm) l[k].nm
  have qc:(l.take (k+1)).map Li.nm=(l.take k).map Li.nm++ [l[k].nm]:=by rw[List.take_succ_eq_append_getElem hk,List.map_append];rfl
  by_cases hs:l[k].nm∈(l.take k).map Li.nm
  ·simp only[qB,seval,gd,uW,J,Z,K,r,N,D,I,iP,iU,Fa,xH,lQ,hs]
   clear J X H
   grind
  ·simp only[qB,seval,gd,uW,J,Z,K,r,N,D,I,iP,iU,hw,Fa,xH,lQ,hs,fun lh kk=>H lh kk hs,W,ap1,X,Jf,qc]
   clear J X H
   grind (splits:=30)
 ·rintro f F _ J ⟨N,D,I,rfl,hr⟩
  rw[List.take_length]at D
  simp only[qB,seval,gd,uW,J,r,N,D,I,Int.lt_irrefl,hr,List.drop_length,PQ]
  exact fun _=>trivial
theorem aA8(l:List Of)(r:List (List Nat))(a:T)(V:List T)(ha:IsSl a l.length V)(hc:hZ OfR l V)(hlen:l.length≤qh)(g:Nat)(fr:Fr)(lh:gW b8)(sh:List b8)
  (W:an fr 3= .mp .L 8 g) (Hz:an fr 47=a) (D:an fr 48= .i .i64 (l.length:Int)) (N:an fr 49= .i .i64 0) (I:b7 lh 8=tP g r):
  wH pE 80 uV fr lh sh 3 2 (SL r l) (fun J O=>O=sh):=by
 refine jY P7 (fun k f J O=>an f 49= .i .i64 (k:Int)∧b7 J 8=tP g (r++(l.take k).map Of.nm)∧O=sh∧SL r l=SL (r++(l.take k).map Of.nm) (l.drop k)) l.length ⟨N,by simpa using I,rfl,by simp⟩ ?_ ?_
 ·rintro k f J _ hk H ⟨K,I,rfl,hr⟩
  rw[List.drop_eq_getElem_cons hk,SL]at hr
  have X:(k:Int)<l.length:=by omega
  have hw:=iT (k:=k) (by omega)
  obtain⟨rr,Y⟩:=YL ha hc k hk
  have Fa:=j2 (sw l[k].nm)
  have U:=fun n lo hi=>j2 (yz n lo hi)
  have Z:=Lb g (r++(l.take k).map Of.nm) l[k].nm
  have F:=fun lh kk=>Lc (lh:=lh) (kk:=kk) g (r++(l.take k).map Of.nm) l[k].nm
  have qc:r++(l.take (k+1)).map Of.nm=(r++(l.take k).map Of.nm)++ [l[k].nm]:=by rw[List.take_succ_eq_append_getElem hk,List.map_append,List.append_assoc];rfl
  by_cases hs:l[k].nm∈r++(l.take k).map Of.nm
  ·simp only[qB,seval,gd,uV,H,W,Hz,D,K,I,X,Y,Fa,xH,Z,hs]
   clear H U F
   grind
  ·simp only[qB,seval,gd,uV,H,W,Hz,D,K,I,X,Y,hw,Fa,xH,Z,hs,fun lh kk=>F lh kk hs,U,Jf,qc]
   clear H U F
   grind
 ·rintro f J _ H ⟨K,I,rfl,hr⟩
  simp only[qB,seval,gd,uV,H,D,K,Int.lt_irrefl,hr,List.drop_length,SL]
structure uc (c:Ct) (a7 a8 a9 gX hU gZ:T):Prop where
 h7: ∃cc,IsSl a7 c.cs.length cc∧lS c.cs cc
 h8: ∃cc,IsSl a8 c.ru.length cc∧hZ Sv c.ru cc
 h9: ∃cc,IsSl a9 c.co.length cc∧hZ Zd c.co cc
 h10: ∃cc,IsSl gX c.cr.length cc∧j3 c.cr cc
 h11: ∃cc,IsSl hU c.li.length cc∧hZ LiR c.li cc
 h12: ∃cc,IsSl gZ c.fs.length cc∧hZ OfR c.fs cc
structure An (c:Ct):Prop where
 s7:smC c.cs∧c.cs.length≤qh
 s8:(∀u∈c.ru,WQ u.x)∧c.ru.length≤qh
 s9:(∀u∈c.co,WQ u.x)∧c.co.length≤qh
 s10:(∀x∈c.cr,WQ x)∧c.cr.length≤qh
 s11:c.li.length≤qh
 s12:c.fs.length≤qh
section
variable(c:Ct)(a7 a8 a9 gX hU gZ:T)(hT:uc c a7 a8 a9 gX hU gZ)(hS:An c)
def jE:List T:= [.i .i64 c.rp,.i .i64 c.rl,.i .i64 c.cn,.i .i64 c.st,.i .i64 c.ly,.i .i64 c.nf,.i .i64 c.nt,a7,a8,a9,gX,hU,gZ,.i .i64 c.gu]
include hT hS
theorem akT:be pE 142 [.agg (jE c a7 a8 a9 gX hU gZ)] []=some (.i .i64 (YN c),[]):=by
 obtain⟨Sx,r,Rn⟩:=hT.h11
 obtain⟨Ze,D,Wz⟩:=hT.h12
 rw[gQ adL (by simp[Tn])]
 have F:=fun fr lh sh x1 x2 x3 x4 x5 x6=>lpO (aA6 c.li hU Sx r Rn hS.s11 1 ⟨1,.cells (jE c a7 a8 a9 gX hU gZ) 0 true⟩ fr lh sh x1 x2 x3 x4 x5 x6) (by simp[tP])
 have H:=aA8 c.fs (c.li.map Li.nm) gZ Ze D Wz hS.s12 1
 unfold jE at F ⊢
 unfold YN
 have I:tP 1 []=⟨1,.map [] [] false⟩:=rfl
 simp(maxDischargeDepth:=6) only[qB,seval,Tn,Fp,r.lenI,D.lenI,I,F,H]
 grind
end
theorem aA9(l:List Co)(a:T)(V:List T)(W:IsSl a l.length V)(hc:hZ Zd l V)(hlen:l.length≤qh)(vG: ∀u∈l,WQ u.x)(I:b8)(fr:Fr)(lh:gW b8)(sh:List b8)
  (J:an fr 84=a) (r:an fr 85= .i .i64 (l.length:Int)) (K:an fr 86= .i .i64 0) (D:b7 lh 1=I):
  wH pE 116 CI fr lh sh 1 2 (Kn l) (fun F N=>b7 F 1=I∧N=sh):=by
 refine jY I3 (fun k f F N=>an f 86= .i .i64 (k:Int)∧b7 F 1=I∧N=sh∧Kn l=Kn (l.drop k)) l.length ⟨K,D,rfl,rfl⟩ ?_ ?_
 ·rintro k f F _ hk H ⟨O,D,rfl,hr⟩
  rw[List.drop_eq_getElem_cons hk,Kn]at hr
  have X:(k:Int)<l.length:=by omega
  have Y:=iT (k:=k) (by omega)
  obtain⟨b,cb,rr,Z,mP,hb⟩:=PN W hc k hk
  obtain⟨E6,U⟩:=vG l[k] (List.getElem_mem hk)
  have mF:=j2 (Gz l[k].sc)
  have Nq:=fun z fr lh sh=>sE (z:=z) (fr:=fr) (lh:=lh) (sh:=sh) l[k].x _ hb E6 U
  simp only[qB,seval,gd,CI,H,J,r,O,D,X,Z,Y,mF,TY,Nq]
  clear H
  grind
 ·rintro f F _ H ⟨O,D,rfl,hr⟩
  simp only[qB,seval,gd,CI,H,r,O,D,Int.lt_irrefl,hr,List.drop_length,Kn]
theorem aBa(l:List Ex)(a:T)(V:List T)(W:IsSl a l.length V)(hc:j3 l V)(hlen:l.length≤qh)(vG: ∀x∈l,WQ x)(I:b8)(fr:Fr)(lh:gW b8)(sh:List b8)
  (J:an fr 102=a) (r:an fr 103= .i .i64 (l.length:Int)) (K:an fr 104= .i .i64 0) (D:b7 lh 1=I):
  wH pE 116 CH fr lh sh 3 2 (Ko l) (fun F N=>b7 F 1=I∧N=sh):=by
 refine jY I2 (fun k f F N=>an f 104= .i .i64 (k:Int)∧b7 F 1=I∧N=sh∧Ko l=Ko (l.drop k)) l.length ⟨K,D,rfl,rfl⟩ ?_ ?_
 ·rintro k f F _ hk H ⟨O,D,rfl,hr⟩
  rw[List.drop_eq_getElem_cons hk,Ko]at hr
  have X:(k:Int)<l.length:=by omega
  have Y:=iT (k:=k) (by omega)
  obtain⟨b,cb,rr,Z,mP,sL,hb⟩:=rF W hc k hk
  obtain⟨E6,U⟩:=vG l[k] (List.getElem_mem hk)
  have Nq:=fun z fr lh sh=>sE (z:=z) (fr:=fr) (lh:=lh) (sh:=sh) l[k] _ hb E6 U
  simp only[qB,seval,gd,CH,H,J,r,O,D,X,Z,Y,Nq]
  clear H
  grind
 ·rintro f F _ H ⟨O,D,rfl,hr⟩
  simp only[qB,seval,gd,CH,H,r,O,D,Int.lt_irrefl,hr,List.drop_length,Ko]
section
variable(c:Ct)(a7 a8 a9 gX hU gZ:T)(hT:uc c a7 a8 a9 gX hU gZ)(hS:An c)
include hT hS
theorem YR:be pE 88 [.agg (jE c a7 a8 a9 gX hU gZ)] []=some (.i .i64 (mE c),[]):=by
 have hv:=akT c a7 a8 a9 gX hU gZ hT hS
 obtain⟨⟨c7,H,V⟩,⟨c8,I,W⟩,⟨c9,J,X⟩,⟨Fg,r,Oy⟩,⟨Sx,D,Rn⟩,⟨Ze,F,Wz⟩⟩:=hT
 have O:=akQ c.cs a7 c7 H V hS.s7.2 hS.s7.1
 have U:=akR c.ru a8 c8 I W hS.s8.2 hS.s8.1
 have K:=aA9 c.co a9 c9 J X hS.s9.2 hS.s9.1 ⟨1,.cells (jE c a7 a8 a9 gX hU gZ) 0 true⟩
 have N:=aBa c.cr gX Fg r Oy hS.s10.2 hS.s10.1 ⟨1,.cells (jE c a7 a8 a9 gX hU gZ) 0 true⟩
 have w:=fun n lo hi=>j2 (yz n lo hi)
 unfold jE at K N hv ⊢
 rw[gQ ags (by simp[c88])]
 unfold mE pK pT
 simp(maxDischargeDepth:=6) only[qB,seval,c88,I2,I3,H.froz,I.froz,H.lenI,I.lenI,J.lenI,r.lenI,D.lenI,F.lenI,H.froz1,I.froz1,J.froz1,r.froz1,D.froz1,F.froz1,w,Jf,O,U,apN,apO,K,N,hv,apQ]
 clear O U K N hv w hS
 grind (splits:=40)
end
theorem tI(n lo hi:Int):be pE 129 [.i .i64 n,.i .i64 lo,.i .i64 hi] []=some (.b (qL n lo hi),[]):=by
 rw[gQ adx (by simp[Td])]
 unfold qL
 by_cases h:lo≤n <;> simp only[qA,seval,Td,h]
theorem aBd(l:List Li)(a:T)(I:List T)(J:IsSl a l.length I)(hc:hZ LiR l I)(hlen:l.length≤qh)(n:Nat)(Z:n≤l.length)(s:List Nat)(c:Ct)(a7 a8 a9 gX gZ:T)(K:List T)(G4:Nat)(fr:Fr)(lh:gW b8)(sh:List b8)(N:an fr 1= .ptr .L 1 1 0)(g3:an fr 3= .i .i64 (n:Int))(O:an fr 4= .ptr .L 4 G4 0)(U:an fr 5= .i .i64 0)(V:b7 lh 1=⟨1,.cells (jE c a7 a8 a9 gX a gZ) 0 true⟩)(W:b7 lh 4=⟨G4,.cells (.s s::K) 0 true⟩):
  wH pE 112 xp fr lh sh 2 2 (if s∈(l.map Li.nm).take n then 7 else 0) (fun D F=>D=lh∧F=sh):=by
 refine jY Fk (fun j f D F=>an f 5= .i .i64 (j:Int)∧D=lh∧F=sh∧s∉(l.map Li.nm).take j) n ⟨U,rfl,rfl,by simp⟩ ?_ ?_
 ·rintro j f _ _ hj r ⟨H,rfl,rfl,hr⟩
  obtain⟨rr,X⟩:=PO J hc j (by omega)
  have Y:=iT (k:=j) (by omega)
  have Zn:(j:Int)<n:=by omega
  simp only[qB,seval,gd,xp,r,N,g3,O,H,Zn,X,Y,V,W,jE]
  clear r
  grind [List.mem_take_iff_getElem]
 ·rintro f _ _ r ⟨H,rfl,rfl,hr⟩
  simp only[qB,seval,gd,xp,r,g3,H,Int.lt_irrefl,hr]
theorem aBe(l:List Li)(a:T)(J:List T)(D:IsSl a l.length J)(hc:hZ LiR l J)(hlen:l.length≤qh)(s:List Nat)(c:Ct)(a7 a8 a9 gX gZ:T)(O:List T)(G7:Nat)(fr:Fr)(lh:gW b8)(sh:List b8)(K:an fr 1= .ptr .L 1 1 0)(U:an fr 7= .ptr .L 7 G7 0)(V:an fr 8= .i .i64 0)(N:b7 lh 1=⟨1,.cells (jE c a7 a8 a9 gX a gZ) 0 true⟩)(W:b7 lh 7=⟨G7,.cells (.s s::O) 0 true⟩):
  wH pE 112 xm fr lh sh 6 2 (if s∈l.map Li.nm then 7 else 0) (fun F H=>F=lh∧H=sh):=by
 refine jY Fj (fun j f F H=>an f 8= .i .i64 (j:Int)∧F=lh∧H=sh∧s∉(l.map Li.nm).take j) l.length ⟨V,rfl,rfl,by simp⟩ ?_ ?_
 ·rintro j f _ _ X r ⟨I,rfl,rfl,hr⟩
  obtain⟨rr,Y⟩:=PO D hc j X
  have Z:=iT (k:=j) (by omega)
  have Zn:(j:Int)<l.length:=by omega
  simp only[qB,seval,gd,xm,r,K,U,I,D.lenI,Zn,Y,Z,N,W,jE]
  clear r
  grind [List.mem_take_iff_getElem]
 ·rintro f _ _ r ⟨I,rfl,rfl,hr⟩
  rw[List.take_of_length_le (by simp)]at hr
  simp only[qB,seval,gd,xm,r,K,I,D.lenI,N,jE,Int.lt_irrefl,hr]
theorem aBf(l:List Of)(a:T)(I:List T)(K:IsSl a l.length I)(hc:hZ OfR l I)(hlen:l.length≤qh)(n:Nat)(hn:n≤l.length)(s:List Nat)(c:Ct)(a7 a8 a9 gX hU:T)(N:List T)(G7:Nat)(fr:Fr)(lh:gW b8)(sh:List b8)(O:an fr 1= .ptr .L 1 1 0)(J:an fr 6= .i .i64 (n:Int))(U:an fr 7= .ptr .L 7 G7 0)(V:an fr 9= .i .i64 0)(W:b7 lh 1=⟨1,.cells (jE c a7 a8 a9 gX hU a) 0 true⟩)(X:b7 lh 7=⟨G7,.cells (.s s::N) 0 true⟩):
  wH pE 112 xl fr lh sh 8 2 (if s∈(l.map Of.nm).take n then 7 else 0) (fun D F=>D=lh∧F=sh):=by
 refine jY Fi (fun j f D F=>an f 9= .i .i64 (j:Int)∧D=lh∧F=sh∧s∉(l.map Of.nm).take j) n ⟨V,rfl,rfl,by simp⟩ ?_ ?_
 ·rintro j f _ _ hj r ⟨H,rfl,rfl,hr⟩
  obtain⟨rr,Y⟩:=YL K hc j (by omega)
  have Z:=iT (k:=j) (by omega)
  have Zn:(j:Int)<n:=by omega
  simp only[qB,seval,gd,xl,r,O,J,U,H,Zn,Y,Z,W,X,jE]
  clear r
  grind [List.mem_take_iff_getElem]
 ·rintro f _ _ r ⟨H,rfl,rfl,hr⟩
  simp only[qB,seval,gd,xl,r,J,H,Int.lt_irrefl,hr]
end Go.Proofs.YtcpceiclnbmgiaaGreat
