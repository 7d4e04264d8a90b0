/- Walks of functions of the program and of the reference, and their plain laws, part 7. Conditions: the theorems' own. -/
import Derived.Test.YtblcbheipjeoeaaGreatM6
import Derived.KernelRfl
set_option maxRecDepth 100000
set_option linter.unusedSimpArgs false
set_option linter.unusedVariables false
set_option maxHeartbeats 16000000
namespace Go.Proofs.YtblcbheipjeoeaaGreat
open Go Go.Ev
theorem Ll(op num:Int)(h:op=1∨op=2∨op=3∨op=4∨op=5)(a:T):gS pE 127 [.i .i64 op,.i .i64 num,a] []=some (.i .i64 (if op=1∨op=2∨op=3 then num else if op=4 then 1 else 0),[]):=by
 rw[gX U4 (by simp[pS])]
 rcases h with rfl|rfl|rfl|rfl|rfl <;> simp only[qA,seval,pS,true_or,or_true,or_self]
theorem IL{cl:List Nat→Int×Int}{scope:Int}: ∀{xs:List Ex} {ts:List Int},pv cl scope xs= .ok ts→ ∀(k:Nat) (i:k<xs.length),∃t,xs[k].ty cl scope=(t,0)
 | [],ts,h,k,i=>by simp at i
 |x::xs,ts,h,k,i=>by
  obtain⟨t,us,rfl,r,C⟩:=uj h
  cases k with
  |zero=>exact⟨t,r⟩
  |succ k=>exact IL C k (by simpa using i)
theorem ER{cl:List Nat→Int×Int}{r:List Nat→Int}(C:NO cl r){scope:Int}(D: ∀s,ki scope s=0): ∀{xs:List Ex} {ts:List Int},sM xs=true→pv cl scope xs= .ok ts→AY ts (kz r xs)
 | [],ts,_,h=>by rw[pv]at h;cases h;trivial
 |x::xs,ts,i,h=>by
  obtain⟨t,us,rfl,E,F⟩:=uj h
  rw[sM,Bool.and_eq_true]at i
  exact⟨(LM C scope D x t i.1 E).2,ER C D i.2 F⟩
theorem Hv(l:Cs)(k:Nat): ∀n,n≤k→n≤l.length→kI (l.take k) n=kI l n
 |0,_,_=>rfl
 |n+1,h,hl=>by
  rw[xQ l (by omega),xQ (l.take k) (by rw[List.length_take];omega),Hv l k n (by omega) (by omega),List.take_take,Nat.min_eq_left (by omega),List.getElem_take]
theorem Fe(l:Cs){k:Nat}(i:k≤l.length)(x:Ex):sN (l.take k) 0 x=vW (l.take k) (kI l k) x:=by
 unfold sN vW
 rw[List.length_take,Nat.min_eq_left i,Hv l k k (Nat.le_refl _) i]
section
variable(l:Cs)(n:Nat)(Gy:n≤l.length)(lT vT:T)(cl:List T)(hl:g8 lT n cl)(lM:kD (l.take n) cl)(hlen:l.length≤oQ)(hv:g8 vT n (ints (tr l n)))
def ag2(y:Ex):Prop:= ∀k cs,lK y cs→y.nodes≤100000→y.wf=true→y.ty (CL l n) 0=(k,0)→gS pE 78 [vT,lT,.i .i64 0,.nilsl,.agg cs] []=some (.i .i64 (y.val0 (VX l n)),[])
include hl hv
theorem atS(xs:List Ex)(ih: ∀y∈xs,ag2 l n lT vT y)(a:T)(V:List T)(O:g8 a xs.length V)(Z:jN xs V)(hn:jt xs≤100000)(tu:sM xs=true)(ts:List Int)(mK:pv (CL l n) 0 xs= .ok ts)(op num:Int)(s:List Nat)(g:Nat)(fr:Fr)(lh:hJ gR)(sh:List gR)
  (D:an fr 0=vT) (E:an fr 1=lT) (F:an fr 2= .i .i64 0) (H:an fr 3= .nilsl) (r:an fr 9= .ptr .L 9 g 0) (U:an fr 13= .nilsl) (I:an fr 14= .i .i64 0) (N:a6 lh 9=⟨g,.cells [.i .i64 op,.i .i64 num,.s s,a] 0 true⟩):
  kV 70 nC fr lh sh (.ext 0)∧
  (iT (kH pE 70 nC fr lh sh) (an (kh pE 70 nC fr lh sh) 13) 63 1 xs.length (ints (kz (VX l n) xs))∧a6 (kH pE 70 nC fr lh sh) 9=a6 lh 9∧kb pE 70 nC fr lh sh=sh):=by
 refine ib (P:=fun iq W iw=>iT W (an iq 13) 63 1 xs.length (ints (kz (VX l n) xs))∧a6 W 9=a6 lh 9∧iw=sh)
  (ij (fun k st=> ∃(fr:Fr) (J:hJ gR),st=⟨fr,J,sh⟩∧an fr 0=vT∧an fr 1=lT∧an fr 2= .i .i64 0∧an fr 3= .nilsl∧an fr 9= .ptr .L 9 g 0∧an fr 14= .i .i64 (k:Int)∧a6 J 9=a6 lh 9∧
    iT J (an fr 13) 63 1 k (ints (kz (VX l n) (xs.take k)))) _ xs.length ?_ ?_ 0 _ (Nat.zero_le _) ⟨fr,lh,rfl,D,E,F,H,r,I,rfl,by rw[U];exact iT.nil⟩)
 ·rintro k _ Cr ⟨fr,J,rfl,D,E,F,H,r,I,NS,C⟩
  left
  rw[N]at NS
  have iu:(k:Int)<xs.length:=by omega
  have DY:=jR xs
  have hyk:=mj (List.getElem_mem Cr)
  have hw:=iD (k:=k) (ku (by omega))
  obtain⟨b,cb,rr,iv,jE,oV,hb⟩:=mY O Z k Cr
  obtain⟨t,ht⟩:=IL mK k Cr
  have X:=ih xs[k] (List.getElem_mem Cr) t _ hb (by omega) (xE.1 tu _ (List.getElem_mem Cr)) ht
  have K:=oN C (ku (by omega)) (sh:=sh) (T.i .i64 (xs[k].val0 (VX l n))) true
  have Y:kz (VX l n) (xs.take (k+1))=kz (VX l n) (xs.take k)++ [xs[k].val0 (VX l n)]:=by
   rw[List.take_succ_eq_append_getElem Cr,py,List.map_append,←py];rfl
  generalize xs[k].val0 (VX l n)=q at X K Y
  generalize U:an fr 13=v13 at C K
  simp only[qA,seval,repl,nC,D,E,F,H,r,U,I,NS,O.lenI,iu,iv,hw,X,Rc,jE.froz1,hv.froz,hl.froz,C.notS,K.1]
  refine⟨_,rfl,_,_,rfl, ?_, ?_, ?_, ?_, ?_, ?_, ?_, ?_⟩
  all_goals first|(simp only[qA,seval,D,E,F,H,r];done)|skip
  ·rw[K.2.2 9 (by decide),NS,N]
  ·simp only[qA,seval]
   rw[Y,rW]
   exact K.2.1
 ·rintro _ ⟨fr,J,rfl,D,E,F,H,r,I,NS,C⟩
  rw[N]at NS
  rw[List.take_length]at C
  simp only[qA,seval,nC,r,I,NS,O.lenI,Int.lt_irrefl]
  refine⟨_,_,jB,rfl,rfl, ?_,by rw[NS,N],rfl⟩
  simp only[qA,seval]
  exact C
include Gy lM hlen
theorem adG(x:Ex):ag2 l n lT vT x:=by
 induction x using Ex.ind with
 |h x ih=>
  intro k cs hx hn tu K
  obtain⟨a,cc,rfl,ha,BB⟩:=hx.cells
  obtain⟨J,C,jy,IM,AR,Bl⟩:=xJ tu
  have hnd:=x.nodes_eq
  rw[gX Rb (by simp[Tj]),Ex.val0_eq]
  by_cases r:x.op=6
  ·rw[if_pos r]
   have N:=AB 0 x.name
   unfold tW at N
   rw[Ex.ty_eq,if_pos r,if_neg (by simp[mM])]at K
   rw[if_pos (mM _),mM]at N
   obtain⟨i,qI,D,EP,_⟩:=xK Gy K
   have LR:k8 (l.take n) x.name=some i:=by rw[xP,EP];simp[D]
   have Z9:=IN (l.take n) x.name lT cl (by rw[List.length_take,Nat.min_eq_left Gy];exact hl) lM (by rw[List.length_take];omega)
   rw[xL LR]at Z9
   have e1:=fun kk=>pz (ts:=tr l n) (by rw[nw];exact hv) (k:=i) (by rw[nw];exact D) kk
   have e2:VX l n x.name=(tr l n)[i]'(by rw[nw];exact D):=by
    unfold VX YO;rw[LR];simp[List.getD_eq_getElem?_getD,List.getElem?_eq_getElem (show i<(tr l n).length by rw[nw];exact D)]
   rw[e2]
   simp only[qA,seval,Tj,r,N,wq,Z9,Ot,hl.froz,e1]
  ·rw[if_neg r]
   obtain⟨ts,O,hr,hk⟩:=xM K r
   have U:=fun fr lh sh E J C V W X Y Z=>atS l n lT vT cl hl hv x.args (fun y hy=>ih y hy) a cc ha BB (by omega) Bl ts O x.op x.num x.name 1 fr lh sh E J C V W X Y Z
   have hO:=fun fr lh sh E J C V W X Y Z=>iT.fzV (sh:=sh) (keep:=false) (U fr lh sh E J C V W X Y Z).2.1
   have wD:=jR x.args
   have D:=ER (Zs l n Gy) (scope:=0) (fun s=>mM s) Bl O
   have ZX:=vF O
   have F:(kz (VX l n) x.args).length=x.args.length:=by rw[py,List.length_map]
   by_cases h5:x.op≤5
   ·have qg:x.op=1∨x.op=2∨x.op=3∨x.op=4∨x.op=5:=by omega
    have H:=Ll x.op x.num qg (lJ x.args.length (ints (kz (VX l n) x.args)))
    have I:(if x.op=1∨x.op=2∨x.op=3 then x.num else if x.op=4 then 1 else if x.op=5 then 0 else FH x.op (kz (VX l n) x.args))=(if x.op=1∨x.op=2∨x.op=3 then x.num else if x.op=4 then 1 else 0):=by
     rcases qg with h|h|h|h|h <;> simp[h]
    rw[I]
    generalize (if x.op=1∨x.op=2∨x.op=3 then x.num else if x.op=4 then 1 else 0)=q at H ⊢
    simp only[qA,seval,Tj,zj,r,U,hO,H,Ou]
   ·have h7:7≤x.op:=by omega
    have mF:=P3 D h7 C (by rw[ZX];exact jy) hr hk
    have H:=Hd x.op x.num (kz (VX l n) x.args) (lJ x.args.length (ints (kz (VX l n) x.args))) (by rw[F];exact oA (fun E=>by rw[E]at F;rw[List.length_eq_zero_iff.1 F];rfl)) (by rw[F];exact ku (by omega)) h7 C (by rw[F];exact jy) mF.1
    rw[if_neg (by omega),if_neg (by omega),if_neg (by omega)]
    generalize FH x.op (kz (VX l n) x.args)=q at H ⊢
    simp only[qA,seval,Tj,zj,r,U,hO,H,Ou]
end
section
variable(l:Cs)(lT:T)(cl:List T)(hl:g8 lT l.length cl)(lM:kD l cl)(hlen:l.length≤oQ)(qJ:Ym l)
theorem Qn{k:Nat}(i:k<l.length)(hl:g8 lT l.length cl)(lM:kD l cl): ∃ex,lT= .sl cl l.length ex∧g8 (.sl (List.take (k*5) cl) k (ex&&decide (k=l.length))) k (cl.take (k*5))∧kD (l.take k) (cl.take (k*5))∧cl.length=l.length*5:=by
 rcases hl with⟨_,hz,_⟩|⟨ex,rfl⟩
 ·omega
 ·exact⟨ex,rfl,Or.inr ⟨_,rfl⟩,lM.take k,lM.len⟩
theorem LS(qJ:Ym l)(k:Nat):Ym (l.take k):=fun c i=>qJ c (List.mem_of_mem_take i)
include hl lM hlen qJ
theorem ayP(fr:Fr)(lh:hJ gR)(sh:List gR)(F:an fr 0=lT)(K:an fr 3= .nilsl)(J:an fr 4= .i .i64 0):
  kV 43 wg fr lh sh (.ext 0)∧
  (iT (kH pE 43 wg fr lh sh) (an (kh pE 43 wg fr lh sh) 3) 41 1 l.length (ints (tr l l.length))∧kb pE 43 wg fr lh sh=sh):=by
 refine ib (P:=fun iq il iw=>iT il (an iq 3) 41 1 l.length (ints (tr l l.length))∧iw=sh)
  (ij (fun k st=> ∃(fr:Fr) (U:hJ gR),st=⟨fr,U,sh⟩∧an fr 0=lT∧an fr 4= .i .i64 (k:Int)∧iT U (an fr 3) 41 1 k (ints (tr l k))) _ l.length ?_ ?_ 0 _ (Nat.zero_le _) ⟨fr,lh,rfl,F,J,by rw[K];exact iT.nil⟩)
 ·rintro k _ V ⟨fr,U,rfl,F,J,E⟩
  left
  have W:(k:Int)<l.length:=by omega
  have X:=iD (k:=k) (by omega)
  obtain⟨b,cb,r,Y,Z,oV,hb⟩:=lL hl lM k V
  obtain⟨Qf,N5⟩:=qJ l[k] (List.getElem_mem V)
  obtain⟨ex,rfl,rE,yk,N6⟩:=Qn l lT cl V hl lM
  have N:k≤l.length:=by omega
  have lB:(l.take k).length=k:=by rw[List.length_take,Nat.min_eq_left N]
  have H:=E3 (l.take k) (.sl (List.take (k*5) cl) k (ex&&decide (k=l.length))) (cl.take (k*5)) (by rw[lB];exact rE) yk (by rw[lB];omega) (LS l qJ k) 0 l[k].2 _ hb Qf N5
  rw[Fe l N]at H
  have C:=fun(hz:l[k].2.nodes≤100000) (hv:l[k].2.wf=true) (ht:l[k].2.ty (CL l k) 0=((vW (l.take k) (kI l k) l[k].2).1,0))=>adG l k N (.sl (List.take (k*5) cl) k (ex&&decide (k=l.length))) (lJ k (ints (tr l k))) (cl.take (k*5)) rE yk hlen E.isl l[k].2 (vW (l.take k) (kI l k) l[k].2).1 _ hb hz hv ht
  have O:=LN l V
  by_cases D:(vW (l.take k) (kI l k) l[k].2).2=0
  ·rw[if_pos D]at O
   have FN:iX l[k].2=0:=by
    unfold vW at D
    by_cases hv:iX l[k].2≠0
    ·rw[if_pos hv]at D;exact absurd D hv
    ·simpa using hv
   have C:=C (by have:=AU FN;omega) (na FN) (by
    have:vW (l.take k) (kI l k) l[k].2=l[k].2.ty (CL l k) 0:=by unfold vW CL;rw[if_neg (by simp[FN])]
    rw[←this];exact Prod.ext rfl D)
   change gS pE 78 _ []=some (.i .i64 (l[k].2.val0 (YO (l.take k) (tr l k))),[])at C
   generalize l[k].2.val0 (YO (l.take k) (tr l k))=q at C O
   generalize vW (l.take k) (kI l k) l[k].2=p at H D
   obtain⟨p1,p2⟩:=p
   simp only at H D
   subst D
   have I:=oN E (by omega) (sh:=sh) (T.i .i64 q) true
   generalize K:an fr 3=v3 at E I
   simp only[qA,seval,u9,repl,iR,wg,F,K,J,W,Y,X,H,Dn,Oq,Z.froz1,N,N6,Nat.sub_zero,E.fzV,C,av1,av2,E.notS,I.1]
   refine⟨_,rfl,_,_,rfl, ?_, ?_, ?_⟩
   all_goals first|(simp only[qA,seval,F];done)|skip
   simp only[qA,seval]
   rw[O,rW]
   exact I.2.1
  ·rw[if_neg D]at O
   generalize vW (l.take k) (kI l k) l[k].2=p at H D
   obtain⟨p1,p2⟩:=p
   simp only at H D
   have I:=oN E (by omega) (sh:=sh) (T.i .i64 0) true
   generalize K:an fr 3=v3 at E I
   simp only[qA,seval,u9,repl,iR,wg,F,K,J,W,Y,X,H,Dn,Oq,Z.froz1,N,N6,Nat.sub_zero,D,E.notS,I.1]
   refine⟨_,rfl,_,_,rfl, ?_, ?_, ?_⟩
   all_goals first|(simp only[qA,seval,F];done)|skip
   simp only[qA,seval]
   rw[O,rW]
   exact I.2.1
 ·rintro _ ⟨fr,U,rfl,F,J,E⟩
  simp only[qA,seval,wg,F,J,hl.lenI,Int.lt_irrefl]
  refine⟨_,_,jB,rfl,rfl, ?_,rfl⟩
  simp only[qA,seval]
  exact E
theorem SX:gS pE 77 [lT] []=some (lJ l.length (ints (tr l l.length)),[]):=by
 have D:=fun fr lh sh i r C=>ayP l lT cl hl lM hlen qJ fr lh sh i r C
 have Ty:=fun keep fr lh sh i r C=>iT.fzV (keep:=keep) (sh:=sh) (D fr lh sh i r C).2.1
 rw[gX ahB (by simp[c77])]
 simp only[qA,seval,c77,D,Ty,Nd]
end
def ic{α:Type}(R:α→List T→Prop):List α→List T→Prop
 | [],cs=>cs= []
 |x::xs,cs=> ∃c r,cs=c++r∧R x c∧ic R xs r
section
variable{α:Type}{R:α→List T→Prop}{k:Nat}
theorem ic.len(i: ∀x c,R x c→c.length=k): ∀{xs:List α} {cs:List T},ic R xs cs→cs.length=xs.length*k
 | [],cs,h=>by rw[ic]at h;rw[h];simp
 |x::xs,cs,h=>by
  rw[ic]at h
  obtain⟨c,r,rfl,C,D⟩:=h
  rw[List.length_append,i _ _ C,ic.len i D,List.length_cons,Nat.add_mul,Nat.one_mul,Nat.add_comm]
theorem ic.drop(D: ∀x c,R x c→c.length=k): ∀{xs:List α} {cs:List T} (i:Nat) (hi:i<xs.length),ic R xs cs→ ∃c r,cs.drop (i*k)=c++r∧R xs[i] c
 | [],cs,i,hi,h=>by simp at hi
 |x::xs,cs,0,hi,h=>by
  rw[ic]at h
  obtain⟨c,r,rfl,C,E⟩:=h
  exact⟨c,r,by simp,C⟩
 |x::xs,cs,i+1,hi,h=>by
  rw[ic]at h
  obtain⟨c,r,rfl,C,E⟩:=h
  obtain⟨F,H,e,I⟩:=ic.drop D i (by simpa using hi) E
  refine⟨F,H, ?_,I⟩
  have:(i+1)*k=c.length+i*k:=by rw[D _ _ C,Nat.add_mul,Nat.one_mul,Nat.add_comm]
  rw[this,List.drop_append,Nat.add_sub_cancel_left,List.drop_eq_nil_of_le (by omega),e];rfl
theorem oK(C: ∀x c,R x c→c.length=k){xs:List α}{a:T}{D:List T}(F:g8 a xs.length D)(E:ic R xs D)(i:Nat)(hi:i<xs.length): ∃c r,(∀kk,sH a (.i kk (i:Int)) k=some (.vp (c++r)))∧R xs[i] c:=by
 obtain⟨c,r,e,H⟩:=ic.drop C i hi E
 exact⟨c,r,fun kk=>by rw[F.ia (sz:=k) (ic.len C E) hi,e],H⟩
theorem ic.append: ∀{xs C:List α} {c r:List T},ic R xs c→ic R C r→ic R (xs++C) (c++r)
 | [],C,c,r,i,D=>by rw[ic]at i;subst i;exact D
 |x::xs,C,c,r,i,D=>by
  rw[ic]at i
  obtain⟨E,F,rfl,H,I⟩:=i
  rw[List.append_assoc]
  exact⟨E,F++r,rfl,H,ic.append I D⟩
theorem ic.one{x:α}{c:List T}(h:R x c):ic R [x] c:=⟨c,[],by simp,h,rfl⟩
end
structure Ru where
 sc:Int
 nm:List Nat
 x:Ex
structure Co where
 sc:Int
 x:Ex
structure Li where
 nm:List Nat
 me:List Nat
 mo:Int
 da:Int
structure Of where
 nm:List Nat
 ct:Int
 da:Int
def Tv(u:Ru)(c:List T):Prop:= ∃a r,c= [.i .i64 u.sc,.s u.nm,.i .i64 u.x.op,.i .i64 u.x.num,.s u.x.name,a]∧g8 a u.x.args.length r∧jN u.x.args r
def Z3(u:Co)(c:List T):Prop:= ∃a r,c= [.i .i64 u.sc,.i .i64 u.x.op,.i .i64 u.x.num,.s u.x.name,a]∧g8 a u.x.args.length r∧jN u.x.args r
def LiR(u:Li)(c:List T):Prop:=c= [.s u.nm,.s u.me,.i .i64 u.mo,.i .i64 u.da]
def OfR(u:Of)(c:List T):Prop:=c= [.s u.nm,.i .i64 u.ct,.i .i64 u.da]
theorem Tv.len(u:Ru)(c:List T)(h:Tv u c):c.length=6:=by obtain⟨a,i,rfl,_⟩:=h;rfl
theorem Z3.len(u:Co)(c:List T)(h:Z3 u c):c.length=5:=by obtain⟨a,i,rfl,_⟩:=h;rfl
theorem LiR.len(u:Li)(c:List T)(h:LiR u c):c.length=4:=by rw[h];rfl
theorem OfR.len(u:Of)(c:List T)(h:OfR u c):c.length=3:=by rw[h];rfl
theorem Ck{xs:List Ru}{a:T}{D:List T}(F:g8 a xs.length D)(H:ic Tv xs D)(i:Nat)(hi:i<xs.length):
  ∃b C r,(∀kk,sH a (.i kk (i:Int)) 6=some (.vp (.i .i64 xs[i].sc:: .s xs[i].nm:: .i .i64 xs[i].x.op:: .i .i64 xs[i].x.num:: .s xs[i].x.name::b::r)))∧g8 b xs[i].x.args.length C∧lK xs[i].x [.i .i64 xs[i].x.op,.i .i64 xs[i].x.num,.s xs[i].x.name,b]:=by
 obtain⟨c,r,I,b,C,rfl,E,J⟩:=oK Tv.len F H i hi
 exact⟨b,C,r,I,E,lK.of E J⟩
theorem Ez{xs:List Co}{a:T}{D:List T}(F:g8 a xs.length D)(H:ic Z3 xs D)(i:Nat)(hi:i<xs.length):
  ∃b C r,(∀kk,sH a (.i kk (i:Int)) 5=some (.vp (.i .i64 xs[i].sc:: .i .i64 xs[i].x.op:: .i .i64 xs[i].x.num:: .s xs[i].x.name::b::r)))∧g8 b xs[i].x.args.length C∧lK xs[i].x [.i .i64 xs[i].x.op,.i .i64 xs[i].x.num,.s xs[i].x.name,b]:=by
 obtain⟨c,r,I,b,C,rfl,E,J⟩:=oK Z3.len F H i hi
 exact⟨b,C,r,I,E,lK.of E J⟩
theorem Qo{xs:List Li}{a:T}{C:List T}(E:g8 a xs.length C)(F:ic LiR xs C)(i:Nat)(hi:i<xs.length):
  ∃r,∀kk,sH a (.i kk (i:Int)) 4=some (.vp (.s xs[i].nm:: .s xs[i].me:: .i .i64 xs[i].mo:: .i .i64 xs[i].da::r)):=by
 obtain⟨c,r,D,H⟩:=oK LiR.len E F i hi
 rw[H]at D
 exact⟨r,D⟩
theorem ZA{xs:List Of}{a:T}{C:List T}(E:g8 a xs.length C)(F:ic OfR xs C)(i:Nat)(hi:i<xs.length):
  ∃r,∀kk,sH a (.i kk (i:Int)) 3=some (.vp (.s xs[i].nm:: .i .i64 xs[i].ct:: .i .i64 xs[i].da::r)):=by
 obtain⟨c,r,D,H⟩:=oK OfR.len E F i hi
 rw[H]at D
 exact⟨r,D⟩
structure Ct where
 rp:Int
 rl:Int
 cn:Int
 st:Int
 ly:Int
 nf:Int
 nt:Int
 cs:Cs
 ru:List Ru
 co:List Co
 cr:List Ex
 li:List Li
 fs:List Of
 gu:Int
def um(n lo hi:Int):Bool:=decide (lo≤n)&&decide (n≤hi)
def Mh(seen:List (List Nat)):Cs→Int
 | []=>0
 |c::l=>if qw c.1=false then 1 else if c.1∈seen then 7 else if iX c.2≠0 then iX c.2 else Mh (seen++ [c.1]) l
def Jm(seen:List (Int×List Nat)):List Ru→Int
 | []=>0
 |u::l=>if um u.sc 1 3=false∨qw u.nm=false then 1 else if(u.sc,u.nm)∈seen then 7 else if iX u.x≠0 then iX u.x else Jm (seen++ [(u.sc,u.nm)]) l
def Nt:List Co→Int
 | []=>0
 |u::l=>if um u.sc 1 3=false then 1 else if iX u.x≠0 then iX u.x else Nt l
def Nu:List Ex→Int
 | []=>0
 |x::l=>if iX x≠0 then iX x else Nu l
def Oj(s:List Nat):Int:=if s= [98,108,111,99,107]∨s= [115,112,97,110]∨s= [110,105,103,104,116]∨s= [99,114,101,100,105,116]then 3 else if s= [108,101,103,115]∨s= [104,101,97,100,115]∨s= [100,117,116,105,101,115]then 2 else 0
def Tf(seen:List (List Nat)):List Li→Int
 | []=>0
 |u::l=>if qw u.nm=false then 1 else if u.nm∈seen then 7 else if Oj u.me=0 then 6 else if um u.mo 0 599999=false∨um u.da 1 31=false then 5 else Tf (seen++ [u.nm]) l
def TH(seen:List (List Nat)):List Of→Int
 | []=>0
 |u::l=>if qw u.nm=false then 1 else if u.nm∈seen then 7 else if um u.da 1 31=false∨um u.ct 1 u.da=false then 5 else TH (seen++ [u.nm]) l
def ZB(c:Ct):Int:=if Tf [] c.li≠0 then Tf [] c.li else TH (c.li.map Li.nm) c.fs
def pw(c:Ct):Bool:=um c.rp 0 1440&&(um c.rl 0 1440&&(um c.cn 0 1440&&(um c.st c.cn 1440&&(um c.ly 0 10080&&(um c.nf 0 1439&&(um c.nt 0 1439&&um c.gu 0 599999))))))
def sU(c:Ct):Bool:=decide (c.cs.length≤32)&&(decide (c.ru.length≤40)&&(decide (c.co.length≤16)&&(decide (c.cr.length≤1)&&(decide (c.li.length≤16)&&decide (c.fs.length≤16)))))
def mz(c:Ct):Int:=if pw c=false then 5 else if sU c=false then 10 else if Mh [] c.cs≠0 then Mh [] c.cs else if Jm [] c.ru≠0 then Jm [] c.ru else if Nt c.co≠0 then Nt c.co else if Nu c.cr≠0 then Nu c.cr else ZB c
theorem mL(n lo hi:Int):gS pE 225 [.i .i64 n,.i .i64 lo,.i .i64 hi] []=some (.b (um n lo hi),[]):=by
 rw[gX aeT (by simp[Uq])]
 unfold um
 by_cases h:lo≤n <;> simp only[qA,seval,Uq,h]
theorem Hw(n:Int):gS pE 228 [.i .i64 n] []=some (.b (um n 1 3),[]):=by
 rw[gX aeW (by simp[Ut])]
 simp only[qA,seval,Ut,mL,lX]
theorem uk{α:Type}[DecidableEq α](s:α): ∀l:List α,iF (l.map fun x=>(x,true)) s=if s∈l then some true else none
 | []=>by simp[iF]
 |a::l=>by
  rw[List.map_cons,iF,uk s l]
  by_cases h:s=a
  ·simp[h]
  ·simp[h]
theorem Jb(seen:List (List Nat))(s:List Nat):nX (.one .str) ((seen.map fun x=>(x,true)).map fun p=>sK p.1) ((seen.map fun x=>(x,true)).map fun p=>T.b p.2) (.s s) (.b false) false=some (.b (decide (s∈seen))):=by
 have:=Pu (kT:=sK) (vT:=T.b) FL (fun _=>rfl) (seen.map fun x=>(x,true)) s (.b false)
 rw[show(T.s s)=sK s from rfl,this,uk]
 by_cases h:s∈seen <;> simp[h]
theorem Ff(seen:List (List Nat))(s:List Nat)(h:s∉seen):rB (.one .str) (.s s) (.b true) ((seen.map fun x=>(x,true)).map fun p=>sK p.1) ((seen.map fun x=>(x,true)).map fun p=>T.b p.2)=some (((seen++ [s]).map fun x=>(x,true)).map (fun p=>sK p.1),((seen++ [s]).map fun x=>(x,true)).map (fun p=>T.b p.2)):=by
 have:=Aq (kT:=sK) (vT:=T.b) FL (seen.map fun x=>(x,true)) s true (by rw[uk,if_neg h])
 rw[show(T.s s)=sK s from rfl,show T.b true=T.b (true)from rfl,this]
 simp only[List.map_append,List.map_cons,List.map_nil]
theorem ayQ(l:Cs)(a:T)(N:List T)(Z:g8 a l.length N)(hc:kD l N)(hlen:l.length≤oQ)(qJ:Ym l)(g:Nat)(fr:Fr)(lh:hJ gR)(sh:List gR)
  (O:an fr 3= .mp .L 7 g) (U:an fr 8=a) (H:an fr 9= .i .i64 (l.length:Int)) (I:an fr 10= .i .i64 0) (C:a6 lh 7=⟨g,.map [] [] false⟩):
  Px pE 32 xk fr lh sh 0 2 (Mh [] l) (fun D J=>J=sh):=by
 refine pq QP (fun k f D J=>an f 10= .i .i64 (k:Int)∧a6 D 7=⟨g,.map ((((l.take k).map Prod.fst).map fun x=>(x,true)).map fun p=>sK p.1) ((((l.take k).map Prod.fst).map fun x=>(x,true)).map fun p=>T.b p.2) false⟩∧J=sh∧Mh [] l=Mh ((l.take k).map Prod.fst) (l.drop k)) l.length ⟨I,C,rfl,rfl⟩ ?_ ?_
 ·rintro k f D _ E r ⟨F,C,rfl,K⟩
  rw[List.drop_eq_getElem_cons E,Mh]at K
  have V:(k:Int)<l.length:=by omega
  have hw:=iD (k:=k) (by omega)
  obtain⟨b,cb,rr,W,jE,oV,hb⟩:=lL Z hc k E
  obtain⟨Qf,N5⟩:=qJ l[k] (List.getElem_mem E)
  have X:=qM (tU l[k].1)
  have FJ:=fun z fr lh sh=>uh (z:=z) (fr:=fr) (lh:=lh) (sh:=sh) l[k].2 _ hb Qf N5
  have Y:=Jb ((l.take k).map Prod.fst) l[k].1
  have nF:=Ff ((l.take k).map Prod.fst) l[k].1
  have sd:(l.take (k+1)).map Prod.fst=(l.take k).map Prod.fst++ [l[k].1]:=by rw[List.take_succ_eq_append_getElem E,List.map_append];rfl
  by_cases hs:l[k].1∈(l.take k).map Prod.fst
  ·simp only[qB,seval,gd,xk,r,O,U,H,F,C,V,W,X,qE,ju,Y,hs]
   clear r
   grind
  ·simp only[qB,seval,gd,xk,r,O,U,H,F,C,V,W,hw,X,qE,ju,Y,hs,vf,Ch,nF hs,FJ,sd]
   clear r
   grind
 ·rintro f D _ r ⟨F,C,rfl,K⟩
  simp only[qB,seval,gd,xk,r,H,F,Int.lt_irrefl,K,List.drop_length,Mh]
theorem akw(l:Cs)(a:T)(r:List T)(C:g8 a l.length r)(D:kD l r)(hlen:l.length≤oQ)(qJ:Ym l):gS pE 226 [a] []=some (.i .i64 (Mh [] l),[]):=by
 have E:=ayQ l a r C D hlen qJ 1
 rw[gX aeU (by simp[Ur])]
 simp only[qB,seval,Ur,C.lenI,E]
 grind
def rK(p:Int×List Nat):T:= .agg [.i .i64 p.1,.s p.2]
theorem atU(a b:Int×List Nat):xV (.flat [.int,.str]) (rK a) (rK b)=some (decide (a=b)):=by
 unfold rK
 rw[aiO]
 congr 1
 by_cases i:a.1=b.1 <;> by_cases r:a.2=b.2 <;> simp[i,r,Prod.ext_iff]
theorem ZC(seen:List (Int×List Nat))(s:Int×List Nat):nX (.flat [.int,.str]) ((seen.map fun x=>(x,true)).map fun p=>rK p.1) ((seen.map fun x=>(x,true)).map fun p=>T.b p.2) (.agg [.i .i64 s.1,.s s.2]) (.b false) false=some (.b (decide (s∈seen))):=by
 have:=Pu (kT:=rK) (vT:=T.b) atU (fun _=>Xg) (seen.map fun x=>(x,true)) s (.b false)
 rw[show T.agg [.i .i64 s.1,.s s.2]=rK s from rfl,this,uk]
 by_cases h:s∈seen <;> simp[h]
theorem Tg(seen:List (Int×List Nat))(s:Int×List Nat)(h:s∉seen):rB (.flat [.int,.str]) (.agg [.i .i64 s.1,.s s.2]) (.b true) ((seen.map fun x=>(x,true)).map fun p=>rK p.1) ((seen.map fun x=>(x,true)).map fun p=>T.b p.2)=some (((seen++ [s]).map fun x=>(x,true)).map (fun p=>rK p.1),((seen++ [s]).map fun x=>(x,true)).map (fun p=>T.b p.2)):=by
 have:=Aq (kT:=rK) (vT:=T.b) atU (seen.map fun x=>(x,true)) s true (by rw[uk,if_neg h])
 rw[show T.agg [.i .i64 s.1,.s s.2]=rK s from rfl,this]
 simp only[List.map_append,List.map_cons,List.map_nil]
def Mc(x:Ex):Prop:=0≤x.nodes∧x.sm
def Jo(u:Ru):Int×List Nat:=(u.sc,u.nm)
theorem ayR(l:List Ru)(a:T)(N:List T)(ha:g8 a l.length N)(hc:ic Tv l N)(hlen:l.length≤oQ)(qJ: ∀u∈l,Mc u.x)(g:Nat)(fr:Fr)(lh:hJ gR)(sh:List gR)
  (O:an fr 3= .mp .L 8 g) (U:an fr 9=a) (r:an fr 10= .i .i64 (l.length:Int)) (I:an fr 11= .i .i64 0) (D:a6 lh 8=⟨g,.map [] [] false⟩):
  Px pE 42 xl fr lh sh 0 2 (Jm [] l) (fun E J=>J=sh):=by
 refine pq QQ (fun k f E J=>an f 11= .i .i64 (k:Int)∧a6 E 8=⟨g,.map ((((l.take k).map Jo).map fun x=>(x,true)).map fun p=>rK p.1) ((((l.take k).map Jo).map fun x=>(x,true)).map fun p=>T.b p.2) false⟩∧J=sh∧Jm [] l=Jm ((l.take k).map Jo) (l.drop k)) l.length ⟨I,D,rfl,rfl⟩ ?_ ?_
 ·rintro k f E _ F C ⟨H,D,rfl,K⟩
  rw[List.drop_eq_getElem_cons F,Jm]at K
  have V:(k:Int)<l.length:=by omega
  have hw:=iD (k:=k) (by omega)
  obtain⟨b,cb,rr,W,jE,hb⟩:=Ck ha hc k F
  obtain⟨Qf,N5⟩:=qJ l[k] (List.getElem_mem F)
  have X:=qM (Hw l[k].sc)
  have Y:=qM (tU l[k].nm)
  have FJ:=fun z fr lh sh=>uh (z:=z) (fr:=fr) (lh:=lh) (sh:=sh) l[k].x _ hb Qf N5
  have Z:=ZC ((l.take k).map Jo) (l[k].sc,l[k].nm)
  have nF:=Tg ((l.take k).map Jo) (l[k].sc,l[k].nm)
  have sd:(l.take (k+1)).map Jo=(l.take k).map Jo++ [(l[k].sc,l[k].nm)]:=by rw[List.take_succ_eq_append_getElem F,List.map_append];rfl
  by_cases hs:(l[k].sc,l[k].nm)∈(l.take k).map Jo
  ·simp only[qB,seval,gd,xl,C,O,U,r,H,D,V,W,X,JN,Y,qE,ju,Z,hs]
   clear C
   grind
  ·simp only[qB,seval,gd,xl,C,O,U,r,H,D,V,W,hw,X,JN,Y,qE,ju,Z,hs,vf,Xg,nF hs,FJ,sd]
   clear C
   grind
 ·rintro f E _ C ⟨H,D,rfl,K⟩
  simp only[qB,seval,gd,xl,C,r,H,Int.lt_irrefl,K,List.drop_length,Jm]
theorem akx(l:List Ru)(a:T)(r:List T)(C:g8 a l.length r)(D:ic Tv l r)(hlen:l.length≤oQ)(qJ: ∀u∈l,Mc u.x):gS pE 227 [a] []=some (.i .i64 (Jm [] l),[]):=by
 have E:=ayR l a r C D hlen qJ 1
 rw[gX aeV (by simp[Us])]
 simp only[qB,seval,Us,C.lenI,E]
 grind
def Hx:List (List Nat):= [[98,108,111,99,107],[115,112,97,110],[110,105,103,104,116],[99,114,101,100,105,116],[108,101,103,115],[104,101,97,100,115],[100,117,116,105,101,115]]
theorem ZD(s:List Nat):gS pE 274 [.s s] []=some (.i .i64 (Oj s),[]):=by
 by_cases h:s∈Hx
 ·simp only[Hx,List.mem_cons,List.not_mem_nil,or_false]at h
  rcases h with rfl|rfl|rfl|rfl|rfl|rfl|rfl <;> exact je (m:=20) (jd (by kernel_rfl))
 ·simp only[Hx,List.mem_cons,List.not_mem_nil,or_false,not_or]at h
  obtain⟨r,C,D,E,F,H,I⟩:=h
  rw[gX afu (by simp[UG])]
  unfold Oj
  simp only[qA,seval,UG,r,C,D,E,F,H,I,or_self]
theorem ZE(s:List Nat): ∃n:Int,(n=0↔Oj s=0)∧gS pE 279 [.s s] []=some (.i .i64 n,[]):=by
 by_cases h:s∈Hx
 ·simp only[Hx,List.mem_cons,List.not_mem_nil,or_false]at h
  rcases h with rfl|rfl|rfl|rfl|rfl|rfl|rfl
  iterate 4 exact⟨2,by decide,je (m:=20) (jd (by kernel_rfl))⟩
  iterate 3 exact⟨1,by decide,je (m:=20) (jd (by kernel_rfl))⟩
 ·simp only[Hx,List.mem_cons,List.not_mem_nil,or_false,not_or]at h
  obtain⟨r,C,D,E,F,H,I⟩:=h
  refine⟨0, ?_, ?_⟩
  ·unfold Oj;simp[r,C,D,E,F,H,I]
  ·rw[gX afx (by simp[UI])]
   simp only[qA,seval,UI,r,C,D,E,F,H,I]
def vO(g:Nat)(seen:List (List Nat)):gR:=⟨g,.map ((seen.map fun x=>(x,true)).map fun p=>sK p.1) ((seen.map fun x=>(x,true)).map fun p=>T.b p.2) false⟩
theorem LU(g:Nat)(seen:List (List Nat))(s:List Nat):lkE (vO g seen) g (.one .str) (.s s) (.b false) false=some (.b (decide (s∈seen))):=by
 unfold vO;rw[ju,if_pos rfl,Jb]
theorem LV{lh:hJ gR}{kk:Nat}(g:Nat)(seen:List (List Nat))(s:List Nat)(h:s∉seen):muE lh kk (vO g seen) g (.one .str) (.s s) (.b true)=some (pk lh kk (vO g (seen++ [s]))):=by
 unfold vO;rw[vf,if_pos ⟨rfl,rfl⟩,Ff seen s h];rfl
theorem ayS(l:List Li)(a:T)(cc:List T)(ha:g8 a l.length cc)(hc:ic LiR l cc)(hlen:l.length≤oQ)(r:Int)(C:r=Tf [] l)(o:Out)(ho:o=if r=0 then .ext 0 else .ret)(g:Nat)(c1:gR)(fr:Fr)(lh:hJ gR)(sh:List gR)
  (J:an fr 3= .mp .L 8 g) (F:an fr 10=a) (D:an fr 11= .i .i64 (l.length:Int)) (H:an fr 12= .i .i64 0) (K:a6 lh 8=vO g []) (N:a6 lh 1=c1):
  kV 80 mJ fr lh sh o∧
  ((r≠0→an (kh pE 80 mJ fr lh sh) 2= .i .i64 r)∧a6 (kH pE 80 mJ fr lh sh) 1=c1∧(r=0→a6 (kH pE 80 mJ fr lh sh) 8=vO g (l.map Li.nm))∧kb pE 80 mJ fr lh sh=sh):=by
 refine ib (P:=fun iq il iw=>(r≠0→an iq 2= .i .i64 r)∧a6 il 1=c1∧(r=0→a6 il 8=vO g (l.map Li.nm))∧iw=sh)
  (ij (fun k st=> ∃(fr:Fr) (Z:hJ gR),st=⟨fr,Z,sh⟩∧an fr 3= .mp .L 8 g∧an fr 10=a∧an fr 11= .i .i64 (l.length:Int)∧an fr 12= .i .i64 (k:Int)∧a6 Z 1=c1∧
    a6 Z 8=vO g ((l.take k).map Li.nm)∧r=Tf ((l.take k).map Li.nm) (l.drop k)) _ l.length ?_ ?_ 0 _ (Nat.zero_le _) ⟨fr,lh,rfl,J,F,D,H,N,K,by rw[C];rfl⟩)
 ·rintro k _ hk ⟨fr,Z,rfl,J,F,D,H,N,K,C⟩
  have W:(k:Int)<l.length:=by omega
  have hw:=iD (k:=k) (by omega)
  obtain⟨rr,X⟩:=Qo ha hc k hk
  have O:=tU l[k].nm
  have I:=ZD l[k].me
  have tY:=mL l[k].mo 0 599999
  have CX:=mL l[k].da 1 31
  have U:=LU g ((l.take k).map Li.nm) l[k].nm
  have V:=fun lh kk=>LV (lh:=lh) (kk:=kk) g ((l.take k).map Li.nm) l[k].nm
  rw[List.drop_eq_getElem_cons hk,Tf]at C
  have sd:(l.take (k+1)).map Li.nm=(l.take k).map Li.nm++ [l[k].nm]:=by rw[List.take_succ_eq_append_getElem hk,List.map_append];rfl
  rw[sd]
  generalize (l.take k).map Li.nm=seen at*
  generalize l[k]=u at*
  have E: ∀e:Int,e≠0→r=e→o= .ret:=fun e he h=>by rw[ho,h,if_neg he]
  cases hd:qw u.nm with
  |false=>
   right
   rw[if_pos hd]at C
   rw[hd]at O
   simp only[qA,seval,mJ,J,F,D,H,W,X,O,qE]
   refine⟨_,_,jJ,rfl,(E _ (by decide) C).symm,fun _=> ?_, ?_,fun h=>absurd (C.symm.trans h) (by decide),rfl⟩ <;> simp only[qA,seval,C,N]
  |true=>
  rw[if_neg (by simp[hd])]at C
  rw[hd]at O
  by_cases hs:u.nm∈seen
  ·right
   rw[if_pos hs]at C
   rw[decide_eq_true hs]at U
   simp only[qA,seval,mJ,J,F,D,H,K,W,X,O,qE,U]
   refine⟨_,_,jJ,rfl,(E _ (by decide) C).symm,fun _=> ?_, ?_,fun h=>absurd (C.symm.trans h) (by decide),rfl⟩ <;> simp only[qA,seval,C,N]
  rw[if_neg hs]at C
  rw[decide_eq_false hs]at U
  have V:=fun lh kk=>V lh kk hs
  by_cases Y:Oj u.me=0
  ·right
   rw[if_pos Y]at C
   rw[Y]at I
   simp only[qA,seval,mJ,J,F,D,H,K,W,X,O,qE,U,I,OH]
   refine⟨_,_,jJ,rfl,(E _ (by decide) C).symm,fun _=> ?_, ?_,fun h=>absurd (C.symm.trans h) (by decide),rfl⟩ <;> simp only[qA,seval,C,N]
  rw[if_neg Y]at C
  generalize Oj u.me=me at*
  cases Kh:um u.mo 0 599999 with
  |false=>
   right
   rw[if_pos (.inl Kh)]at C
   rw[Kh]at tY
   simp only[qA,seval,mJ,J,F,D,H,K,W,X,O,qE,U,I,OH,Y,tY,lX]
   refine⟨_,_,jJ,rfl,(E _ (by decide) C).symm,fun _=> ?_, ?_,fun h=>absurd (C.symm.trans h) (by decide),rfl⟩ <;> simp only[qA,seval,C,N]
  |true=>
  rw[Kh]at tY
  cases GA:um u.da 1 31 with
  |false=>
   right
   rw[if_pos (.inr GA)]at C
   rw[GA]at CX
   simp only[qA,seval,mJ,J,F,D,H,K,W,X,O,qE,U,I,OH,Y,tY,CX,lX]
   refine⟨_,_,jJ,rfl,(E _ (by decide) C).symm,fun _=> ?_, ?_,fun h=>absurd (C.symm.trans h) (by decide),rfl⟩ <;> simp only[qA,seval,C,N]
  |true=>
   left
   rw[if_neg (by simp[Kh,GA])]at C
   rw[GA]at CX
   simp only[qA,seval,mJ,J,F,D,H,K,W,X,hw,O,qE,U,V,I,OH,Y,tY,CX,lX]
   refine⟨_,rfl,_,_,rfl, ?_, ?_, ?_, ?_, ?_, ?_,C⟩
   all_goals (simp only[qA,seval,J,F,D,N])
 ·rintro _ ⟨fr,Z,rfl,J,F,D,H,N,K,C⟩
  rw[List.drop_length,Tf]at C
  rw[List.take_length]at K
  simp only[qA,seval,mJ,D,H,Int.lt_irrefl]
  exact⟨_,_,jB,rfl,by rw[ho,C];rfl,fun h=>absurd C h,N,fun _=>K,rfl⟩
theorem ayT(l:List Of)(E:List (List Nat))(a:T)(Y:List T)(ha:g8 a l.length Y)(hc:ic OfR l Y)(hlen:l.length≤oQ)(r:Int)(C:r=TH E l)(o:Out)(Z:o=if r=0 then .ext 3 else .ret)(g:Nat)(fr:Fr)(lh:hJ gR)(sh:List gR)
  (F:an fr 3= .mp .L 8 g) (ZF:an fr 47=a) (O4:an fr 48= .i .i64 (l.length:Int)) (ZG:an fr 49= .i .i64 0) (H:a6 lh 8=vO g E):
  kV 80 pH fr lh sh o∧
  ((r≠0→an (kh pE 80 pH fr lh sh) 2= .i .i64 r)∧kb pE 80 pH fr lh sh=sh):=by
 refine ib (P:=fun iq il iw=>(r≠0→an iq 2= .i .i64 r)∧iw=sh)
  (ij (fun k st=> ∃(fr:Fr) (V:hJ gR),st=⟨fr,V,sh⟩∧an fr 3= .mp .L 8 g∧an fr 47=a∧an fr 48= .i .i64 (l.length:Int)∧an fr 49= .i .i64 (k:Int)∧
    a6 V 8=vO g (E++(l.take k).map Of.nm)∧r=TH (E++(l.take k).map Of.nm) (l.drop k)) _ l.length ?_ ?_ 0 _ (Nat.zero_le _) ⟨fr,lh,rfl,F,ZF,O4,ZG,by simpa using H,by rw[C];simp⟩)
 ·rintro k _ X ⟨fr,V,rfl,F,ZF,O4,ZG,H,C⟩
  have N:(k:Int)<l.length:=by omega
  have hw:=iD (k:=k) (by omega)
  obtain⟨rr,O⟩:=ZA ha hc k X
  have I:=tU l[k].nm
  have U:=mL l[k].da 1 31
  have CX:=mL l[k].ct 1 l[k].da
  have K:=LU g (E++(l.take k).map Of.nm) l[k].nm
  have J:=fun lh kk=>LV (lh:=lh) (kk:=kk) g (E++(l.take k).map Of.nm) l[k].nm
  rw[List.drop_eq_getElem_cons X,TH]at C
  have sd:E++(l.take (k+1)).map Of.nm=(E++(l.take k).map Of.nm)++ [l[k].nm]:=by rw[List.take_succ_eq_append_getElem X,List.map_append,List.append_assoc];rfl
  rw[sd]
  generalize E++(l.take k).map Of.nm=seen at*
  generalize l[k]=u at*
  have D: ∀e:Int,e≠0→r=e→o= .ret:=fun e he h=>by rw[Z,h,if_neg he]
  cases W:qw u.nm with
  |false=>
   right
   rw[if_pos W]at C
   rw[W]at I
   simp only[qA,seval,pH,F,ZF,O4,ZG,N,O,I,qE]
   refine⟨_,_,jJ,rfl,(D _ (by decide) C).symm,fun _=> ?_,rfl⟩
   simp only[qA,seval,C]
  |true=>
  rw[if_neg (by simp[W])]at C
  rw[W]at I
  by_cases hs:u.nm∈seen
  ·right
   rw[if_pos hs]at C
   rw[decide_eq_true hs]at K
   simp only[qA,seval,pH,F,ZF,O4,ZG,H,N,O,I,qE,K]
   refine⟨_,_,jJ,rfl,(D _ (by decide) C).symm,fun _=> ?_,rfl⟩
   simp only[qA,seval,C]
  rw[if_neg hs]at C
  rw[decide_eq_false hs]at K
  have J:=fun lh kk=>J lh kk hs
  cases Kh:um u.da 1 31 with
  |false=>
   right
   rw[if_pos (.inl Kh)]at C
   rw[Kh]at U
   simp only[qA,seval,pH,F,ZF,O4,ZG,H,N,O,I,qE,K,U,lX]
   refine⟨_,_,jJ,rfl,(D _ (by decide) C).symm,fun _=> ?_,rfl⟩
   simp only[qA,seval,C]
  |true=>
  rw[Kh]at U
  cases GA:um u.ct 1 u.da with
  |false=>
   right
   rw[if_pos (.inr GA)]at C
   rw[GA]at CX
   simp only[qA,seval,pH,F,ZF,O4,ZG,H,N,O,I,qE,K,U,CX,lX]
   refine⟨_,_,jJ,rfl,(D _ (by decide) C).symm,fun _=> ?_,rfl⟩
   simp only[qA,seval,C]
  |true=>
   left
   rw[if_neg (by simp[Kh,GA])]at C
   rw[GA]at CX
   simp only[qA,seval,pH,F,ZF,O4,ZG,H,N,O,hw,I,qE,K,J,U,CX,lX]
   refine⟨_,rfl,_,_,rfl, ?_, ?_, ?_, ?_, ?_,C⟩
   all_goals (simp only[qA,seval,F,ZF,O4])
 ·rintro _ ⟨fr,V,rfl,F,ZF,O4,ZG,H,C⟩
  rw[List.drop_length,TH]at C
  simp only[qA,seval,pH,O4,ZG,Int.lt_irrefl]
  exact⟨_,_,jB,rfl,by rw[Z,C];rfl,fun h=>absurd C h,rfl⟩
structure xG (c:Ct) (a7 a8 a9 a10 hZ hU:T):Prop where
 h7: ∃cc,g8 a7 c.cs.length cc∧kD c.cs cc
 h8: ∃cc,g8 a8 c.ru.length cc∧ic Tv c.ru cc
 h9: ∃cc,g8 a9 c.co.length cc∧ic Z3 c.co cc
 h10: ∃cc,g8 a10 c.cr.length cc∧jN c.cr cc
 h11: ∃cc,g8 hZ c.li.length cc∧ic LiR c.li cc
 h12: ∃cc,g8 hU c.fs.length cc∧ic OfR c.fs cc
structure AK (c:Ct):Prop where
 s7:Ym c.cs∧c.cs.length≤oQ
 s8:(∀u∈c.ru,Mc u.x)∧c.ru.length≤oQ
 s9:(∀u∈c.co,Mc u.x)∧c.co.length≤oQ
 s10:(∀x∈c.cr,Mc x)∧c.cr.length≤oQ
 s11:c.li.length≤oQ
 s12:c.fs.length≤oQ
section
variable(c:Ct)(a7 a8 a9 a10 hZ hU:T)(hT:xG c a7 a8 a9 a10 hZ hU)(hS:AK c)
def iS:List T:= [.i .i64 c.rp,.i .i64 c.rl,.i .i64 c.cn,.i .i64 c.st,.i .i64 c.ly,.i .i64 c.nf,.i .i64 c.nt,a7,a8,a9,a10,hZ,hU,.i .i64 c.gu]
include hT hS
theorem akA:gS pE 230 [.agg (iS c a7 a8 a9 a10 hZ hU)] []=some (.i .i64 (ZB c),[]):=by
 obtain⟨⟨c7,i7,_⟩,⟨c8,i8,_⟩,⟨c9,i9,_⟩,⟨vv,V,_⟩,⟨W,C,X⟩,⟨Y,D,Z⟩⟩:=hT
 rw[gX aeY (by simp[Ms])]
 have r:=fun c1 fr lh sh I E F H J O=>ayS c.li hZ W C X hS.s11 _ rfl _ rfl 1 c1 fr lh sh I E F H J O
 have r:=fun fr lh sh I E F H J O=>r ⟨1,.cells (iS c a7 a8 a9 a10 hZ hU) 0 true⟩ fr lh sh I E F H J O
 have K:=fun fr lh sh I ZF O4 ZG J=>ayT c.fs (c.li.map Li.nm) hU Y D Z hS.s12 _ rfl _ rfl 1 fr lh sh I ZF O4 ZG J
 unfold ZB iS
 unfold iS at r
 rw[show vO 1 []=⟨1,.map [] [] false⟩from rfl]at r
 by_cases N:Tf [] c.li=0
 ·rw[if_neg (by simp[N])]
  rw[N]at r
  simp only[if_true,ne_eq,not_true_eq_false,false_implies,true_and,forall_const]at r
  by_cases U:TH (c.li.map Li.nm) c.fs=0
  ·rw[U]at K
   simp only[if_true,ne_eq,not_true_eq_false,false_implies,true_and]at K
   simp(maxDischargeDepth:=6) only[qA,seval,Ms,F4,C.lenI,D.lenI,r,K,U]
  ·simp only[U,if_false,ne_eq,not_false_eq_true,forall_const]at K
   simp(maxDischargeDepth:=6) only[qA,seval,Ms,F4,C.lenI,D.lenI,r,K]
 ·rw[if_pos N]
  simp only[N,if_false,ne_eq,not_false_eq_true,forall_const,false_implies,true_and]at r
  simp(maxDischargeDepth:=6) only[qA,seval,Ms,C.lenI,r]
end
theorem ayU(l:List Co)(a:T)(X:List T)(Z:g8 a l.length X)(hc:ic Z3 l X)(hlen:l.length≤oQ)(qJ: ∀u∈l,Mc u.x)(r:Int)(D:r=Nt l)(o:Out)(Y:o=if r=0 then .ext 1 else .ret)(K:gR)(fr:Fr)(lh:hJ gR)(sh:List gR)
  (E:an fr 84=a) (C:an fr 85= .i .i64 (l.length:Int)) (F:an fr 86= .i .i64 0) (I:a6 lh 1=K):
  kV 116 pF fr lh sh o∧
  ((r≠0→an (kh pE 116 pF fr lh sh) 2= .i .i64 r)∧a6 (kH pE 116 pF fr lh sh) 1=K∧kb pE 116 pF fr lh sh=sh):=by
 refine ib (P:=fun iq il iw=>(r≠0→an iq 2= .i .i64 r)∧a6 il 1=K∧iw=sh)
  (ij (fun k st=> ∃(fr:Fr) (N:hJ gR),st=⟨fr,N,sh⟩∧an fr 84=a∧an fr 85= .i .i64 (l.length:Int)∧an fr 86= .i .i64 (k:Int)∧a6 N 1=K∧r=Nt (l.drop k)) _ l.length ?_ ?_ 0 _ (Nat.zero_le _) ⟨fr,lh,rfl,E,C,F,I,by rw[D];rfl⟩)
 ·rintro k _ U ⟨fr,N,rfl,E,C,F,I,D⟩
  have V:(k:Int)<l.length:=by omega
  have hw:=iD (k:=k) (by omega)
  obtain⟨b,cb,rr,W,jE,hb⟩:=Ez Z hc k U
  obtain⟨Qf,N5⟩:=qJ l[k] (List.getElem_mem U)
  have J:=Hw l[k].sc
  have FJ:=fun z fr lh sh=>uh (z:=z) (fr:=fr) (lh:=lh) (sh:=sh) l[k].x _ hb Qf N5
  rw[List.drop_eq_getElem_cons U,Nt]at D
  have H: ∀e:Int,e≠0→r=e→o= .ret:=fun e he h=>by rw[Y,h,if_neg he]
  cases O:um l[k].sc 1 3 with
  |false=>
   right
   rw[if_pos O]at D
   rw[O]at J
   simp only[qA,seval,pF,E,C,F,V,W,J,JN]
   refine⟨_,_,jJ,rfl,(H _ (by decide) D).symm,fun _=> ?_, ?_,rfl⟩ <;> simp only[qA,seval,D,I]
  |true=>
   rw[if_neg (by simp[O])]at D
   rw[O]at J
   by_cases hv:iX l[k].x=0
   ·left
    rw[if_neg (by simp[hv])]at D
    rw[hv]at FJ
    simp only[qA,seval,pF,E,C,F,V,W,hw,J,JN,FJ]
    refine⟨_,rfl,_,_,rfl, ?_, ?_, ?_, ?_,D⟩
    all_goals (simp only[qA,seval,E,C,I])
   ·right
    rw[if_pos hv]at D
    generalize iX l[k].x=e at*
    simp only[qA,seval,pF,E,C,F,V,W,J,JN,FJ,hv]
    refine⟨_,_,jJ,rfl,(H _ hv D).symm,fun _=> ?_, ?_,rfl⟩ <;> simp only[qA,seval,D,I]
 ·rintro _ ⟨fr,N,rfl,E,C,F,I,D⟩
  rw[List.drop_length,Nt]at D
  simp only[qA,seval,pF,C,F,Int.lt_irrefl]
  exact⟨_,_,jB,rfl,by rw[Y,D];rfl,fun h=>absurd D h,I,rfl⟩
theorem ayV(l:List Ex)(a:T)(J:List T)(U:g8 a l.length J)(V:jN l J)(hlen:l.length≤oQ)(qJ: ∀x∈l,Mc x)(r:Int)(C:r=Nu l)(o:Out)(K:o=if r=0 then .ext 3 else .ret)(F:gR)(fr:Fr)(lh:hJ gR)(sh:List gR)
  (LW:an fr 102=a) (Jc:an fr 103= .i .i64 (l.length:Int)) (LX:an fr 104= .i .i64 0) (E:a6 lh 1=F):
  kV 116 qR fr lh sh o∧
  ((r≠0→an (kh pE 116 qR fr lh sh) 2= .i .i64 r)∧a6 (kH pE 116 qR fr lh sh) 1=F∧kb pE 116 qR fr lh sh=sh):=by
 refine ib (P:=fun W X Y=>(r≠0→an W 2= .i .i64 r)∧a6 X 1=F∧Y=sh)
  (ij (fun k st=> ∃(fr:Fr) (H:hJ gR),st=⟨fr,H,sh⟩∧an fr 102=a∧an fr 103= .i .i64 (l.length:Int)∧an fr 104= .i .i64 (k:Int)∧a6 H 1=F∧r=Nu (l.drop k)) _ l.length ?_ ?_ 0 _ (Nat.zero_le _) ⟨fr,lh,rfl,LW,Jc,LX,E,by rw[C];rfl⟩)
 ·rintro k _ I ⟨fr,H,rfl,LW,Jc,LX,E,C⟩
  have N:(k:Int)<l.length:=by omega
  have Z:=iD (k:=k) (by omega)
  obtain⟨b,cb,rr,O,jE,oV,hb⟩:=mY U V k I
  obtain⟨Qf,N5⟩:=qJ l[k] (List.getElem_mem I)
  have FJ:=fun z fr lh sh=>uh (z:=z) (fr:=fr) (lh:=lh) (sh:=sh) l[k] _ hb Qf N5
  rw[List.drop_eq_getElem_cons I,Nu]at C
  have D: ∀e:Int,e≠0→r=e→o= .ret:=fun e he h=>by rw[K,h,if_neg he]
  by_cases hv:iX l[k]=0
  ·left
   rw[if_neg (by simp[hv])]at C
   rw[hv]at FJ
   simp only[qA,seval,qR,LW,Jc,LX,N,O,Z,FJ]
   refine⟨_,rfl,_,_,rfl, ?_, ?_, ?_, ?_,C⟩
   all_goals (simp only[qA,seval,LW,Jc,E])
  ·right
   rw[if_pos hv]at C
   generalize iX l[k]=e at*
   simp only[qA,seval,qR,LW,Jc,LX,N,O,FJ,hv]
   refine⟨_,_,jJ,rfl,(D _ hv C).symm,fun _=> ?_, ?_,rfl⟩ <;> simp only[qA,seval,C,E]
 ·rintro _ ⟨fr,H,rfl,LW,Jc,LX,E,C⟩
  rw[List.drop_length,Nu]at C
  simp only[qA,seval,qR,Jc,LX,Int.lt_irrefl]
  exact⟨_,_,jB,rfl,by rw[K,C];rfl,fun h=>absurd C h,E,rfl⟩
section
variable(c:Ct)(a7 a8 a9 a10 hZ hU:T)(hT:xG c a7 a8 a9 a10 hZ hU)(hS:AK c)
include hT hS
theorem ZH:gS pE 142 [.agg (iS c a7 a8 a9 a10 hZ hU)] []=some (.i .i64 (mz c),[]):=by
 have hvw:=akA c a7 a8 a9 a10 hZ hU hT hS
 obtain⟨⟨c7,I,j7⟩,⟨c8,K,j8⟩,⟨c9,W,j9⟩,⟨vv,r,vw⟩,⟨yg,C,xH⟩,⟨yY,D,yt⟩⟩:=hT
 have X:=akw c.cs a7 c7 I j7 hS.s7.2 hS.s7.1
 have Y:=akx c.ru a8 c8 K j8 hS.s8.2 hS.s8.1
 have hL:=fun fr lh sh h84 h85 h86 o1=>ayU c.co a9 c9 W j9 hS.s9.2 hS.s9.1 _ rfl _ rfl ⟨1,.cells (iS c a7 a8 a9 a10 hZ hU) 0 true⟩ fr lh sh h84 h85 h86 o1
 have hM:=fun fr lh sh LW Jc LX o1=>ayV c.cr a10 vv r vw hS.s10.2 hS.s10.1 _ rfl _ rfl ⟨1,.cells (iS c a7 a8 a9 a10 hZ hU) 0 true⟩ fr lh sh LW Jc LX o1
 unfold iS at hL hM hvw ⊢
 rw[gX U6 (by simp[qp])]
 unfold mz pw sU
 have E:=mL c.rp 0 1440
 have F:=mL c.rl 0 1440
 have H:=mL c.cn 0 1440
 have J:=mL c.st c.cn 1440
 have N:=mL c.ly 0 10080
 have O:=mL c.nf 0 1439
 have U:=mL c.nt 0 1439
 have V:=mL c.gu 0 599999
 cases q0:um c.rp 0 1440 with
 |false=>
  rw[q0]at E
  simp only[qA,seval,qp,E,lX]
 |true=>
 rw[q0]at E
 cases q1:um c.rl 0 1440 with
 |false=>
  rw[q1]at F
  simp only[qA,seval,qp,E,F,lX]
 |true=>
 rw[q1]at F
 cases q2:um c.cn 0 1440 with
 |false=>
  rw[q2]at H
  simp only[qA,seval,qp,E,F,H,lX]
 |true=>
 rw[q2]at H
 cases q3:um c.st c.cn 1440 with
 |false=>
  rw[q3]at J
  simp only[qA,seval,qp,E,F,H,J,lX]
 |true=>
 rw[q3]at J
 cases q4:um c.ly 0 10080 with
 |false=>
  rw[q4]at N
  simp only[qA,seval,qp,E,F,H,J,N,lX]
 |true=>
 rw[q4]at N
 cases q5:um c.nf 0 1439 with
 |false=>
  rw[q5]at O
  simp only[qA,seval,qp,E,F,H,J,N,O,lX]
 |true=>
 rw[q5]at O
 cases q6:um c.nt 0 1439 with
 |false=>
  rw[q6]at U
  simp only[qA,seval,qp,E,F,H,J,N,O,U,lX]
 |true=>
 rw[q6]at U
 cases q7:um c.gu 0 599999 with
 |false=>
  rw[q7]at V
  simp only[qA,seval,qp,E,F,H,J,N,O,U,V,lX]
 |true=>
 rw[q7]at V
 by_cases Z:(32:Int)<(c.cs.length:Int)
 ·have d0:decide (c.cs.length≤32)=false:=decide_eq_false (by omega)
  simp only[qA,seval,qp,I.lenI,K.lenI,W.lenI,r.lenI,C.lenI,D.lenI,E,F,H,J,N,O,U,V,lX,Z,d0]
 have d0:decide (c.cs.length≤32)=true:=decide_eq_true (by omega)
 by_cases n1:(40:Int)<(c.ru.length:Int)
 ·have d1:decide (c.ru.length≤40)=false:=decide_eq_false (by omega)
  simp only[qA,seval,qp,I.lenI,K.lenI,W.lenI,r.lenI,C.lenI,D.lenI,E,F,H,J,N,O,U,V,lX,Z,n1,d0,d1]
 have d1:decide (c.ru.length≤40)=true:=decide_eq_true (by omega)
 by_cases n2:(16:Int)<(c.co.length:Int)
 ·have d2:decide (c.co.length≤16)=false:=decide_eq_false (by omega)
  simp only[qA,seval,qp,I.lenI,K.lenI,W.lenI,r.lenI,C.lenI,D.lenI,E,F,H,J,N,O,U,V,lX,Z,n1,n2,d0,d1,d2]
 have d2:decide (c.co.length≤16)=true:=decide_eq_true (by omega)
 by_cases n3:(1:Int)<(c.cr.length:Int)
 ·have d3:decide (c.cr.length≤1)=false:=decide_eq_false (by omega)
  simp only[qA,seval,qp,I.lenI,K.lenI,W.lenI,r.lenI,C.lenI,D.lenI,E,F,H,J,N,O,U,V,lX,Z,n1,n2,n3,d0,d1,d2,d3]
 have d3:decide (c.cr.length≤1)=true:=decide_eq_true (by omega)
 by_cases n4:(16:Int)<(c.li.length:Int)
 ·have d4:decide (c.li.length≤16)=false:=decide_eq_false (by omega)
  simp only[qA,seval,qp,I.lenI,K.lenI,W.lenI,r.lenI,C.lenI,D.lenI,E,F,H,J,N,O,U,V,lX,Z,n1,n2,n3,n4,d0,d1,d2,d3,d4]
 have d4:decide (c.li.length≤16)=true:=decide_eq_true (by omega)
 by_cases n5:(16:Int)<(c.fs.length:Int)
 ·have d5:decide (c.fs.length≤16)=false:=decide_eq_false (by omega)
  simp only[qA,seval,qp,I.lenI,K.lenI,W.lenI,r.lenI,C.lenI,D.lenI,E,F,H,J,N,O,U,V,lX,Z,n1,n2,n3,n4,n5,d0,d1,d2,d3,d4,d5]
 have d5:decide (c.fs.length≤16)=true:=decide_eq_true (by omega)
 rw[d0,d1,d2,d3,d4,d5]
 simp only[Bool.and_self,Bool.true_eq_false,if_false]
 by_cases e1:Mh [] c.cs=0
 ·rw[e1]at X
  rw[if_neg (by simp[e1])]
  by_cases e2:Jm [] c.ru=0
  ·rw[e2]at Y
   rw[if_neg (by simp[e2])]
   by_cases e3:Nt c.co=0
   ·rw[e3]at hL
    rw[if_neg (by simp[e3])]
    simp only[if_true,ne_eq,not_true_eq_false,false_implies,true_and]at hL
    by_cases e4:Nu c.cr=0
    ·rw[e4]at hM
     rw[if_neg (by simp[e4])]
     simp only[if_true,ne_eq,not_true_eq_false,false_implies,true_and]at hM
     simp only[qA,seval,qp,Qz,FX,I.lenI,K.lenI,W.lenI,r.lenI,C.lenI,D.lenI,I.froz,K.froz,I.froz1,K.froz1,W.froz1,r.froz1,C.froz1,D.froz1,E,F,H,J,N,O,U,V,lX,Z,n1,n2,n3,n4,n5,X,JM,Y,OE,hL,hM,hvw,apB]
    ·rw[if_pos e4]
     simp only[e4,if_false,ne_eq,not_false_eq_true,forall_const]at hM
     simp only[qA,seval,qp,FX,I.lenI,K.lenI,W.lenI,r.lenI,C.lenI,D.lenI,I.froz,K.froz,E,F,H,J,N,O,U,V,lX,Z,n1,n2,n3,n4,n5,X,JM,Y,OE,hL,hM]
   ·rw[if_pos e3]
    simp only[e3,if_false,ne_eq,not_false_eq_true,forall_const]at hL
    simp only[qA,seval,qp,I.lenI,K.lenI,W.lenI,r.lenI,C.lenI,D.lenI,I.froz,K.froz,E,F,H,J,N,O,U,V,lX,Z,n1,n2,n3,n4,n5,X,JM,Y,OE,hL]
  ·rw[if_pos e2]
   generalize Jm [] c.ru=e at*
   simp only[qA,seval,qp,I.lenI,K.lenI,W.lenI,r.lenI,C.lenI,D.lenI,I.froz,K.froz,E,F,H,J,N,O,U,V,lX,Z,n1,n2,n3,n4,n5,X,JM,Y,OE,e2]
 ·rw[if_pos e1]
  generalize Mh [] c.cs=e at*
  simp only[qA,seval,qp,I.lenI,K.lenI,W.lenI,r.lenI,C.lenI,D.lenI,I.froz,E,F,H,J,N,O,U,V,lX,Z,n1,n2,n3,n4,n5,X,JM,e1]
end
end Go.Proofs.YtblcbheipjeoeaaGreat
