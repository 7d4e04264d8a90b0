/- Walks of functions of the program and of the reference, and their plain laws, part 5. Conditions: the theorems' own. -/
import Derived.Test.YtnkgnjecmfkcfaaGreatGS
import Derived.Test.YtnkgnjecmfkcfaaGreatM1
import Derived.Test.YtnkgnjecmfkcfaaGreatM4
import Derived.KernelRfl
set_option maxRecDepth 100000
set_option linter.unusedSimpArgs false
set_option linter.unusedVariables false
set_option maxHeartbeats 16000000
namespace Go.Proofs.YtnkgnjecmfkcfaaGreat
open Go Go.Ev
theorem bq1:((true==true) != false)=true:=nr rfl
theorem bq2:((false==false) != false)=true:=nr rfl
theorem bq3:((true==false) != false)=false:=nr rfl
theorem bq4:((false==true) != false)=false:=nr rfl
theorem bq5:((true==true) != true)=false:=nr rfl
theorem bq6:((false==false) != true)=false:=nr rfl
theorem bq7:((true==false) != true)=true:=nr rfl
theorem bq8:((false==true) != true)=true:=nr rfl
theorem Ss{a b:Int}(r:b≠0)(h:(a<0∧b<0)∨(¬a<0∧ ¬b<0)):a.fdiv b=((a.natAbs/b.natAbs:Nat):Int):=by
 rcases h with⟨h1,h2⟩|⟨h1,h2⟩
 ·rw[←Int.neg_fdiv_neg,Int.fdiv_eq_ediv_of_nonneg _ yv]
  have e1: -a=((a.natAbs:Nat):Int):=yv
  have e2: -b=((b.natAbs:Nat):Int):=yv
  rw[e1,e2];rfl
 ·rw[Int.fdiv_eq_ediv_of_nonneg _ yv]
  have e1:a=((a.natAbs:Nat):Int):=yv
  have e2:b=((b.natAbs:Nat):Int):=yv
  conv=>lhs;rw[e1,e2]
  rfl
theorem Kr(x y:Nat):(x:Int).fdiv (y:Int)=((x/y:Nat):Int):=by rw[Int.fdiv_eq_ediv_of_nonneg _ yv];rfl
theorem zM(x y:Nat):((y:Int)∣(x:Int))↔x%y=0:=by rw[Int.natCast_dvd_natCast];exact Nat.dvd_iff_mod_eq_zero
def upN(x y:Nat):Nat:=x/y+if 0<x%y then 1 else 0
theorem Su{a b:Int}(F:b≠0)(h:(a<0∧ ¬b<0)∨(¬a<0∧b<0)):a.fdiv b= -((upN a.natAbs b.natAbs:Nat):Int):=by
 unfold upN
 rcases h with⟨h1,h2⟩|⟨h1,h2⟩
 ·have e1:a= -((a.natAbs:Nat):Int):=yv
  have e2:b=((b.natAbs:Nat):Int):=yv
  have D:b.natAbs≠0:=yv
  generalize a.natAbs=x,b.natAbs=y at*
  subst e1 e2
  rw[Int.neg_fdiv,Kr]
  by_cases r:x%y=0
  ·rw[if_pos (Or.inr ((zM x y).2 r)),if_neg yv];omega
  ·rw[if_neg (by rintro(h|h)
                 ·omega
                 ·exact r ((zM x y).1 h)),if_pos yv];omega
 ·have e1:a=((a.natAbs:Nat):Int):=yv
  have e2:b= -((b.natAbs:Nat):Int):=yv
  have D:((b.natAbs:Nat):Int)≠0:=yv
  generalize a.natAbs=x,b.natAbs=y at*
  subst e1 e2
  rw[Int.fdiv_neg D,Kr]
  by_cases r:x%y=0
  ·rw[if_pos ((zM x y).2 r),if_neg yv];omega
  ·rw[if_neg (fun h=>r ((zM x y).1 h)),if_pos yv];omega
theorem MR(a b:Int)(h:bd a):a.natAbs/b.natAbs≤1099511627776:=Nat.le_trans (Nat.div_le_self _ _) (GL h)
theorem afr{a b:Int}(N:bd a)(U:bd b):ae pE 182 [.i .i64 a,.i .i64 b] []=some (.i .i64 (LY a b),[]):=by
 have h1:=zL N
 have h2:=zL U
 rw[au U6 (by simp[PW])]
 unfold LY
 by_cases D:b=0
 ·subst D
  simp only[qA,seval,PW]
 rw[if_neg D]
 have F:((b.natAbs:Nat):Int)≠0:=yv
 have H:=MR a b N
 have O:Ev.bin .quo (.i .u64 (a.natAbs:Int)) (.i .u64 (b.natAbs:Int))=some (.i .u64 ((a.natAbs/b.natAbs:Nat):Int)):=by
  rw[Kq F]
  have e:(a.natAbs:Int).tdiv (b.natAbs:Int)=((a.natAbs/b.natAbs:Nat):Int):=rfl
  rw[e,mz ⟨Int.natCast_nonneg _,Int.le_trans (Int.ofNat_le.2 H) xW⟩]
 have hr:Ev.bin .rem (.i .u64 (a.natAbs:Int)) (.i .u64 (b.natAbs:Int))=some (.i .u64 ((a.natAbs%b.natAbs:Nat):Int)):=by
  rw[aak F];rfl
 have V:= @Ss a b D
 have I:= @Su a b D
 unfold upN at I
 generalize a.natAbs/b.natAbs=q at*
 generalize a.natAbs%b.natAbs=r at*
 have J: ∀n:Nat,¬(1099511627776:Int)<(n:Int)→wr .i64 (n:Int)=(n:Int):=fun n h=>bj ⟨by omega,by omega⟩
 have K: ∀n:Nat,¬(1099511627776:Int)<(n:Int)→wr .i64 (0-(n:Int))= -(n:Int):=fun n h=>by rw[bj ⟨by omega,by omega⟩];omega
 have W: ¬(1099511627776:Int)<(q:Int):=yv
 have m3:wr .u64 ((q:Int)+1)=((q+1:Nat):Int):=by rw[mz ⟨by omega,by omega⟩];omega
 have X:=J (q+1)
 have Y:=K (q+1)
 have Z:=J q
 have m7:=K q
 simp only[qB,seval,PW,h1,h2,ahn,D,O,hr,kP,bq1,bq2,bq3,bq4,m3]
 clear h1 h2 O hr J K
 unfold bC
 grind (splits:=30)
theorem afs:bd (-1):=by unfold bd;omega
theorem afu{a b:Int}(H:bd a)(W:bd b):ae pE 228 [.i .i64 a,.i .i64 b] []=some (.i .i64 (LY a b),[]):=by
 have N:=Pv H afs
 rw[au ahb (by simp[KZ])]
 unfold LY
 by_cases D:b=0
 ·subst D
  simp only[qA,seval,KZ]
 rw[if_neg D]
 by_cases I:b= -1
 ·subst I
  have e:a.fdiv (-1)=a* -1:=by
   have:=Int.fdiv_neg (a:=a) (b:=1) xW
   rw[if_pos (Int.one_dvd a),Int.fdiv_one]at this
   rw[this];omega
  rw[e]
  simp only[qA,seval,KZ,N,aha]
 have X:= @Int.fdiv_eq_tdiv a b
 have Y:= @Int.dvd_iff_tmod_eq_zero b a
 have O:=Int.natAbs_tdiv_le_natAbs a b
 have U:=GL H
 have F:Ev.bin .quo (.i .i64 a) (.i .i64 b)=some (.i .i64 (a.tdiv b)):=by
  rw[aal D,bj ⟨by omega,by omega⟩]
 have J:=aam (a:=a) D
 have Er:=xH (a.tdiv b)
 have K:=xH (a.tdiv b-1)
 have V:wr .i64 (a.tdiv b-1)=a.tdiv b-1:=bj ⟨by omega,by omega⟩
 generalize a.tdiv b=q at*
 generalize a.tmod b=r at*
 have e1:b<0→b.sign= -1:=Int.sign_eq_neg_one_of_neg
 have e2:0<b→b.sign=1:=Int.sign_eq_one_of_pos
 simp only[qB,seval,KZ,D,I,F,J,Er,K,HY,kP,bq5,bq6,bq7,bq8,V]
 clear Er K F J
 grind (splits:=30)
theorem afv(a b:Int):bd (LY a b):=by
 unfold LY
 split
 ·unfold bd;omega
 ·exact rW _
def bit(n:Int):Prop:=n=0∨n=1
theorem ano{n:Int}(h:bit n):bd n:=by unfold bit at h;unfold bd;omega
theorem Sv(b:Bool):bit (mE b):=by cases b <;> simp[mE,bit]
theorem MS(c f t:Int):ae pE 147 [.i .i64 c,.i .i64 f,.i .i64 t] []=some (.b (dw c f t),[]):=by
 rw[au UO (by simp[PL])]
 unfold dw
 by_cases h1:f≤t
 ·by_cases h2:f≤c <;> by_cases h3:c<t <;> simp only[qA,seval,PL,h1,h2,h3]
 ·by_cases h2:f≤c <;> by_cases h3:c<t <;> simp only[qA,seval,PL,h1,h2,h3,or_true,or_false,or_self]
theorem MT(c f t:Int):ae pE 183 [.i .i64 c,.i .i64 f,.i .i64 t] []=some (.b (dw c f t),[]):=by
 have h:ae pE 173 [.i .i64 c,.i .i64 f,.i .i64 t] []=some (.b (dw c f t),[]):=by
  rw[au U0 (by simp[EJ])]
  unfold dw
  by_cases h1:f≤t
  ·by_cases h2:f≤c <;> by_cases h3:c<t <;> simp only[qA,seval,EJ,h1,h2,h3]
  ·by_cases h2:f≤c <;> by_cases h3:c<t <;> simp only[qA,seval,EJ,h1,h2,h3,or_true,or_false,or_self]
 rw[au U7 (by simp[TO])]
 simp only[qA,seval,TO,h,U1]
theorem Pw(b:Bool):ae pE 178 [.b b] []=some (.i .i64 (mE b),[]):=by
 rw[au U2 (by simp[TN])]
 cases b <;> simp only[qA,seval,TN,mE]
theorem we(b:Bool):ae pE 146 [.b b] []=some (.i .i64 (mE b),[]):=by
 rw[au UN (by simp[TC])]
 cases b <;> simp only[qA,seval,TC,mE]
def MU(op:Int):Int→List Int→Int:=if op=12 then alr else als
theorem Ca(op m v:Int)(r:List Int)(h:op=12∨op=13):MU op m (v::r)=MU op (if op=12 then min m v else max m v) r:=by
 unfold MU
 rcases h with rfl|rfl <;> rfl
theorem GM(op m:Int):MU op m []=m:=by unfold MU;split <;> rfl
theorem aE3(op num:Int)(AI:op=12∨op=13)(r:List Int)(K:0<r.length)(a:T)(H:IsSl a r.length (ints r))(hlen:r.length≤jY)(fr:Fr)(lh:aD ah)(sh:List ah)
  (h0:aa fr 0= .i .i64 op) (h2:aa fr 2=a) (N:aa fr 7= .i .i64 (a0 r)) (O:aa fr 8= .i .i64 1):
  Lp pE 176 tM fr lh sh (.ext 1) fun f l s=>aa f 7= .i .i64 (MU op (a0 r) r.tail)∧l=lh∧s=sh:=by
 refine cV PC (fun k f l s=> ∃m,aa f 7= .i .i64 m∧aa f 8= .i .i64 ((k+1:Nat):Int)∧MU op m (r.drop (k+1))=MU op (a0 r) r.tail∧l=lh∧s=sh) (r.length-1) ⟨_,N,O,by simp,rfl,rfl⟩ ?_ ?_
 ·rintro k f _ _ hk D ⟨m,I,F,hx,rfl,rfl⟩
  have Zj:k+1<r.length:=yv
  have J:((k+1:Nat):Int)<r.length:=yv
  have U:=be (k:=k+1) yv
  rw[List.drop_eq_getElem_cons Zj,Ca _ _ _ _ AI]at hx
  rcases AI with rfl|rfl <;> simp only[qB,seval,gd,tM,D,h0,h2,I,F,H.lenI,J,BQ H Zj,U,kP,bq1,bq2,bq3,bq4] <;> clear D <;> grind
 ·rintro f _ _ D ⟨m,I,F,hx,rfl,rfl⟩
  rw[show r.length-1+1=r.length by omega]at hx F
  rw[List.drop_length,GM]at hx
  simp only[qB,seval,gd,tM,D,h2,I,F,H.lenI,Int.lt_irrefl,hx]
def vOk(op:Int)(r:List Int):Prop:=(∀v∈r,bd v)∧((op=19∨op=20∨op=21∨op=22)→ ∀v∈r,bit v)∧(op=14→bit (a0 r))
theorem RV(op num:Int)(r:List Int)(a:T)(D:IsSl a r.length (ints r))(hl:r.length≤jY)(h1:7≤op)(h2:op≤22)(F:dG op r.length=true)(X:vOk op r):ae pE 107 [.i .i64 op,.i .i64 num,a] []=some (.i .i64 (FH op r),[]):=by
 rw[au UF (by simp[qf])]
 obtain⟨K,Ks,N⟩:=X
 have O: ∀x H,r=x::H→(op=12∨op=13)→uX qf.res qf.eff (DC pE qf.n qf.code ⟨kR [.i .i64 op,.i .i64 num,a],.nil,[]⟩)=some (.i .i64 (MU op (a0 r) r.tail),[]):=by
  rintro x H rfl V
  have W:=fun fr lh sh=>aE3 op num V (x::H) xv a D hl fr lh sh
  obtain⟨ex,rfl⟩:=oc D
  have Y:0<H.length+1:=Nat.succ_pos _
  have Z:a0 (x::H)=x:=rfl
  rw[Z]at W ⊢
  rcases V with rfl|rfl <;> simp only[qA,seval,cO,qf,Y,W]
 have qa:1≤op:=yv
 rcases wb qa h2 with rfl|rfl|rfl|rfl|rfl|rfl|rfl|rfl|rfl|rfl|rfl|rfl|rfl|rfl|rfl|rfl|rfl|rfl|rfl|rfl|rfl|rfl
 all_goals first
  |exact absurd h1 xW
  |(obtain⟨x,y,rfl⟩:=od (by simpa[dG]using F);obtain⟨ex,rfl⟩:=oc D;have hx:=K x xv;have I:=K y xv;simp only[qA,seval,cO,bp,aH,qf,ints,GI hx I,GI hx (tH I),afq hx I,afr hx I,GG I,Pw,agD,atY,atZ,at0,at1,at2,agB,agC];rfl)
  |(match r,F with
     |x::ts,_=>exact O x ts rfl xv)
  |skip
 ·obtain⟨x,rfl⟩:=MM (by simpa[dG]using F)
  obtain⟨ex,rfl⟩:=oc D
  have hx:=K x xv
  have h:=GI (a:=0) (by unfold bd;omega) (tH hx)
  have J:=GG hx
  rw[show(0:Int)+ -x= -x by omega,EB (tH hx)]at h
  simp only[qA,seval,cO,qf,ints,J,h,agD];rfl
 ·obtain⟨x,y,z,rfl⟩:=MN (by simpa[dG]using F)
  obtain⟨ex,rfl⟩:=oc D
  have e:FH 14 [x,y,z]=if x=0 then z else y:=rfl
  rw[e]
  rcases N rfl with hx|hx <;> (change x=_ at hx;subst hx;simp only[qA,seval,cO,qf,ints])
 ·obtain⟨x,y,z,rfl⟩:=MN (by simpa[dG]using F)
  obtain⟨ex,rfl⟩:=oc D
  simp only[qA,seval,cO,bp,aH,qf,ints,MT,Pw,at5,at6,agB,agC];rfl
 ·obtain⟨x,rfl⟩:=MM (by simpa[dG]using F)
  obtain⟨ex,rfl⟩:=oc D
  have U:=Ks xv x xv
  have J:wr .i64 (1-x)=1-x:=by unfold bit at U;exact bj ⟨by omega,by omega⟩
  simp only[qA,seval,cO,qf,ints,J];rfl
 all_goals
  obtain⟨x,y,rfl⟩:=od (by simpa[dG]using F)
  obtain⟨ex,rfl⟩:=oc D
  have U:=Ks xv x xv
  have J:wr .i64 (1-x)=1-x:=by unfold bit at U;exact bj ⟨by omega,by omega⟩
  have e1:FH 20 [x,y]=min x y:=rfl
  have e2:FH 21 [x,y]=max x y:=rfl
  have e3:FH 22 [x,y]=max (1-x) y:=rfl
  simp only[qB,seval,cO,bp,aH,qf,ints,J,e1,e2,e3]
  grind
theorem MV(op a b:Int)(J:vOk op [a,b])(K:op=8∨op=9∨op=10∨op=11∨op=16∨op=17∨op=18∨op=20∨op=21∨op=22):ae pE 149 [.i .i64 op,.i .i64 a,.i .i64 b] []=some (.i .i64 (FH op [a,b]),[]):=by
 rw[au UQ (by simp[tX])]
 obtain⟨H,Ks,_⟩:=J
 have F:=H a xv
 have D:=H b xv
 have r:(op=19∨op=20∨op=21∨op=22)→bit a∧bit b:=fun h=>⟨Ks h a xv,Ks h b xv⟩
 clear H Ks
 rcases K with rfl|rfl|rfl|rfl|rfl|rfl|rfl|rfl|rfl|rfl
 ·have h:=GH F D
  simp only[qA,seval,tX,h,UP];rfl
 ·have h:=GH F (tH D)
  have I:=GG D
  simp only[qA,seval,tX,h,I,UP];rfl
 ·have h:=Pv F D
  simp only[qA,seval,tX,h,aha];rfl
 ·have h:=afu F D
  simp only[qA,seval,tX,h,aun];rfl
 ·have h:=we (decide (a<b))
  simp only[qA,seval,tX,h,M9];rfl
 ·have h:=we (decide (a≤b))
  simp only[qA,seval,tX,h,M9];rfl
 ·have h:=we (decide (a=b))
  simp only[qA,seval,tX,h,M9];rfl
 ·obtain⟨h1,h2⟩:=r xv
  have h:=adG h1 h2
  simp only[qA,seval,tX,h];rfl
 ·obtain⟨h1,h2⟩:=r xv
  have h:=Xx h1 h2
  simp only[qA,seval,tX,h];rfl
 ·obtain⟨h1,h2⟩:=r xv
  have I:wr .i64 (1-a)=1-a:=by unfold bit at h1;exact bj ⟨by omega,by omega⟩
  have h:=Xx (a:=1-a) (b:=b) (by unfold bit at h1;omega) h2
  simp only[qA,seval,tX,I,h];rfl
inductive Fm where
 |mk (op num:Int) (args:List Fm)
def Fm.op:Fm→Int| .mk o _ _=>o
def Fm.num:Fm→Int| .mk _ n _=>n
def Fm.args:Fm→List Fm| .mk _ _ a=>a
mutual
def ja:Fm→List T→Prop
 | .mk op num args,cs=> ∃a r,cs= [.i .i64 op,.i .i64 num,a]∧IsSl a args.length r∧bf args r
def bf:List Fm→List T→Prop
 | [],cs=>cs= []
 |x::xs,cs=> ∃c r,cs=c++r∧ja x c∧bf xs r
end
theorem ja.cells{x:Fm}{cs:List T}(h:ja x cs): ∃a r,cs= [.i .i64 x.op,.i .i64 x.num,a]∧IsSl a x.args.length r∧bf x.args r:=by
 obtain⟨o,n,a⟩:=x
 rw[ja]at h
 exact h
theorem ja.of{x:Fm}{a:T}{r:List T}(h1:IsSl a x.args.length r)(h2:bf x.args r):ja x [.i .i64 x.op,.i .i64 x.num,a]:=by
 obtain⟨o,n,l⟩:=x
 rw[ja]
 exact⟨a,r,rfl,h1,h2⟩
theorem ja.len{x:Fm}{cs:List T}(h:ja x cs):cs.length=3:=by
 obtain⟨a,r,rfl,_⟩:=h.cells;rfl
theorem bf.nil:bf [] []:=by rw[bf]
theorem bf.cons{x:Fm}{xs:List Fm}{c r:List T}(h1:ja x c)(h2:bf xs r):bf (x::xs) (c++r):=by
 grind [bf]
theorem bf.append: ∀{xs D:List Fm} {c r:List T},bf xs c→bf D r→bf (xs++D) (c++r)
 | [],D,c,r,h1,h2=>by grind [bf]
 |x::xs,D,c,r,h1,h2=>by
  rw[bf]at h1
  obtain⟨c1,F,rfl,h3,h4⟩:=h1
  rw[List.append_assoc]
  exact bf.cons h3 (bf.append h4 h2)
theorem bf.one{x:Fm}{c:List T}(h:ja x c):bf [x] c:=by
 have:=bf.cons h bf.nil
 grind
theorem bf.len: ∀{xs:List Fm} {cs:List T},bf xs cs→cs.length=xs.length*3
 | [],cs,h=>by grind [bf]
 |x::xs,cs,h=>by
  rw[bf]at h
  obtain⟨c,r,rfl,h1,h2⟩:=h
  rw[List.length_append,h1.len,h2.len,List.length_cons];omega
theorem bf.drop: ∀{xs:List Fm} {cs:List T} (k:Nat) (hk:k<xs.length),bf xs cs→ ∃c r,cs.drop (k*3)=c++r∧ja xs[k] c∧bf (xs.drop (k+1)) r
 | [],cs,k,hk,h=>by simp at hk
 |x::xs,cs,0,hk,h=>by
  grind [bf]
 |x::xs,cs,k+1,hk,h=>by
  rw[bf]at h
  obtain⟨c,r,rfl,h1,h2⟩:=h
  obtain⟨D,F,e,h3,h4⟩:=bf.drop k (by simpa using hk) h2
  refine⟨D,F, ?_,h3,by simpa using h4⟩
  have:(k+1)*3=c.length+k*3:=by rw[h1.len];omega
  grind [List.drop_append,Nat.add_sub_cancel_left,List.drop_eq_nil_of_le]
theorem aik{xs:List Fm}{a:T}{F:List T}(h1:IsSl a xs.length F)(h2:bf xs F)(k:Nat)(hk:k<xs.length):
  ∃b D r,(∀kk,iaV a (.i kk (k:Int)) 3=some (.vp (.i .i64 xs[k].op:: .i .i64 xs[k].num::b::r)))∧IsSl b xs[k].args.length D∧bf xs[k].args D:=by
 obtain⟨c,r,e,h3,h4⟩:=bf.drop k hk h2
 obtain⟨b,D,rfl,h5,h6⟩:=h3.cells
 refine⟨b,D,r,fun kk=> ?_,h5,h6⟩
 rw[h1.ia (sz:=3) h2.len hk,e];rfl
mutual
def Fm.val(at_:List Int):Fm→Int
 | .mk op num args=>if op=1 then num else if op=6 then at_.getD num.toNat 0 else FH op (eW at_ args)
def eW(at_:List Int):List Fm→List Int
 | []=> []
 |x::xs=>x.val at_::eW at_ xs
end
theorem Fm.val_eq(at_:List Int)(x:Fm):x.val at_=if x.op=1 then x.num else if x.op=6 then at_.getD x.num.toNat 0 else FH x.op (eW at_ x.args):=by obtain⟨_,_,_⟩:=x;rw[Fm.val];rfl
theorem qS(at_:List Int): ∀xs,eW at_ xs=xs.map (Fm.val at_)
 | []=>rfl
 |x::xs=>by rw[eW,qS at_ xs];rfl
mutual
def Hc(at_:List Int):Fm→Prop
 | .mk op num args=>(op=1∧bd num)∨(op=6∧0≤num∧num.toNat<at_.length∧bd (at_.getD num.toNat 0))∨(7≤op∧op≤22∧dG op args.length=true∧args.length≤jY∧Cb at_ args∧vOk op (eW at_ args))
def Cb(at_:List Int):List Fm→Prop
 | []=>True
 |x::xs=>Hc at_ x∧Cb at_ xs
end
theorem GN(at_:List Int)(x:Fm):Hc at_ x↔((x.op=1∧bd x.num)∨(x.op=6∧0≤x.num∧x.num.toNat<at_.length∧bd (at_.getD x.num.toNat 0))∨(7≤x.op∧x.op≤22∧dG x.op x.args.length=true∧x.args.length≤jY∧Cb at_ x.args∧vOk x.op (eW at_ x.args))):=by obtain⟨_,_,_⟩:=x;rw[Hc];rfl
theorem Kt(at_:List Int): ∀{xs:List Fm},Cb at_ xs↔ ∀x∈xs,Hc at_ x
 | []=>by simp[Cb]
 |x::xs=>by simp_all[Cb,Kt]
mutual
def Fm.sz:Fm→Nat
 | .mk _ _ args=>1+tj args
def tj:List Fm→Nat
 | []=>0
 |x::xs=>x.sz+tj xs
end
theorem Fm.sz_eq(x:Fm):x.sz=1+tj x.args:=by obtain⟨_,_,_⟩:=x;rw[Fm.sz];rfl
theorem Bz: ∀{xs:List Fm} {x:Fm},x∈xs→x.sz≤tj xs
 |y::xs,x,h=>by
  rw[tj]
  rcases List.mem_cons.1 h with rfl|h
  ·omega
  ·have:=Bz h;omega
theorem Fm.ind{P:Fm→Prop}(h: ∀x:Fm,(∀y∈x.args,P y)→P x)(x:Fm):P x:=by
 have: ∀n (x:Fm),x.sz≤n→P x:=by
  intro n
  induction n with
  |zero=>intro x hx;rw[x.sz_eq]at hx;omega
  |succ n ih=>
   intro x hx
   refine h x fun y r=>ih y ?_
   have:=Bz r
   rw[x.sz_eq]at hx;omega
 exact this _ x (Nat.le_refl _)
section
variable(at_:List Int)(iA:T)(dh:IsSl iA at_.length (ints at_))
def anp(f:Fm):Prop:= ∀(b:T) (D r:List T),IsSl b f.args.length D→bf f.args D→Hc at_ f→ae pE 83 [.vp (.i .i64 f.op:: .i .i64 f.num::b::r),iA] []=some (.i .i64 (f.val at_),[])
include dh
theorem ayh{xs:List Fm}(ih: ∀y∈xs,anp at_ iA y){a:T}{F:List T}(H:IsSl a xs.length F)(hx:bf xs F)(I:Cb at_ xs)(k:Nat)(hk:k<xs.length)(j:Int)(J:j=(k:Int)):
  ∃c,(∀kk,iaV a (.i kk j) 3=some (.vp c))∧ae pE 83 [.vp c,iA] []=some (.i .i64 (xs[k].val at_),[]):=by
 have _:=dh
 obtain⟨b,K,r,D,h1,h2⟩:=aik H hx k hk
 subst J
 exact⟨_,D,ih xs[k] (List.getElem_mem hk) b K r h1 h2 ((Kt at_).1 I _ (List.getElem_mem hk))⟩
theorem aE5(op num:Int)(AI:op=12∨op=13)(xs:List Fm)(ih: ∀y∈xs,anp at_ iA y)(a:T)(O r:List T)(I:IsSl a xs.length O)(hx:bf xs O)(W:Cb at_ xs)(J:0<xs.length)(hlen:xs.length≤jY)(fr:Fr)(lh:aD ah)(sh:List ah)
  (h0:aa fr 0= .vp (.i .i64 op:: .i .i64 num::a::r)) (h1:aa fr 1=iA) (h5:aa fr 5= .i .i64 (a0 (eW at_ xs))) (h6:aa fr 6= .i .i64 1):
  pT 155 qe fr lh sh (.ext 1)∧
  (aa (mY pE 155 qe fr lh sh) 5= .i .i64 (MU op (a0 (eW at_ xs)) (eW at_ xs).tail)∧im pE 155 qe fr lh sh=lh∧iH pE 155 qe fr lh sh=sh):=by
 refine cj (P:=fun fr X Y=>aa fr 5= .i .i64 (MU op (a0 (eW at_ xs)) (eW at_ xs).tail)∧X=lh∧Y=sh) (cT (fun k st=> ∃(fr:Fr) (m:Int),st=⟨fr,lh,sh⟩∧aa fr 0= .vp (.i .i64 op:: .i .i64 num::a::r)∧aa fr 1=iA∧aa fr 5= .i .i64 m∧aa fr 6= .i .i64 (k:Int)∧MU op m ((eW at_ xs).drop k)=MU op (a0 (eW at_ xs)) (eW at_ xs).tail) _ xs.length ?_ ?_ 1 _ J ⟨fr,a0 (eW at_ xs),rfl,h0,h1,h5,h6,by rw[List.drop_one]⟩)
 ·rintro k _ hk ⟨fr,m,rfl,h0,h1,h5,h6,D⟩
  left
  have F:(k:Int)<xs.length:=yv
  have U:=be (k:=k) yv
  have V:(eW at_ xs).length=xs.length:=by rw[qS];simp
  have K:(eW at_ xs)[k]' yv=xs[k].val at_:=by simp[qS]
  obtain⟨c,H,N⟩:=ayh at_ iA dh ih I hx W k hk (k:Int) rfl
  rw[List.drop_eq_getElem_cons yv,Ca _ _ _ _ AI,K]at D
  generalize xs[k].val at_=v at D N
  rcases AI with rfl|rfl
  ·rw[if_pos rfl,show min m v=(if v<m then v else m)by split <;> omega]at D
   simp only[qA,seval,qe,h0,h1,h5,h6,I.lenI,F,H,U,N,Aj,dh.froz]
   refine⟨_,rfl,_,_,rfl, ?_, ?_, ?_, ?_,D⟩ <;> simp only[qA,seval,h0,h1]
  ·rw[if_neg xW,show max m v=(if v>m then v else m)by split <;> omega]at D
   simp only[qA,seval,qe,h0,h1,h5,h6,I.lenI,F,H,U,N,Aj,dh.froz]
   refine⟨_,rfl,_,_,rfl, ?_, ?_, ?_, ?_,D⟩ <;> simp only[qA,seval,h0,h1]
 ·rintro _ ⟨fr,m,rfl,h0,h1,h5,h6,D⟩
  have V:(eW at_ xs).length=xs.length:=by rw[qS];simp
  rw[←V,List.drop_length,GM]at D
  simp only[qA,seval,qe,h0,h6,I.lenI,Int.lt_irrefl]
  exact⟨_,_,sV,rfl,rfl,by simp only[qA,seval,h5,D],rfl,rfl⟩
theorem Mn(f:Fm):anp at_ iA f:=by
 induction f using Fm.ind with
 |h f ih=>
  intro b cb r hb SQ jb
  rw[au abi (by simp[C7]),Fm.val_eq]
  rcases(GN at_ f).1 jb with⟨h1,_⟩|⟨h6,CH,CI,_⟩|⟨h7,G9,eZ,CZ,ayi,hv⟩
  ·rw[if_pos h1]
   simp only[qA,seval,C7,h1]
  ·rw[if_neg yv,if_pos h6]
   have X:=fun kk=>BQ dh CI kk
   rw[Int.toNat_of_nonneg CH]at X
   have e:at_.getD f.num.toNat 0=at_[f.num.toNat]:=by simp[List.getD_eq_getElem?_getD,List.getElem?_eq_getElem CI]
   rw[e]
   simp only[qA,seval,C7,h6,X]
  ·rw[if_neg yv,if_neg yv]
   have N:eW at_ f.args=f.args.map (Fm.val at_):=qS at_ _
   have D: ∀(k:Nat) (hk:k<f.args.length) (j:Int),j=(k:Int)→ ∃c,(∀kk,iaV b (.i kk j) 3=some (.vp c))∧ae pE 83 [.vp c,iA] []=some (.i .i64 (f.args[k].val at_),[]):=fun k hk j hj=>ayh at_ iA dh (fun y hy=>ih y hy) hb SQ ayi k hk j hj
   have Y:0<f.args.length→(f.op=12∨f.op=13)→uX C7.res C7.eff (DC pE C7.n C7.code ⟨kR [.vp (.i .i64 f.op:: .i .i64 f.num::b::r),iA],.nil,[]⟩)=some (.i .i64 (MU f.op (a0 (eW at_ f.args)) (eW at_ f.args).tail),[]):=by
    intro V ho
    obtain⟨c0,F,Er⟩:=D 0 V 0 rfl
    have hL:=fun fr lh sh=>aE5 at_ iA dh f.op f.num ho f.args (fun y hy=>ih y hy) b cb r hb SQ ayi V CZ fr lh sh
    have H:a0 (eW at_ f.args)=f.args[0].val at_:=by rw[N];unfold a0;simp[List.getD_eq_getElem?_getD,List.getElem?_eq_getElem V]
    rw[H]at hL ⊢
    rcases ho with ho|ho <;> rw[ho]at hL ⊢ <;> simp only[qA,seval,C7,F,Er,Aj,dh.froz,hL]
   have Z: ∀x y:Int,eW at_ f.args= [x,y]→(f.op=8∨f.op=9∨f.op=10∨f.op=11∨f.op=16∨f.op=17∨f.op=18∨f.op=20∨f.op=21∨f.op=22)→uX C7.res C7.eff (DC pE C7.n C7.code ⟨kR [.vp (.i .i64 f.op:: .i .i64 f.num::b::r),iA],.nil,[]⟩)=some (.i .i64 (FH f.op [x,y]),[]):=by
    intro x y GW ho
    have SD:f.args.length=2:=by have:=congrArg List.length GW;rw[N]at this;simpa using this
    obtain⟨c0,F,Er⟩:=D 0 yv 0 rfl
    obtain⟨c1,I,O⟩:=D 1 yv 1 rfl
    have H:f.args[0].val at_=x:=by
     have:(eW at_ f.args)[0]? =some x:=by rw[GW];rfl
     grind
    have e1:f.args[1].val at_=y:=by
     have:(eW at_ f.args)[1]? =some y:=by rw[GW];rfl
     grind
    rw[H]at Er
    rw[e1]at O
    rw[GW]at hv
    have hcb:=MV f.op x y hv ho
    rcases ho with ho|ho|ho|ho|ho|ho|ho|ho|ho|ho <;> rw[ho]at hcb ⊢ <;> simp only[qA,seval,bp,aH,C7,F,I,Er,O,Aj,as9,dh.froz,hcb,atI,atJ]
   have U: ∀(k:Nat) (hk:k<f.args.length),(eW at_ f.args)[k]? =some (f.args[k].val at_):=fun k hk=>by rw[N];simp[List.getElem?_eq_getElem hk]
   rcases wb (show 1≤f.op by omega) G9 with h|h|h|h|h|h|h|h|h|h|h|h|h|h|h|h|h|h|h|h|h|h
   iterate 6 ·omega
   ·have Kz:f.args.length=1:=by rw[h]at eZ;simpa[dG]using eZ
    obtain⟨x,hx⟩:=MM (ts:=eW at_ f.args) (by rw[N];simpa using Kz)
    obtain⟨c0,F,Er⟩:=D 0 yv 0 rfl
    have H:f.args[0].val at_=x:=by have:=U 0 yv;rw[hx]at this;simpa using this.symm
    rw[H]at Er
    rw[hx]at hv ⊢
    have J:=hv.1 x xv
    have ha:=GH (a:=0) (by unfold bd;omega) (tH J)
    have hw:=GG J
    rw[show(0:Int)+ -x= -x by omega,EB (tH J)]at ha
    rw[h]
    simp only[qA,seval,C7,F,Er,Aj,dh.froz,hw,ha,UP];rfl
   ·grind [dG,od,eW]
   ·grind [dG,od,eW]
   ·grind [dG,od,eW]
   ·grind [dG,od,eW]
   ·rw[Y (by rw[h]at eZ;simp[dG]at eZ;omega) yv,h];rfl
   ·rw[Y (by rw[h]at eZ;simp[dG]at eZ;omega) yv,h];rfl
   ·have W:f.args.length=3:=by rw[h]at eZ;simpa[dG]using eZ
    obtain⟨x,y,z,hx⟩:=MN (ts:=eW at_ f.args) (by rw[N];simpa using W)
    obtain⟨c0,F,Er⟩:=D 0 yv 0 rfl
    obtain⟨c1,I,O⟩:=D 1 yv 1 rfl
    obtain⟨c2,BL,K⟩:=D 2 yv 2 rfl
    have H:f.args[0].val at_=x:=by have:=U 0 yv;rw[hx]at this;simpa using this.symm
    have e1:f.args[1].val at_=y:=by have:=U 1 yv;rw[hx]at this;simpa using this.symm
    have e2:f.args[2].val at_=z:=by have:=U 2 yv;rw[hx]at this;simpa using this.symm
    rw[H]at Er
    rw[e1]at O
    rw[e2]at K
    rw[hx,h,show FH 14 [x,y,z]=if x=0 then z else y from rfl]
    by_cases hx0:x=0 <;> simp only[qA,seval,C7,F,I,BL,Er,O,K,Aj,dh.froz,hx0]
   ·have W:f.args.length=3:=by rw[h]at eZ;simpa[dG]using eZ
    obtain⟨x,y,z,hx⟩:=MN (ts:=eW at_ f.args) (by rw[N];simpa using W)
    obtain⟨c0,F,Er⟩:=D 0 yv 0 rfl
    obtain⟨c1,I,O⟩:=D 1 yv 1 rfl
    obtain⟨c2,BL,K⟩:=D 2 yv 2 rfl
    have H:f.args[0].val at_=x:=by have:=U 0 yv;rw[hx]at this;simpa using this.symm
    have e1:f.args[1].val at_=y:=by have:=U 1 yv;rw[hx]at this;simpa using this.symm
    have e2:f.args[2].val at_=z:=by have:=U 2 yv;rw[hx]at this;simpa using this.symm
    rw[H]at Er
    rw[e1]at O
    rw[e2]at K
    rw[hx,h]
    have hi:=MS x y z
    have ht:=we (dw x y z)
    simp only[qA,seval,bp,aH,C7,F,I,BL,Er,O,K,Aj,as9,dh.froz,hi,ht,atG,atH,M9,atF];rfl
   iterate 3
    ·obtain⟨x,y,GW⟩:=od (ts:=eW at_ f.args) (by rw[N];rw[h]at eZ;simpa[dG]using eZ)
     rw[GW];exact Z x y GW yv
   ·have Kz:f.args.length=1:=by rw[h]at eZ;simpa[dG]using eZ
    obtain⟨x,hx⟩:=MM (ts:=eW at_ f.args) (by rw[N];simpa using Kz)
    obtain⟨c0,F,Er⟩:=D 0 yv 0 rfl
    have H:f.args[0].val at_=x:=by have:=U 0 yv;rw[hx]at this;simpa using this.symm
    rw[H]at Er
    rw[hx]at hv ⊢
    have J:=hv.2.1 yv x xv
    have hw:wr .i64 (1-x)=1-x:=by unfold bit at J;exact bj ⟨by omega,by omega⟩
    rw[h]
    simp only[qA,seval,C7,F,Er,Aj,dh.froz,hw];rfl
   iterate 3
    ·obtain⟨x,y,GW⟩:=od (ts:=eW at_ f.args) (by rw[N];rw[h]at eZ;simpa[dG]using eZ)
     rw[GW];exact Z x y GW yv
end
mutual
def Ex.kX:Ex→Int
 | .mk op _ _ args=>if op=1 then 1 else if op=2 then 2 else if op=3 then 3 else if op=7∨op=8∨op=9∨op=12∨op=13 then a0 (kXL args)else if op=14 then a1 (kXL args)
   else if op=10 then max (a0 (kXL args)) (a1 (kXL args))else if op=11 then(if a1 (kXL args)=2 then 1 else a0 (kXL args))else 4
def kXL:List Ex→List Int
 | []=> []
 |x::xs=>x.kX::kXL xs
end
def BM(k n:Int):Prop:=((k=1∨k=2)∧bd n)∨(k=3∧0≤n∧n≤1439)∨(k=4∧bit n)
theorem aao{k n:Int}(h:BM k n):bd n:=by
 rcases h with⟨_,h⟩|⟨_,h1,h2⟩|⟨_,h⟩
 ·exact h
 ·unfold bd;omega
 ·exact ano h
theorem GO{n:Int}(h:BM 4 n):bit n:=by
 rcases h with⟨h|h,_⟩|⟨h,_⟩|⟨_,h⟩
 ·omega
 ·omega
 ·omega
 ·exact h
theorem xI{k n:Int}(h:k=1∨k=2)(r:bd n):BM k n:= .inl ⟨h,r⟩
def nc:List Nat→Int×Int:=fun _=>(0,6)
def FK(scope k:Int)(y:Ex):Prop:=y.wf=true∧y.ty nc scope=(k,0)
theorem FK.node{scope k:Int}{y:Ex}(h:FK scope k y):1≤y.op∧y.op≤22∧dG y.op y.args.length=true∧(0≤y.num∧y.num≤DW y.op)∧(if y.op=6 then FE y.name=true else y.name= [])∧FF y.args=true:=by
 have:=h.1
 simp_all[Ex.wf_eq,Bool.and_eq_true,qC]
def S5(scope:Int):List Int→List Ex→Prop
 | [],[]=>True
 |t::ts,y::r=>FK scope t y∧S5 scope ts r
 |_,_=>False
theorem S5.len{scope:Int}: ∀{ts:List Int} {r:List Ex},S5 scope ts r→ts.length=r.length
 | [],[],_=>rfl
 |t::ts,y::r,h=>by rw[List.length_cons,List.length_cons,S5.len h.2]
theorem S5.wf{scope:Int}: ∀{ts:List Int} {r:List Ex},S5 scope ts r→FF r=true
 | [],[],_=>rfl
 |t::ts,y::r,h=>by rw[FF,h.1.1,S5.wf h.2];rfl
theorem S5.ty{scope:Int}: ∀{ts:List Int} {r:List Ex},S5 scope ts r→kK nc scope r= .ok ts
 | [],[],_=>by rw[kK]
 |t::ts,y::r,h=>by
  rw[kK,h.1.2,S5.ty h.2];rfl
theorem FK.mk{scope k:Int}{op:Int}{D:List Ex}{ts:List Int}(h1:1≤op)(h2:op≤22)(h6:op≠6)(F:dG op D.length=true)(r:S5 scope ts D)(hr:lQ op ts=k)(hk:k≠0):FK scope k (.mk op 0 [] D):=by
 constructor
 ·rw[Ex.wf_eq,Bool.and_eq_true]
  refine⟨?_,r.wf⟩
  have H:0≤DW op:=by unfold DW;split <;> (try split) <;> decide
  simp only[qC,Bool.and_eq_true,decide_eq_true_eq]
  refine⟨h1,h2,F,⟨Int.le_refl _,H⟩, ?_⟩
  show(if op=6 then FE []else decide (([]:List Nat)= []))=true
  grind
 ·rw[Ex.ty_eq]
  show(if op=6 then _ else match kK nc scope D with| .error e=>(0,e)| .ok ts=>if lQ op ts=0 then(0,9)else(lQ op ts,0))=(k,0)
  rw[if_neg h6,r.ty]
  grind
theorem FK.leaf{scope k op num:Int}(h:(op=1∧k=1∧0≤num∧num≤1099511627776)∨(op=2∧k=2∧0≤num∧num≤1099511627776)∨(op=3∧k=3∧0≤num∧num≤1439)∨(op=4∧k=4∧num=0)∨(op=5∧k=4∧num=0)):FK scope k (hZ op num):=by
 have r:(hZ op num).wf=qC op num [] 0:=by rw[Ex.wf_eq];simp[hZ,Ex.op,Ex.num,Ex.name,Ex.args,FF]
 have D:op≠6→(hZ op num).ty nc scope=if lQ op []=0 then(0,9)else(lQ op [],0):=fun h6=>by
  grind [Ex.ty_eq,hZ,Ex.op,Ex.args,kK]
 constructor
 ·rw[r]
  simp only[qC,Bool.and_eq_true,decide_eq_true_eq]
  rcases h with⟨rfl,rfl,h1,h2⟩|⟨rfl,rfl,h1,h2⟩|⟨rfl,rfl,h1,h2⟩|⟨rfl,rfl,rfl⟩|⟨rfl,rfl,rfl⟩
  ·exact⟨by decide,by decide,rfl,⟨h1,h2⟩,rfl⟩
  ·exact⟨by decide,by decide,rfl,⟨h1,h2⟩,rfl⟩
  ·exact⟨by decide,by decide,rfl,⟨h1,h2⟩,rfl⟩
  ·exact⟨by decide,by decide,rfl,⟨by decide,by decide⟩,rfl⟩
  ·exact⟨by decide,by decide,rfl,⟨by decide,by decide⟩,rfl⟩
 ·rcases h with⟨rfl,rfl,h1,h2⟩|⟨rfl,rfl,h1,h2⟩|⟨rfl,rfl,h1,h2⟩|⟨rfl,rfl,rfl⟩|⟨rfl,rfl,rfl⟩ <;> rw[D xW] <;> rfl
theorem GP{scope k n:Int}(h:BM k n):FK scope k (r9 k n)∧isLit (r9 k n)=true∧adS (r9 k n)=n:=by
 unfold r9
 rcases h with⟨hk,hb⟩|⟨rfl,h1,h2⟩|⟨rfl,hb⟩
 ·have h4:k≠4:=yv
  have h3:k≠3:=yv
  rw[if_neg h4,if_neg h3]
  unfold bd at hb
  by_cases h0:n<0
  ·rw[if_pos h0]
   rcases hk with rfl|rfl
   ·refine⟨FK.mk (ts:= [1]) xW xW xW rfl ⟨FK.leaf (.inl ⟨rfl,rfl,by omega,by omega⟩),trivial⟩ rfl xW,rfl, ?_⟩
    show- -n=n;omega
   ·refine⟨FK.mk (ts:= [2]) xW xW xW rfl ⟨FK.leaf (.inr (.inl ⟨rfl,rfl,by omega,by omega⟩)),trivial⟩ rfl xW,rfl, ?_⟩
    show- -n=n;omega
  ·rw[if_neg h0]
   rcases hk with rfl|rfl
   ·exact⟨FK.leaf (.inl ⟨rfl,rfl,by omega,by omega⟩),rfl,rfl⟩
   ·exact⟨FK.leaf (.inr (.inl ⟨rfl,rfl,by omega,by omega⟩)),rfl,rfl⟩
 ·rw[if_neg xW,if_pos rfl]
  exact⟨FK.leaf (.inr (.inr (.inl ⟨rfl,rfl,h1,h2⟩))),rfl,rfl⟩
 ·rw[if_pos rfl]
  rcases hb with rfl|rfl
  ·exact⟨FK.leaf (.inr (.inr (.inr (.inr ⟨rfl,rfl,rfl⟩)))),rfl,rfl⟩
  ·exact⟨FK.leaf (.inr (.inr (.inr (.inl ⟨rfl,rfl,rfl⟩)))),rfl,rfl⟩
theorem GQ{cl:List Nat→Int×Int}{scope:Int}: ∀{xs:List Ex} {e:Int},kK cl scope xs= .error e→e≠0
 | [],e,h=>by grind [kK]
 |x::xs,e,h=>by
  rw[kK]at h
  split at h
  ·grind
  ·cases hx:kK cl scope xs with
   |error r=>rw[hx]at h;cases h;exact GQ hx
   |ok us=>grind
theorem FK.arg{scope k:Int}{y:Ex}(h:FK scope k y)(h6:y.op≠6): ∃ts,S5 scope ts y.args∧lQ y.op ts=k∧k≠0:=by
 obtain⟨h1,h2,I,C0,J,H⟩:=h.node
 have r:=h.2
 rw[Ex.ty_eq,if_neg h6]at r
 cases hr:kK nc scope y.args with
 |error e=>
  rw[hr]at r
  have D:((0:Int),e)=(k,0):=r
  injection D with _ h0
  exact absurd h0 (GQ hr)
 |ok ts=>
  rw[hr]at r
  have D:(if lQ y.op ts=0 then((0:Int),(9:Int))else(lQ y.op ts,0))=(k,0):=r
  split at D
  ·cases D
  ·rename_i F
   have e1:lQ y.op ts=k:=by injection D
   refine⟨ts, ?_,e1,by rw[←e1];exact F⟩
   clear r D e1 F I C0 J h1 h2 h
   generalize y.args=ys at hr H
   induction ys generalizing ts with
   |nil=>rw[kK]at hr;cases hr;trivial
   |cons z K ih=>
    rw[FF,Bool.and_eq_true]at H
    rw[kK]at hr
    split at hr
    ·cases hr
    ·rename_i h0
     cases hx:kK nc scope K with
     |error e=>rw[hx]at hr;cases hr
     |ok us=>
      rw[hx]at hr;cases hr
      refine⟨⟨H.1, ?_⟩,ih us hx H.2⟩
      have e2:(z.ty nc scope).2=0:=by simpa using h0
      rw[←e2]
def wg:List Int→List Int→Prop
 | [],[]=>True
 |t::ts,v::r=>BM t v∧wg ts r
 |_,_=>False
theorem wg.len: ∀{ts r:List Int},wg ts r→ts.length=r.length
 | [],[],_=>rfl
 |t::ts,v::r,h=>by rw[List.length_cons,List.length_cons,wg.len h.2]
theorem wg.bd: ∀{ts r:List Int},wg ts r→ ∀v∈r,bd v
 | [],[],_=>by simp
 |t::ts,v::r,h=>by
  intro w hw
  rcases List.mem_cons.1 hw with rfl|hw
  ·exact aao h.1
  ·exact wg.bd h.2 w hw
theorem wg.all{k:Int}: ∀{ts r:List Int},wg ts r→iE ts k=true→ ∀v∈r,BM k v
 | [],[],_,_=>by simp
 |t::ts,v::r,h,D=>by
  rw[oe,Bool.and_eq_true,decide_eq_true_eq]at D
  intro w hw
  rcases List.mem_cons.1 hw with rfl|hw
  ·rw[←D.1];exact h.1
  ·exact wg.all h.2 D.2 w hw
theorem MW(op:Int)(h:op=12∨op=13): ∀(r:List Int) (m:Int),bd m→(∀v∈r,bd v)→bd (MU op m r)
 | [],m,D,_=>by rw[GM];exact D
 |v::r,m,D,F=>by
  rw[Ca _ _ _ _ h]
  refine MW op h r _ ?_ (fun w H=>F w (by simp[H]))
  grind
theorem k12{ts:List Int}{k:Int}(h:(if iE ts 1=true then(1:Int)else if iE ts 2=true then 2 else 0)=k)(hk:k≠0):k=1∨k=2:=by
 grind
theorem Ku{op a b k:Int}(h:I3 op a b=k)(hk:k≠0):k=1∨k=2:=by
 grind [I3]
theorem Zl{op k:Int}{ts F:List Int}(K:wg ts F)(W:7≤op)(G9:op≤22)(I:dG op ts.length=true)(hr:lQ op ts=k)(hk:k≠0):vOk op F∧BM k (FH op F):=by
 have D:=K.bd
 have hlen:=K.len
 have H: ∀b:Bool,BM 4 (mE b):=fun b=> .inr (.inr ⟨rfl,Sv b⟩)
 rcases wb (show 1≤op by omega) G9 with rfl|rfl|rfl|rfl|rfl|rfl|rfl|rfl|rfl|rfl|rfl|rfl|rfl|rfl|rfl|rfl|rfl|rfl|rfl|rfl|rfl|rfl
 iterate 6 ·omega
 ·have S3:=k12 hr hk
  obtain⟨v,rfl⟩:=MM (ts:=F) (by rw[←hlen];simpa[dG]using I)
  exact⟨⟨D,fun h=>absurd h xW,fun h=>absurd h xW⟩,xI S3 (tH (D v xv))⟩
 ·have S3:=k12 hr hk
  obtain⟨v,w,rfl⟩:=od (ts:=F) (by rw[←hlen];simpa[dG]using I)
  exact⟨⟨D,fun h=>absurd h xW,fun h=>absurd h xW⟩,xI S3 (rW _)⟩
 ·have S3:=k12 hr hk
  obtain⟨v,w,rfl⟩:=od (ts:=F) (by rw[←hlen];simpa[dG]using I)
  exact⟨⟨D,fun h=>absurd h xW,fun h=>absurd h xW⟩,xI S3 (rW _)⟩
 ·have S3:=Ku (op:=10) hr hk
  obtain⟨v,w,rfl⟩:=od (ts:=F) (by rw[←hlen];simpa[dG]using I)
  exact⟨⟨D,fun h=>absurd h xW,fun h=>absurd h xW⟩,xI S3 (rW _)⟩
 ·have S3:=Ku (op:=11) hr hk
  obtain⟨v,w,rfl⟩:=od (ts:=F) (by rw[←hlen];simpa[dG]using I)
  exact⟨⟨D,fun h=>absurd h xW,fun h=>absurd h xW⟩,xI S3 (afv _ _)⟩
 iterate 2
  ·have S3:=k12 hr hk
   match F,D,hlen with
   | [],_,hlen=>rw[hlen]at I;simp[dG]at I
   |v::F,D,_=>
    refine⟨⟨D,fun h=>absurd h xW,fun h=>absurd h xW⟩,xI S3 ?_⟩
    first
     |exact MW 12 (.inl rfl) F v (D v xv) (fun w O=>D w (by simp[O]))
     |exact MW 13 (.inr rfl) F v (D v xv) (fun w O=>D w (by simp[O]))
 ·obtain⟨a,b,c,rfl⟩:=MN (ts:=ts) (by simpa[dG]using I)
  obtain⟨x,y,z,rfl⟩:=MN (ts:=F) (by rw[←hlen];rfl)
  obtain⟨h1,h2,h3,_⟩:=K
  have r:(if a=4∧b=c then b else 0)=k:=hr
  split at r
  ·rename_i U
   obtain⟨rfl,rfl⟩:=U
   subst r
   have Ks:=GO h1
   refine⟨⟨D,fun h=>absurd h xW,fun _=>Ks⟩, ?_⟩
   show BM b (if x=0 then z else y)
   split
   ·exact h3
   ·exact h2
  ·exact absurd r.symm hk
 ·have r:(if iE ts 3=true then(4:Int)else 0)=k:=hr
  split at r
  ·subst r
   exact⟨⟨D,fun h=>absurd h xW,fun h=>absurd h xW⟩,H _⟩
  ·exact absurd r.symm hk
 iterate 2
  ·have r:(if(a0 ts=1∨a0 ts=2)∧a0 ts=a1 ts then(4:Int)else 0)=k:=hr
   split at r
   ·subst r
    exact⟨⟨D,fun h=>absurd h xW,fun h=>absurd h xW⟩,H _⟩
   ·exact absurd r.symm hk
 ·have r:(if a0 ts=a1 ts then(4:Int)else 0)=k:=hr
  split at r
  ·subst r
   exact⟨⟨D,fun h=>absurd h xW,fun h=>absurd h xW⟩,H _⟩
  ·exact absurd r.symm hk
 ·have r:(if iE ts 4=true then(4:Int)else 0)=k:=hr
  split at r
  ·rename_i V
   subst r
   have J:=fun v N=>GO (K.all V v N)
   obtain⟨v,rfl⟩:=MM (ts:=F) (by rw[←hlen];simpa[dG]using I)
   have N:=J v xv
   refine⟨⟨D,fun _=>J,fun h=>absurd h xW⟩,.inr (.inr ⟨rfl, ?_⟩)⟩
   show bit (1-v)
   unfold bit at *; omega
  ·exact absurd r.symm hk
 iterate 3
  ·have r:(if iE ts 4=true then(4:Int)else 0)=k:=hr
   split at r
   ·rename_i V
    subst r
    have J:=fun v N=>GO (K.all V v N)
    obtain⟨v,w,rfl⟩:=od (ts:=F) (by rw[←hlen];simpa[dG]using I)
    have N:=J v xv
    have O:=J w xv
    refine⟨⟨D,fun _=>J,fun h=>absurd h xW⟩,.inr (.inr ⟨rfl, ?_⟩)⟩
    first
     |(show bit (min v w);unfold bit at *; omega)
     |(show bit (max v w);unfold bit at *; omega)
     |(show bit (max (1-v) w);unfold bit at *; omega)
   ·exact absurd r.symm hk
theorem FK.not{scope k:Int}{y:Ex}(h:FK scope k y)(Bu:y.op=19):k=4∧FK scope 4 (y.args.headD (hZ 0 0)):=by
 obtain⟨_,_,F,_⟩:=h.node
 obtain⟨ts,r,hr,hk⟩:=h.arg yv
 have hlen:y.args.length=1:=by rw[Bu]at F;simpa[dG]using F
 rw[Bu]at hr
 have H:(if iE ts 4=true then(4:Int)else 0)=k:=hr
 split at H
 ·rename_i D
  refine⟨H.symm, ?_⟩
  generalize y.args=l at r hlen
  match l,ts,r,hlen,D with
  | [z],[t],r,_,D=>
    rw[oe,Bool.and_eq_true,decide_eq_true_eq]at D
    rw[←D.1];exact r.1
 ·grind
theorem Ex.fold_eq(cl:List Nat→Int×Int)(cx:List Nat→Ex)(scope:Int)(x:Ex):x.fold cl cx scope=
  if x.op=6 then(if dB scope x.name≠0 then x else cx x.name)
  else if x.args.isEmpty then x
  else if(mF cl cx scope x.args).all isLit then r9 (x.ty cl scope).1 (FH x.op ((mF cl cx scope x.args).map adS))
  else awD x.op (mF cl cx scope x.args):=by obtain⟨_,_,_,_⟩:=x;rw[Ex.fold];rfl
theorem vS{cl:List Nat→Int×Int}{scope k:Int}{x:Ex}(r:x.ty cl scope=(k,0))(h6:x.op≠6): ∃ts,kK cl scope x.args= .ok ts∧lQ x.op ts=k∧k≠0:=by
 rw[Ex.ty_eq,if_neg h6]at r
 cases hr:kK cl scope x.args with
 |error e=>
  rw[hr]at r
  have D:((0:Int),e)=(k,0):=r
  injection D with _ h0
  exact absurd h0 (GQ hr)
 |ok ts=>
  grind
theorem oh{cl:List Nat→Int×Int}{scope:Int}{x:Ex}{xs:List Ex}{ts:List Int}(h:kK cl scope (x::xs)= .ok ts): ∃t us,ts=t::us∧x.ty cl scope=(t,0)∧kK cl scope xs= .ok us:=by
 grind [kK]
theorem vQ{x:Ex}(h:x.wf=true):1≤x.op∧x.op≤22∧dG x.op x.args.length=true∧(0≤x.num∧x.num≤DW x.op)∧(if x.op=6 then FE x.name=true else x.name= [])∧FF x.args=true:=by
 simp_all[Ex.wf_eq,Bool.and_eq_true,qC]
theorem anr{op:Int}{n:Nat}(h1:1≤op)(r:dG op n=true)(D:n≠0):7≤op:=by
 grind [dG]
theorem afx{op:Int}{n:Nat}(h2:op≤22)(r:dG op n=true)(D:n=0):op≤6:=by
 grind [dG]
mutual
def Ex.val0(r:List Nat→Int):Ex→Int
 | .mk op num name args=>if op=6 then r name else if op=1∨op=2∨op=3 then num else if op=4 then 1 else if op=5 then 0 else FH op (fE r args)
def fE(r:List Nat→Int):List Ex→List Int
 | []=> []
 |x::xs=>x.val0 r::fE r xs
end
theorem Ex.val0_eq(r:List Nat→Int)(x:Ex):x.val0 r=if x.op=6 then r x.name else if x.op=1∨x.op=2∨x.op=3 then x.num else if x.op=4 then 1 else if x.op=5 then 0 else FH x.op (fE r x.args):=by obtain⟨_,_,_,_⟩:=x;rw[Ex.val0];rfl
theorem xx(r:List Nat→Int): ∀xs,fE r xs=xs.map (Ex.val0 r)
 | []=>rfl
 |x::xs=>by rw[fE,xx r xs];rfl
def cxv(cl:List Nat→Int×Int)(r:List Nat→Int)(s:List Nat):Ex:=r9 (cl s).1 (r s)
def Mm(cl:List Nat→Int×Int)(r:List Nat→Int):Prop:= ∀s t,cl s=(t,0)→BM t (r s)
theorem aap{cl:List Nat→Int×Int}{scope:Int}{x:Ex}{k:Int}(I:x.wf=true)(D:x.ty cl scope=(k,0))(h6:x.op≠6)(r:x.args= []):x=r9 k (if x.op=1∨x.op=2∨x.op=3 then x.num else if x.op=4 then 1 else 0)∧BM k (if x.op=1∨x.op=2∨x.op=3 then x.num else if x.op=4 then 1 else 0)∧x.op≤5:=by
 obtain⟨h1,h2,J,C0,H,K⟩:=vQ I
 have h5:x.op≤6:=afx h2 J (by rw[r];rfl)
 rw[Ex.ty_eq,if_neg h6,r,kK]at D
 rw[if_neg h6]at H
 obtain⟨op,num,name,args⟩:=x
 simp only[Ex.op,Ex.num,Ex.name,Ex.args]at*
 subst H r
 have F:op=1∨op=2∨op=3∨op=4∨op=5:=yv
 rcases F with rfl|rfl|rfl|rfl|rfl
 all_goals
  simp[lQ]at D
  subst D
  simp[DW]at C0
 ·refine⟨?_,.inl ⟨.inl rfl, ?_⟩,by decide⟩
  ·simp[r9,hZ];omega
  ·simp[bd];omega
 ·refine⟨?_,.inl ⟨.inr rfl, ?_⟩,by decide⟩
  ·simp[r9,hZ];omega
  ·simp[bd];omega
 ·refine⟨?_,.inr (.inl ⟨rfl, ?_⟩),by decide⟩
  ·simp[r9,hZ]
  ·simpa using C0
 ·refine⟨?_,.inr (.inr ⟨rfl,.inr rfl⟩),by decide⟩
  simp[r9,hZ];omega
 ·refine⟨?_,.inr (.inr ⟨rfl,.inl rfl⟩),by decide⟩
  simp[r9,hZ];omega
theorem Kv{cl:List Nat→Int×Int}{D:List Nat→Int}(hc:Mm cl D)(scope:Int)(U: ∀s,dB scope s=0)(x:Ex): ∀k,x.wf=true→x.ty cl scope=(k,0)→x.fold cl (cxv cl D) scope=r9 k (x.val0 D)∧BM k (x.val0 D):=by
 induction x using Ex.ind with
 |h x ih=>
  intro k V F
  obtain⟨h1,h2,J,C0,X,I⟩:=vQ V
  rw[Ex.fold_eq,Ex.val0_eq]
  by_cases h6:x.op=6
  ·rw[if_pos h6,if_pos h6]
   rw[Ex.ty_eq,if_pos h6,if_neg (by simp[U])]at F
   rw[if_neg (by simp[U])]
   exact⟨by unfold cxv;rw[F],hc _ _ F⟩
  rw[if_neg h6,if_neg h6]
  by_cases K:x.args.isEmpty=true
  ·grind [aap]
  ·rw[if_neg K]
   have H:x.args.length≠0:=by
    intro h;exact K (by simp[List.length_eq_zero_iff.1 h])
   have Y:=anr h1 J H
   obtain⟨ts,r,hr,hk⟩:=vS F h6
   have N:wg ts (fE D x.args)∧(mF cl (cxv cl D) scope x.args).all isLit=true∧(mF cl (cxv cl D) scope x.args).map adS=fE D x.args:=by
    clear F J H K hr V C0 X
    generalize x.args=xs at ih r I
    induction xs generalizing ts with
    |nil=>rw[kK]at r;cases r;exact⟨trivial,rfl,rfl⟩
    |cons z zs O=>
     obtain⟨t,us,rfl,e1,e2⟩:=oh r
     rw[FF,Bool.and_eq_true]at I
     obtain⟨Z,W⟩:=ih z xv t I.1 e1
     obtain⟨g1,g2,g3⟩:=O us (fun y hy=>ih y (by simp[hy])) e2 I.2
     rw[mF,fE,Z]
     obtain⟨_,q1,q2⟩:=GP (scope:=scope) W
     refine⟨⟨W,g1⟩, ?_, ?_⟩
     ·rw[List.all_cons,q1,g2];rfl
     ·rw[List.map_cons,q2,g3]
   obtain⟨i1,i2,i3⟩:=N
   have hlen:ts.length=x.args.length:=vU r
   rw[if_pos i2,i3,F,if_neg yv,if_neg yv,if_neg yv]
   exact⟨rfl,(Zl i1 Y h2 (by rw[hlen];exact J) hr hk).2⟩
def vxk(l:Cs)(r:List Int)(s:List Nat):Int:=match fj l s with
 |none=>0
 |some i=>r.getD i 0
def sF(l:Cs):Nat→List Int
 |0=> []
 |n+1=>sF l n++ [if(FG (l.take n) (iX l n) (l.getD n ([],.mk 0 0 [] [])).2).2=0 then(l.getD n ([],.mk 0 0 [] [])).2.val0 (vxk (l.take n) (sF l n))else 0]
theorem lp(l:Cs): ∀n,(sF l n).length=n
 |0=>rfl
 |n+1=>by rw[sF,List.length_append,lp l n];rfl
theorem aaq(l:Cs){n:Nat}(h:n<l.length):sF l (n+1)=sF l n++ [if(FG (l.take n) (iX l n) l[n].2).2=0 then l[n].2.val0 (vxk (l.take n) (sF l n))else 0]:=by
 rw[sF,List.getD_eq_getElem?_getD,List.getElem?_eq_getElem h];rfl
theorem Px(l:Cs)(n:Nat): ∀k,∃r,sF l (n+k)=sF l n++r
 |0=>⟨[],by simp⟩
 |k+1=>by
  obtain⟨r,h⟩:=Px l n k
  grind [Nat.add_assoc,sF]
theorem Py(l:Cs){n i:Nat}(D:n≤l.length)(hi:i<n):(sF l n).getD i 0=(sF l l.length).getD i 0:=by
 obtain⟨r,h⟩:=Px l n (l.length-n)
 grind [lp,hi]
def CL(l:Cs)(n:Nat):List Nat→Int×Int:=clk (l.take n) (iX l n)
def VX(l:Cs)(n:Nat):List Nat→Int:=vxk (l.take n) (sF l n)
def FR(l:Cs):List Nat→Int×Int:=clk l (iX l l.length)
def fC(l:Cs):List Nat→Int:=vxk l (sF l l.length)
theorem xp(l:Cs):CL l l.length=FR l:=by grind [CL,FR]
theorem Zi(l:Cs):VX l l.length=fC l:=by grind [VX,fC]
theorem vR{l:Cs}{n:Nat}(J:n≤l.length){s:List Nat}{t:Int}(h:CL l n s=(t,0)): ∃i,∃hi:i<l.length,i<n∧fj l s=some i∧bL l[i].2=0∧l[i].2.ty (CL l i) 0=(t,0)∧FR l s=(t,0)∧VX l n s=l[i].2.val0 (VX l i)∧fC l s=l[i].2.val0 (VX l i)∧sa l i=(t,0):=by
 unfold CL clk at h
 rw[xD]at h
 cases D:fj l s with
 |none=>grind
 |some i=>
  rw[D]at h
  simp only at h
  by_cases hi:i<n
  ·rw[if_pos hi]at h
   simp only at h
   have H:i<l.length:=Pq D
   rw[B8 l J hi]at h
   have r:sa l i=(t,0):=h
   have I:=r
   rw[FN l H]at r
   have CC:=r
   unfold FG at r
   by_cases F:bL l[i].2≠0
   ·rw[if_pos F]at r;injection r with _ r;exact absurd r F
   ·rw[if_neg F]at r
    have K:(sF l l.length).getD i 0=l[i].2.val0 (VX l i):=by
     rw[←Py l (n:=i+1) yv yv,aaq l H,List.getD_eq_getElem?_getD,List.getElem?_append_right (by rw[lp];omega),lp,Nat.sub_self,CC]
     rfl
    refine⟨i,H,hi,rfl,by simpa using F,r, ?_, ?_, ?_,I⟩
    ·unfold FR clk;rw[D];exact h
    ·unfold VX vxk
     rw[xD,D]
     simp only[if_pos hi]
     rw[Py l J hi,K];rfl
    ·unfold fC vxk;rw[D];exact K
  ·grind
theorem jL(s:List Nat):dB 0 s=0:=by unfold dB;rfl
theorem aiS(l:Cs): ∀n,n≤l.length→Mm (CL l n) (VX l n):=by
 intro n
 induction n using Nat.strongRecOn with
 |ind n ih=>
  intro r s t hs
  obtain⟨i,H,hi,_,D,F,_,e,_⟩:=vR r hs
  rw[e]
  exact(Kv (ih i hi yv) 0 (fun s=>jL s) l[i].2 t (ic D) F).2
theorem F6(l:Cs):Mm (FR l) (fC l):=by
 have:=aiS l l.length (Nat.le_refl _)
 rwa [xp,Zi]at this
theorem fold_congr{cl FL:List Nat→Int×Int}{cx D:List Nat→Ex}(scope:Int)(hc: ∀s t,cl s=(t,0)→FL s=(t,0)∧D s=cx s)(x:Ex): ∀k,x.ty cl scope=(k,0)→x.ty FL scope=(k,0)∧x.fold FL D scope=x.fold cl cx scope:=by
 induction x using Ex.ind with
 |h x ih=>
  intro k H
  by_cases h6:x.op=6
  ·grind [Ex.ty_eq,Ex.fold_eq]
  ·obtain⟨ts,r,hr,hk⟩:=vS H h6
   have hl:kK FL scope x.args= .ok ts∧mF FL D scope x.args=mF cl cx scope x.args:=by
    clear H hr
    generalize x.args=xs at ih r
    induction xs generalizing ts with
    |nil=>rw[kK]at r;cases r;exact⟨rfl,rfl⟩
    |cons z U F=>
     obtain⟨t,us,rfl,e1,e2⟩:=oh r
     obtain⟨I,J⟩:=ih z xv t e1
     obtain⟨K,N⟩:=F us (fun y O=>ih y (by simp[O])) e2
     rw[kK,mF,mF,I,K,J,N]
     exact⟨rfl,rfl⟩
   grind [Ex.ty_eq,Ex.fold_eq]
theorem ayn{l:Cs}{n:Nat}(r:n≤l.length): ∀s t,CL l n s=(t,0)→FR l s=(t,0)∧cxv (FR l) (fC l) s=cxv (CL l n) (VX l n) s:=fun s t hs=>by
 grind [cxv,vR]
def aar(l:Cs)(scope:Int)(x:Ex):Ex:=x.fold (FR l) (cxv (FR l) (fC l)) scope
theorem Kw{l:Cs}{s:List Nat}{t:Int}(h:FR l s=(t,0)): ∃i,∃hi:i<l.length,fj l s=some i∧bL l[i].2=0∧l[i].2.ty (CL l i) 0=(t,0)∧l[i].2.ty (FR l) 0=(t,0)∧aar l 0 l[i].2=r9 t (fC l s)∧BM t (fC l s)∧sa l i=(t,0)∧fC l s=(sF l l.length).getD i 0:=by
 have F:=h
 rw[←xp]at F
 obtain⟨i,r,hi,H,I,D,J,e1,e2,e3⟩:=vR (Nat.le_refl _) F
 obtain⟨c1,c2⟩:=fold_congr 0 (ayn (Nat.le_of_lt r)) l[i].2 t D
 refine⟨i,r,H,I,D,c1, ?_,F6 l s t h,e3, ?_⟩
 ·unfold aar
  rw[c2,(Kv (aiS l i (Nat.le_of_lt r)) 0 (fun s=>jL s) l[i].2 t (ic I) D).1,e2]
 ·unfold fC vxk;rw[H]
def dJ(ns:List (List Nat))(i:Nat):List (List Nat×Nat):=(ns.take i).zipIdx
theorem aas{ns:List (List Nat)}{i:Nat}(hi:i<ns.length):dJ ns (i+1)=dJ ns i++ [(ns[i],i)]:=by
 unfold dJ
 rw[List.take_succ_eq_append_getElem hi,List.zipIdx_append]
 simp[List.length_take,Nat.min_eq_left (Nat.le_of_lt hi)]
theorem aat{ns:List (List Nat)}(D:ns.Nodup){i:Nat}(hi:i<ns.length):aM (dJ ns i) ns[i]=none:=by
 have F: ∀(m:List (List Nat×Nat)) (s:List Nat),(∀p∈m,p.1≠s)→aM m s=none:=by
  intro m s h
  induction m with
  |nil=>rfl
  |cons p m ih=>
   rw[aM,if_neg (fun e=>h p (List.mem_cons_self ..) e.symm)]
   exact ih fun q I=>h q (List.mem_cons_of_mem _ I)
 refine F _ _ fun p J e=> ?_
 have H:p.1∈ns.take i:=List.fst_mem_of_mem_zipIdx J
 rw[e]at H
 obtain⟨j,K,r⟩:=List.getElem_of_mem H
 rw[List.length_take]at K
 rw[List.getElem_take]at r
 exact List.pairwise_iff_getElem.1 D j i yv hi yv r
def kl(lT:T)(m:List (List Nat×Nat))(kn:List (Nat×Int))(c0 c1 c2 c3:T)(ms:List (List (List Nat×Nat))):List ah:=
 ⟨1,.map (m.map fun p=>sK p.1) (m.map fun p=>nK p.2) false⟩::⟨1,.map (kn.map fun p=>nK p.1) (kn.map fun p=>iV p.2) false⟩::⟨1,.cells [lT,.mp .S 0 1,.mp .S 1 1,c0,c1,c2,c3] 0 true⟩::ms.map fun p=>⟨1,.map (p.map fun p=>sK p.1) (p.map fun p=>nK p.2) false⟩
section
variable(lT:T)(m:List (List Nat×Nat))(kn:List (Nat×Int))(c0 c1 c2 c3:T)(ms:List (List (List Nat×Nat)))
theorem cp0:aI (kl lT m kn c0 c1 c2 c3 ms) 0=⟨1,.map (m.map fun p=>sK p.1) (m.map fun p=>nK p.2) false⟩:=nr rfl
theorem cp2:aI (kl lT m kn c0 c1 c2 c3 ms) 2=⟨1,.cells [lT,.mp .S 0 1,.mp .S 1 1,c0,c1,c2,c3] 0 true⟩:=nr rfl
theorem aE7(r:List (List Nat×Nat)):bI (kl lT m kn c0 c1 c2 c3 ms) 0 ⟨1,.map (r.map fun p=>sK p.1) (r.map fun p=>nK p.2) false⟩=kl lT r kn c0 c1 c2 c3 ms:=nr rfl
theorem afy(r D F H:T):bI (kl lT m kn c0 c1 c2 c3 ms) 2 ⟨1,.cells [lT,.mp .S 0 1,.mp .S 1 1,r,D,F,H] 0 true⟩=kl lT m kn r D F H ms:=nr rfl
theorem ayo:kl lT [] [] .nilmp .nilmp .nilmp .nilmp []= [⟨1,.map [] [] false⟩,⟨1,.map [] [] false⟩,⟨1,.cells [lT,.mp .S 0 1,.mp .S 1 1,.nilmp,.nilmp,.nilmp,.nilmp] 0 true⟩]:=nr rfl
end
section
variable(l:Cs)(lT:T)(cl:List T)(hl:IsSl lT l.length cl)(hcl:dn l cl)(hlen:l.length≤jY)
include hl hcl hlen
theorem aE8(fr:Fr)(lh:aD ah)(sh:List ah)(V:sh=kl lT [] [] .nilmp .nilmp .nilmp .nilmp [])
  (h3:aa fr 3= .ptr .S 2 1 0) (F:aa fr 16=lT) (D:aa fr 17= .i .i64 (l.length:Int)) (H:aa fr 18= .i .i64 0):
  pT 71 sP fr lh sh (.ext 0)∧
  (iH pE 71 sP fr lh sh=kl lT (bH l l.length) [] .nilmp .nilmp .nilmp .nilmp []):=by
 refine cj (P:=fun Y Z W=>W=kl lT (bH l l.length) [] .nilmp .nilmp .nilmp .nilmp [])
  (cT (fun k st=> ∃(fr:Fr) (N:aD ah),st=⟨fr,N,kl lT (bH l k) [] .nilmp .nilmp .nilmp .nilmp []⟩∧aa fr 3= .ptr .S 2 1 0∧aa fr 16=lT∧aa fr 17= .i .i64 (l.length:Int)∧aa fr 18= .i .i64 (k:Int)) _ l.length ?_ ?_ 0 _ (Nat.zero_le _) ⟨fr,lh,by rw[V];rfl,h3,F,D,H⟩)
 ·rintro k _ hk ⟨fr,N,rfl,h3,F,D,H⟩
  left
  have J:(k:Int)<l.length:=yv
  have U:=be (k:=k) yv
  obtain⟨b,cb,r,K,fL,rP,hb⟩:=fZ hl hcl k hk
  have I:=lkS (bH l k) l[k].1
  rw[xG l hk]
  cases O:aM (bH l k) l[k].1 with
  |some i=>
   rw[O]at I
   unfold S4 at I
   simp only[qA,seval,bp,aH,dx,sP,h3,F,D,H,J,K,U,cp2,cp0,bW,I]
   refine⟨_,rfl,_,_,rfl, ?_, ?_, ?_, ?_⟩ <;> simp only[qA,seval,h3,F,D]
  |none=>
   rw[O]at I
   unfold S4 at I
   have X:lF (.one .str) (.s l[k].1) (.i .i64 (k:Int)) ((bH l k).map fun p=>sK p.1) ((bH l k).map fun p=>nK p.2)=_:=vd (kT:=sK) (vT:=nK) CS (bH l k) l[k].1 k O
   simp only[qA,seval,bp,aH,dx,sP,h3,F,D,H,J,K,U,cp2,cp0,bW,I,yj,X,aE7]
   refine⟨_,rfl,_,_,rfl, ?_, ?_, ?_, ?_⟩ <;> simp only[qA,seval,h3,F,D]
 ·rintro _ ⟨fr,N,rfl,h3,F,D,H⟩
  simp only[qA,seval,sP,D,H,Int.lt_irrefl]
  exact⟨_,_,sV,rfl,rfl,rfl⟩
end
end Go.Proofs.YtnkgnjecmfkcfaaGreat
