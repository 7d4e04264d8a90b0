/- The value of an operator: the reference's Apply. Formulas and their values. The value of a formula. Conditions: the theorems' own. -/
import Derived.Test.YtfenhjpkomldcaaGreatM6
import Derived.KernelRfl
set_option maxRecDepth 100000
set_option linter.unusedSimpArgs false
set_option linter.unusedVariables false
set_option maxHeartbeats 16000000
namespace Go.Proofs.YtfenhjpkomldcaaGreat
open Go Go.Ev
def bit(n:Int):Prop:=n=0∨n=1
theorem bit_bd{n:Int}(h:bit n):bd n:=by unfold bit at h;unfold bd;omega
theorem flagS_bit(b:Bool):bit (flagS b):=by cases b <;> simp[flagS,bit]
theorem pinband_ev(c f t:Int):DCall pE 139 [.i .i64 c,.i .i64 f,.i .i64 t] []=some (.b (bandS c f t),[]):=by
 rw[p_fun fn139 (by simp[c139])]
 unfold bandS
 by_cases h1:f≤t
 ·by_cases h2:f≤c <;> by_cases h3:c<t <;> simp(maxDischargeDepth:=6) only[qF,qGO0,qGO1,qGO2,qGO3,qGO4,qGO5,Nat.reduceAdd,reduceCtorEq,Nat.reduceLT,Nat.reduceEqDiff,c139,h1,h2,h3]
 ·by_cases h2:f≤c <;> by_cases h3:c<t <;> simp(maxDischargeDepth:=6) only[qF,qGO0,qGO1,qGO2,qGO3,qGO4,qGO5,Nat.reduceAdd,reduceCtorEq,Nat.reduceLT,Nat.reduceEqDiff,c139,h1,h2,h3,or_true,or_false,or_self]
theorem truth_ev(b:Bool):DCall pE 136 [.b b] []=some (.i .i64 (flagS b),[]):=by
 rw[p_fun fn136 (by simp[c136])]
 cases b <;> simp(maxDischargeDepth:=6) only[qF,qGO0,qGO1,qGO2,qGO3,qGO4,reduceCtorEq,Nat.reduceLT,c136,flagS]
def exL(op:Int):Int→List Int→Int:=if op=12 then minL else maxL
theorem exL_cons(op m v:Int)(vs:List Int)(h:op=12∨op=13):exL op m (v::vs)=exL op (if op=12 then min m v else max m v) vs:=by
 unfold exL
 rcases h with rfl|rfl <;> rfl
theorem exL_nil(op m:Int):exL op m []=m:=by unfold exL;split <;> rfl
def vOk(op:Int)(vs:List Int):Prop:=(∀v∈vs,bd v)∧((op=19∨op=20∨op=21∨op=22)→ ∀v∈vs,bit v)∧(op=14→bit (a0 vs))
end Go.Proofs.YtfenhjpkomldcaaGreat
namespace Go.Proofs.YtfenhjpkomldcaaGreat
open Go Go.Ev
theorem combine_ev(op a b:Int)(hv:vOk op [a,b])(ho:op=8∨op=9∨op=10∨op=11∨op=16∨op=17∨op=18∨op=20∨op=21∨op=22):DCall pE 141 [.i .i64 op,.i .i64 a,.i .i64 b] []=some (.i .i64 (apS op [a,b]),[]):=by
 rw[p_fun fn141 (by simp[c141])]
 obtain⟨hbd,hbit,_⟩:=hv
 have ha:=hbd a (by simp)
 have hb:=hbd b (by simp)
 have hbt:(op=19∨op=20∨op=21∨op=22)→bit a∧bit b:=fun h=>⟨hbit h a (by simp),hbit h b (by simp)⟩
 clear hbd hbit
 rcases ho with rfl|rfl|rfl|rfl|rfl|rfl|rfl|rfl|rfl|rfl
 ·have h:=padd_ev ha hb
  simp(maxDischargeDepth:=6) only[qF,qGO0,qGO1,qGO2,qGO3,qGO4,qGO5,Nat.reduceAdd,reduceCtorEq,Nat.reduceLT,Nat.reduceEqDiff,Int.reduceEq,c141,h,dc140];rfl
 ·have h:=padd_ev ha (bd_neg hb)
  have hw:=wr_neg hb
  simp(maxDischargeDepth:=6) only[qF,qGO0,qGO1,qGO2,qGO3,qGO4,qGO5,Nat.reduceAdd,reduceCtorEq,Nat.reduceLT,Nat.reduceEqDiff,Int.reduceEq,c141,h,hw,dc140];rfl
 ·have h:=pmul_ev ha hb
  simp(maxDischargeDepth:=6) only[qF,qGO0,qGO1,qGO2,qGO3,qGO4,qGO5,Nat.reduceAdd,reduceCtorEq,Nat.reduceLT,Nat.reduceEqDiff,Int.reduceEq,c141,h,dc213];rfl
 ·have h:=pdiv_ev ha hb
  simp(maxDischargeDepth:=6) only[qF,qGO0,qGO1,qGO2,qGO3,qGO4,qGO5,Nat.reduceAdd,reduceCtorEq,Nat.reduceLT,Nat.reduceEqDiff,Int.reduceEq,c141,h,dc214];rfl
 ·have h:=truth_ev (decide (a<b))
  simp(maxDischargeDepth:=6) only[qF,qGO0,qGO1,qGO2,qGO3,qGO4,qGO5,Nat.reduceAdd,reduceCtorEq,Nat.reduceLT,Nat.reduceEqDiff,Int.reduceEq,c141,h,dc136];rfl
 ·have h:=truth_ev (decide (a≤b))
  simp(maxDischargeDepth:=6) only[qF,qGO0,qGO1,qGO2,qGO3,qGO4,qGO5,Nat.reduceAdd,reduceCtorEq,Nat.reduceLT,Nat.reduceEqDiff,Int.reduceEq,c141,h,dc136];rfl
 ·have h:=truth_ev (decide (a=b))
  simp(maxDischargeDepth:=6) only[qF,qGO0,qGO1,qGO2,qGO3,qGO4,qGO5,Nat.reduceAdd,reduceCtorEq,Nat.reduceLT,Nat.reduceEqDiff,Int.reduceEq,c141,h,dc136];rfl
 ·obtain⟨h1,h2⟩:=hbt (by simp)
  have h:=and_bit h1 h2
  simp(maxDischargeDepth:=6) only[qF,qGO0,qGO1,qGO2,qGO3,qGO4,qGO5,Nat.reduceAdd,reduceCtorEq,Nat.reduceLT,Nat.reduceEqDiff,Int.reduceEq,c141,h];rfl
 ·obtain⟨h1,h2⟩:=hbt (by simp)
  have h:=or_bit h1 h2
  simp(maxDischargeDepth:=6) only[qF,qGO0,qGO1,qGO2,qGO3,qGO4,qGO5,Nat.reduceAdd,reduceCtorEq,Nat.reduceLT,Nat.reduceEqDiff,Int.reduceEq,c141,h];rfl
 ·obtain⟨h1,h2⟩:=hbt (by simp)
  have hw:wr .i64 (1-a)=1-a:=by unfold bit at h1;exact wr64 ⟨by omega,by omega⟩
  have h:=or_bit (a:=1-a) (b:=b) (by unfold bit at h1;omega) h2
  simp(maxDischargeDepth:=6) only[qF,qGO0,qGO1,qGO2,qGO3,qGO4,qGO5,Nat.reduceAdd,reduceCtorEq,Nat.reduceLT,Nat.reduceEqDiff,Int.reduceEq,c141,hw,h];rfl
inductive Fm where
 |mk (op num:Int) (args:List Fm)
def Fm.op:Fm→Int| .mk o _ _=>o
def Fm.num:Fm→Int| .mk _ n _=>n
def Fm.args:Fm→List Fm| .mk _ _ a=>a
mutual
def IsFm:Fm→List T→Prop
 | .mk op num args,cs=> ∃a cc,cs= [.i .i64 op,.i .i64 num,a]∧IsSl a args.length cc∧IsFms args cc
def IsFms:List Fm→List T→Prop
 | [],cs=>cs= []
 |x::xs,cs=> ∃c r,cs=c++r∧IsFm x c∧IsFms xs r
end
theorem IsFm.cells{x:Fm}{cs:List T}(h:IsFm x cs): ∃a cc,cs= [.i .i64 x.op,.i .i64 x.num,a]∧IsSl a x.args.length cc∧IsFms x.args cc:=by
 obtain⟨o,n,a⟩:=x
 rw[IsFm]at h
 exact h
theorem IsFm.of{x:Fm}{a:T}{cc:List T}(h1:IsSl a x.args.length cc)(h2:IsFms x.args cc):IsFm x [.i .i64 x.op,.i .i64 x.num,a]:=by
 obtain⟨o,n,l⟩:=x
 rw[IsFm]
 exact⟨a,cc,rfl,h1,h2⟩
theorem IsFm.len{x:Fm}{cs:List T}(h:IsFm x cs):cs.length=3:=by
 obtain⟨a,cc,rfl,_⟩:=h.cells;rfl
theorem IsFms.nil:IsFms [] []:=by rw[IsFms]
theorem IsFms.cons{x:Fm}{xs:List Fm}{c r:List T}(h1:IsFm x c)(h2:IsFms xs r):IsFms (x::xs) (c++r):=by
 rw[IsFms];exact⟨c,r,rfl,h1,h2⟩
theorem IsFms.append: ∀{xs ys:List Fm} {c r:List T},IsFms xs c→IsFms ys r→IsFms (xs++ys) (c++r)
 | [],ys,c,r,h1,h2=>by rw[IsFms]at h1;subst h1;exact h2
 |x::xs,ys,c,r,h1,h2=>by
  rw[IsFms]at h1
  obtain⟨c1,r1,rfl,h3,h4⟩:=h1
  rw[List.append_assoc]
  exact IsFms.cons h3 (IsFms.append h4 h2)
theorem IsFms.one{x:Fm}{c:List T}(h:IsFm x c):IsFms [x] c:=by
 have:=IsFms.cons h IsFms.nil
 rwa [List.append_nil]at this
theorem IsFms.len: ∀{xs:List Fm} {cs:List T},IsFms xs cs→cs.length=xs.length*3
 | [],cs,h=>by rw[IsFms]at h;rw[h];rfl
 |x::xs,cs,h=>by
  rw[IsFms]at h
  obtain⟨c,r,rfl,h1,h2⟩:=h
  rw[List.length_append,h1.len,h2.len,List.length_cons];omega
theorem IsFms.drop: ∀{xs:List Fm} {cs:List T} (k:Nat) (hk:k<xs.length),IsFms xs cs→ ∃c r,cs.drop (k*3)=c++r∧IsFm xs[k] c∧IsFms (xs.drop (k+1)) r
 | [],cs,k,hk,h=>by simp at hk
 |x::xs,cs,0,hk,h=>by
  rw[IsFms]at h
  obtain⟨c,r,rfl,h1,h2⟩:=h
  exact⟨c,r,by simp,h1,by simpa using h2⟩
 |x::xs,cs,k+1,hk,h=>by
  rw[IsFms]at h
  obtain⟨c,r,rfl,h1,h2⟩:=h
  obtain⟨c',r',e,h3,h4⟩:=IsFms.drop k (by simpa using hk) h2
  refine⟨c',r', ?_,h3,by simpa using h4⟩
  have:(k+1)*3=c.length+k*3:=by rw[h1.len];omega
  rw[this,List.drop_append,Nat.add_sub_cancel_left,List.drop_eq_nil_of_le (by omega),e];rfl
theorem fm_at{xs:List Fm}{a:T}{cc:List T}(h1:IsSl a xs.length cc)(h2:IsFms xs cc)(k:Nat)(hk:k<xs.length):
  ∃b cb r,(∀kk,iaV a (.i kk (k:Int)) 3=some (.vp (.i .i64 xs[k].op:: .i .i64 xs[k].num::b::r)))∧IsSl b xs[k].args.length cb∧IsFms xs[k].args cb:=by
 obtain⟨c,r,e,h3,h4⟩:=IsFms.drop k hk h2
 obtain⟨b,cb,rfl,h5,h6⟩:=h3.cells
 refine⟨b,cb,r,fun kk=> ?_,h5,h6⟩
 rw[h1.ia (sz:=3) h2.len hk,e];rfl
mutual
def Fm.val(at_:List Int):Fm→Int
 | .mk op num args=>if op=1 then num else if op=6 then at_.getD num.toNat 0 else apS op (valL at_ args)
def valL(at_:List Int):List Fm→List Int
 | []=> []
 |x::xs=>x.val at_::valL at_ xs
end
theorem Fm.val_eq(at_:List Int)(x:Fm):x.val at_=if x.op=1 then x.num else if x.op=6 then at_.getD x.num.toNat 0 else apS x.op (valL at_ x.args):=by obtain⟨_,_,_⟩:=x;rw[Fm.val];rfl
theorem valL_map(at_:List Int): ∀xs,valL at_ xs=xs.map (Fm.val at_)
 | []=>rfl
 |x::xs=>by rw[valL,valL_map at_ xs];rfl
mutual
def FOk(at_:List Int):Fm→Prop
 | .mk op num args=>(op=1∧bd num)∨(op=6∧0≤num∧num.toNat<at_.length∧bd (at_.getD num.toNat 0))∨(7≤op∧op≤22∧arOk op args.length=true∧args.length≤Lim∧FOkL at_ args∧vOk op (valL at_ args))
def FOkL(at_:List Int):List Fm→Prop
 | []=>True
 |x::xs=>FOk at_ x∧FOkL at_ xs
end
theorem FOk_eq(at_:List Int)(x:Fm):FOk at_ x↔((x.op=1∧bd x.num)∨(x.op=6∧0≤x.num∧x.num.toNat<at_.length∧bd (at_.getD x.num.toNat 0))∨(7≤x.op∧x.op≤22∧arOk x.op x.args.length=true∧x.args.length≤Lim∧FOkL at_ x.args∧vOk x.op (valL at_ x.args))):=by obtain⟨_,_,_⟩:=x;rw[FOk];rfl
theorem FOkL_mem(at_:List Int): ∀{xs:List Fm},FOkL at_ xs↔ ∀x∈xs,FOk at_ x
 | []=>by simp[FOkL]
 |x::xs=>by rw[FOkL,FOkL_mem at_ (xs:=xs)];simp
mutual
def Fm.sz:Fm→Nat
 | .mk _ _ args=>1+fszL args
def fszL:List Fm→Nat
 | []=>0
 |x::xs=>x.sz+fszL xs
end
theorem Fm.sz_eq(x:Fm):x.sz=1+fszL x.args:=by obtain⟨_,_,_⟩:=x;rw[Fm.sz];rfl
theorem fszL_mem: ∀{xs:List Fm} {x:Fm},x∈xs→x.sz≤fszL xs
 |y::xs,x,h=>by
  rw[fszL]
  rcases List.mem_cons.1 h with rfl|h
  ·omega
  ·have:=fszL_mem h;omega
theorem Fm.ind{P:Fm→Prop}(h: ∀x:Fm,(∀y∈x.args,P y)→P x)(x:Fm):P x:=by
 have: ∀n (x:Fm),x.sz≤n→P x:=by
  intro n
  induction n with
  |zero=>intro x hx;rw[x.sz_eq]at hx;omega
  |succ n ih=>
   intro x hx
   refine h x fun y hy=>ih y ?_
   have:=fszL_mem hy
   rw[x.sz_eq]at hx;omega
 exact this _ x (Nat.le_refl _)
end Go.Proofs.YtfenhjpkomldcaaGreat
namespace Go.Proofs.YtfenhjpkomldcaaGreat
open Go Go.Ev
section
variable(at_:List Int)(atT:T)(hat:IsSl atT at_.length (ints at_))
def valP(f:Fm):Prop:= ∀(b:T) (cb r:List T),IsSl b f.args.length cb→IsFms f.args cb→FOk at_ f→DCall pE 92 [.vp (.i .i64 f.op:: .i .i64 f.num::b::r),atT] []=some (.i .i64 (f.val at_),[])
include hat
theorem vArg{xs:List Fm}(ih: ∀y∈xs,valP at_ atT y){a:T}{cc:List T}(ha:IsSl a xs.length cc)(hx:IsFms xs cc)(hok:FOkL at_ xs)(k:Nat)(hk:k<xs.length)(j:Int)(hj:j=(k:Int)):
  ∃c,(∀kk,iaV a (.i kk j) 3=some (.vp c))∧DCall pE 92 [.vp c,atT] []=some (.i .i64 (xs[k].val at_),[]):=by
 have _:=hat
 obtain⟨b,cb,r,hia,h1,h2⟩:=fm_at ha hx k hk
 subst hj
 exact⟨_,hia,ih xs[k] (List.getElem_mem hk) b cb r h1 h2 ((FOkL_mem at_).1 hok _ (List.getElem_mem hk))⟩
theorem val1(op num:Int)(hop:op=12∨op=13)(xs:List Fm)(ih: ∀y∈xs,valP at_ atT y)(a:T)(cc r:List T)(ha:IsSl a xs.length cc)(hx:IsFms xs cc)(hok:FOkL at_ xs)(hne:0<xs.length)(hlen:xs.length≤Lim)(fr:Fr)(lh:Tri Ent)(sh:List Ent)
  (h0:getF fr 0= .vp (.i .i64 op:: .i .i64 num::a::r)) (h1:getF fr 1=atT) (h5:getF fr 5= .i .i64 (a0 (valL at_ xs))) (h6:getF fr 6= .i .i64 1):
  DC pE 155 (.loop c92_L1) ⟨fr,lh,sh⟩=some (.ext 1,⟨frL pE 155 c92_L1 fr lh sh,lhL pE 155 c92_L1 fr lh sh,shL pE 155 c92_L1 fr lh sh⟩)∧
  (getF (frL pE 155 c92_L1 fr lh sh) 5= .i .i64 (exL op (a0 (valL at_ xs)) (valL at_ xs).tail)∧lhL pE 155 c92_L1 fr lh sh=lh∧shL pE 155 c92_L1 fr lh sh=sh):=by
 refine loop_rule (P:=fun fr lh' sh'=>getF fr 5= .i .i64 (exL op (a0 (valL at_ xs)) (valL at_ xs).tail)∧lh'=lh∧sh'=sh) (loop_inv (fun k st=> ∃(fr:Fr) (m:Int),st=⟨fr,lh,sh⟩∧getF fr 0= .vp (.i .i64 op:: .i .i64 num::a::r)∧getF fr 1=atT∧getF fr 5= .i .i64 m∧getF fr 6= .i .i64 (k:Int)∧exL op m ((valL at_ xs).drop k)=exL op (a0 (valL at_ xs)) (valL at_ xs).tail) _ xs.length ?_ ?_ 1 _ hne ⟨fr,a0 (valL at_ xs),rfl,h0,h1,h5,h6,by rw[List.drop_one]⟩)
 ·rintro k _ hk ⟨fr,m,rfl,h0,h1,h5,h6,hxx⟩
  left
  have hk':(k:Int)<xs.length:=by omega
  have hw:=wr_succL (k:=k) (by omega)
  have hvl:(valL at_ xs).length=xs.length:=by rw[valL_map];simp
  have hvk:(valL at_ xs)[k]'(by omega)=xs[k].val at_:=by simp[valL_map]
  obtain⟨c,hia,hcall⟩:=vArg at_ atT hat ih ha hx hok k hk (k:Int) rfl
  rw[List.drop_eq_getElem_cons (by omega),exL_cons _ _ _ _ hop,hvk]at hxx
  generalize xs[k].val at_=v at hxx hcall
  rcases hop with rfl|rfl
  ·rw[if_pos rfl,show min m v=(if v<m then v else m)by split <;> omega]at hxx
   simp(maxDischargeDepth:=6) only[qF,qGO0,qGO1,qGO2,qGO3,qGO4,qGO5,mmV,minmax,reduceCtorEq,Nat.reduceLT,Nat.reduceLeDiff,Nat.reduceEqDiff,c92_L1,h0,h1,h5,h6,ha.lenI,hk',hia,hw,hcall,dc92,hat.froz]
   refine⟨_,rfl,_,_,rfl, ?_, ?_, ?_, ?_,hxx⟩ <;> simp(maxDischargeDepth:=6) only[qGO2,qGO4,reduceCtorEq,Nat.reduceEqDiff,h0,h1]
  ·rw[if_neg (by decide),show max m v=(if v>m then v else m)by split <;> omega]at hxx
   simp(maxDischargeDepth:=6) only[qF,qGO0,qGO1,qGO2,qGO3,qGO4,qGO5,mmV,minmax,reduceCtorEq,Nat.reduceLT,Nat.reduceLeDiff,Nat.reduceEqDiff,Int.reduceEq,c92_L1,h0,h1,h5,h6,ha.lenI,hk',hia,hw,hcall,dc92,hat.froz]
   refine⟨_,rfl,_,_,rfl, ?_, ?_, ?_, ?_,hxx⟩ <;> simp(maxDischargeDepth:=6) only[qGO2,qGO4,reduceCtorEq,Nat.reduceEqDiff,h0,h1]
 ·rintro _ ⟨fr,m,rfl,h0,h1,h5,h6,hxx⟩
  have hvl:(valL at_ xs).length=xs.length:=by rw[valL_map];simp
  rw[←hvl,List.drop_length,exL_nil]at hxx
  simp(maxDischargeDepth:=6) only[qGO0,qGO1,qGO2,qGO3,qGO4,qGO5,reduceCtorEq,Nat.reduceLT,Nat.reduceLeDiff,Nat.reduceEqDiff,c92_L1,h0,h6,ha.lenI,Int.lt_irrefl]
  exact⟨_,_,(by simp:Out.ext 1≠ .nrm),rfl,rfl,by simp(maxDischargeDepth:=6) only[qGO2,qGO4,Nat.reduceEqDiff,h5,hxx],rfl,rfl⟩
theorem val_ev(f:Fm):valP at_ atT f:=by
 induction f using Fm.ind with
 |h f ih=>
  intro b cb r hb hfs hok
  rw[p_fun fn92 (by simp[c92]),Fm.val_eq]
  rcases(FOk_eq at_ f).1 hok with⟨h1,_⟩|⟨h6,hn1,hn2,_⟩|⟨h7,h22,har,hlim,hokl,hv⟩
  ·rw[if_pos h1]
   simp(maxDischargeDepth:=6) only[qF,qGO0,qGO1,qGO2,qGO3,qGO4,qGO5,reduceCtorEq,Nat.reduceLT,Nat.reduceLeDiff,Nat.reduceEqDiff,Int.reduceEq,c92,h1]
  ·rw[if_neg (by omega),if_pos h6]
   have hia:=fun kk=>int_at hat hn2 kk
   rw[Int.toNat_of_nonneg hn1]at hia
   have e:at_.getD f.num.toNat 0=at_[f.num.toNat]:=by simp[List.getD_eq_getElem?_getD,List.getElem?_eq_getElem hn2]
   rw[e]
   simp(maxDischargeDepth:=6) only[qF,qGO0,qGO1,qGO2,qGO3,qGO4,qGO5,reduceCtorEq,Nat.reduceLT,Nat.reduceLeDiff,Nat.reduceEqDiff,Int.reduceEq,c92,h6,hia]
  ·rw[if_neg (by omega),if_neg (by omega)]
   have hvl:valL at_ f.args=f.args.map (Fm.val at_):=valL_map at_ _
   have hargs: ∀(k:Nat) (hk:k<f.args.length) (j:Int),j=(k:Int)→ ∃c,(∀kk,iaV b (.i kk j) 3=some (.vp c))∧DCall pE 92 [.vp c,atT] []=some (.i .i64 (f.args[k].val at_),[]):=fun k hk j hj=>vArg at_ atT hat (fun y hy=>ih y hy) hb hfs hokl k hk j hj
   have hmm:0<f.args.length→(f.op=12∨f.op=13)→endR c92.res c92.eff (DC pE c92.n c92.code ⟨frOf [.vp (.i .i64 f.op:: .i .i64 f.num::b::r),atT],.nil,[]⟩)=some (.i .i64 (exL f.op (a0 (valL at_ f.args)) (valL at_ f.args).tail),[]):=by
    intro hne ho
    obtain⟨c0,hia0,hc0⟩:=hargs 0 hne 0 rfl
    have hL:=fun fr lh sh=>val1 at_ atT hat f.op f.num ho f.args (fun y hy=>ih y hy) b cb r hb hfs hokl hne hlim fr lh sh
    have e0:a0 (valL at_ f.args)=f.args[0].val at_:=by rw[hvl];unfold a0;simp[List.getD_eq_getElem?_getD,List.getElem?_eq_getElem hne]
    rw[e0]at hL ⊢
    rcases ho with ho|ho <;> rw[ho]at hL ⊢ <;> simp(maxDischargeDepth:=6) only[qF,qGO0,qGO1,qGO2,qGO3,qGO4,qGO5,reduceCtorEq,Nat.reduceLT,Nat.reduceLeDiff,Nat.reduceEqDiff,Int.reduceEq,c92,hia0,hc0,dc92,hat.froz,hL]
   have hbin: ∀x y:Int,valL at_ f.args= [x,y]→(f.op=8∨f.op=9∨f.op=10∨f.op=11∨f.op=16∨f.op=17∨f.op=18∨f.op=20∨f.op=21∨f.op=22)→endR c92.res c92.eff (DC pE c92.n c92.code ⟨frOf [.vp (.i .i64 f.op:: .i .i64 f.num::b::r),atT],.nil,[]⟩)=some (.i .i64 (apS f.op [x,y]),[]):=by
    intro x y hxy ho
    have hl2:f.args.length=2:=by have:=congrArg List.length hxy;rw[hvl]at this;simpa using this
    obtain⟨c0,hia0,hc0⟩:=hargs 0 (by omega) 0 rfl
    obtain⟨c1,hia1,hc1⟩:=hargs 1 (by omega) 1 rfl
    have e0:f.args[0].val at_=x:=by
     have:(valL at_ f.args)[0]? =some x:=by rw[hxy];rfl
     rw[hvl]at this;simpa[List.getElem?_eq_getElem (show 0<f.args.length by omega)]using this
    have e1:f.args[1].val at_=y:=by
     have:(valL at_ f.args)[1]? =some y:=by rw[hxy];rfl
     rw[hvl]at this;simpa[List.getElem?_eq_getElem (show 1<f.args.length by omega)]using this
    rw[e0]at hc0
    rw[e1]at hc1
    rw[hxy]at hv
    have hcb:=combine_ev f.op x y hv ho
    rcases ho with ho|ho|ho|ho|ho|ho|ho|ho|ho|ho <;> rw[ho]at hcb ⊢ <;> simp(maxDischargeDepth:=6) only[qF,qGO0,qGO1,qGO2,qGO3,qGO4,qGO5,reduceCtorEq,Nat.reduceLT,Nat.reduceLeDiff,Nat.reduceEqDiff,Int.reduceEq,qDR0,getL,c92,hia0,hia1,hc0,hc1,dc92,dd92,hat.froz,hcb,dc141,dd141]
   have hg: ∀(k:Nat) (hk:k<f.args.length),(valL at_ f.args)[k]? =some (f.args[k].val at_):=fun k hk=>by rw[hvl];simp[List.getElem?_eq_getElem hk]
   rcases op_cases (show 1≤f.op by omega) h22 with h|h|h|h|h|h|h|h|h|h|h|h|h|h|h|h|h|h|h|h|h|h
   iterate 6 ·omega
   ·have hl1:f.args.length=1:=by rw[h]at har;simpa[arOk]using har
    obtain⟨x,hx⟩:=len1 (ts:=valL at_ f.args) (by rw[hvl];simpa using hl1)
    obtain⟨c0,hia0,hc0⟩:=hargs 0 (by omega) 0 rfl
    have e0:f.args[0].val at_=x:=by have:=hg 0 (by omega);rw[hx]at this;simpa using this.symm
    rw[e0]at hc0
    rw[hx]at hv ⊢
    have hxb:=hv.1 x (by simp)
    have ha:=padd_ev (a:=0) (by unfold bd;omega) (bd_neg hxb)
    have hw:=wr_neg hxb
    rw[show(0:Int)+ -x= -x by omega,clampS_of (bd_neg hxb)]at ha
    rw[h]
    simp(maxDischargeDepth:=6) only[qF,qGO0,qGO1,qGO2,qGO3,qGO4,qGO5,reduceCtorEq,Nat.reduceLT,Nat.reduceLeDiff,Nat.reduceEqDiff,Int.reduceEq,c92,hia0,hc0,dc92,hat.froz,hw,ha,dc140];rfl
   ·obtain⟨x,y,hxy⟩:=len2 (ts:=valL at_ f.args) (by rw[hvl];rw[h]at har;simpa[arOk]using har)
    rw[hxy];exact hbin x y hxy (by omega)
   ·obtain⟨x,y,hxy⟩:=len2 (ts:=valL at_ f.args) (by rw[hvl];rw[h]at har;simpa[arOk]using har)
    rw[hxy];exact hbin x y hxy (by omega)
   ·obtain⟨x,y,hxy⟩:=len2 (ts:=valL at_ f.args) (by rw[hvl];rw[h]at har;simpa[arOk]using har)
    rw[hxy];exact hbin x y hxy (by omega)
   ·obtain⟨x,y,hxy⟩:=len2 (ts:=valL at_ f.args) (by rw[hvl];rw[h]at har;simpa[arOk]using har)
    rw[hxy];exact hbin x y hxy (by omega)
   ·rw[hmm (by rw[h]at har;simp[arOk]at har;omega) (by omega),h];rfl
   ·rw[hmm (by rw[h]at har;simp[arOk]at har;omega) (by omega),h];rfl
   ·have hl3:f.args.length=3:=by rw[h]at har;simpa[arOk]using har
    obtain⟨x,y,z,hx⟩:=len3 (ts:=valL at_ f.args) (by rw[hvl];simpa using hl3)
    obtain⟨c0,hia0,hc0⟩:=hargs 0 (by omega) 0 rfl
    obtain⟨c1,hia1,hc1⟩:=hargs 1 (by omega) 1 rfl
    obtain⟨c2,hia2,hc2⟩:=hargs 2 (by omega) 2 rfl
    have e0:f.args[0].val at_=x:=by have:=hg 0 (by omega);rw[hx]at this;simpa using this.symm
    have e1:f.args[1].val at_=y:=by have:=hg 1 (by omega);rw[hx]at this;simpa using this.symm
    have e2:f.args[2].val at_=z:=by have:=hg 2 (by omega);rw[hx]at this;simpa using this.symm
    rw[e0]at hc0
    rw[e1]at hc1
    rw[e2]at hc2
    rw[hx,h,show apS 14 [x,y,z]=if x=0 then z else y from rfl]
    by_cases hx0:x=0 <;> simp(maxDischargeDepth:=6) only[qF,qGO0,qGO1,qGO2,qGO3,qGO4,qGO5,Int.reduceSub,Int.reduceNeg,reduceCtorEq,Nat.reduceLT,Nat.reduceLeDiff,Nat.reduceEqDiff,Int.reduceLE,Int.reduceEq,c92,hia0,hia1,hia2,hc0,hc1,hc2,dc92,hat.froz,hx0]
   ·have hl3:f.args.length=3:=by rw[h]at har;simpa[arOk]using har
    obtain⟨x,y,z,hx⟩:=len3 (ts:=valL at_ f.args) (by rw[hvl];simpa using hl3)
    obtain⟨c0,hia0,hc0⟩:=hargs 0 (by omega) 0 rfl
    obtain⟨c1,hia1,hc1⟩:=hargs 1 (by omega) 1 rfl
    obtain⟨c2,hia2,hc2⟩:=hargs 2 (by omega) 2 rfl
    have e0:f.args[0].val at_=x:=by have:=hg 0 (by omega);rw[hx]at this;simpa using this.symm
    have e1:f.args[1].val at_=y:=by have:=hg 1 (by omega);rw[hx]at this;simpa using this.symm
    have e2:f.args[2].val at_=z:=by have:=hg 2 (by omega);rw[hx]at this;simpa using this.symm
    rw[e0]at hc0
    rw[e1]at hc1
    rw[e2]at hc2
    rw[hx,h]
    have hi:=pinband_ev x y z
    have ht:=truth_ev (bandS x y z)
    simp(maxDischargeDepth:=6) only[qF,qGO0,qGO1,qGO2,qGO3,qGO4,qGO5,reduceCtorEq,Nat.reduceLT,Nat.reduceLeDiff,Nat.reduceEqDiff,Int.reduceEq,qDR0,getL,c92,hia0,hia1,hia2,hc0,hc1,hc2,dc92,dd92,hat.froz,hi,ht,dc139,dd139,dc136,dd136];rfl
   iterate 3
    ·obtain⟨x,y,hxy⟩:=len2 (ts:=valL at_ f.args) (by rw[hvl];rw[h]at har;simpa[arOk]using har)
     rw[hxy];exact hbin x y hxy (by omega)
   ·have hl1:f.args.length=1:=by rw[h]at har;simpa[arOk]using har
    obtain⟨x,hx⟩:=len1 (ts:=valL at_ f.args) (by rw[hvl];simpa using hl1)
    obtain⟨c0,hia0,hc0⟩:=hargs 0 (by omega) 0 rfl
    have e0:f.args[0].val at_=x:=by have:=hg 0 (by omega);rw[hx]at this;simpa using this.symm
    rw[e0]at hc0
    rw[hx]at hv ⊢
    have hxb:=hv.2.1 (by omega) x (by simp)
    have hw:wr .i64 (1-x)=1-x:=by unfold bit at hxb;exact wr64 ⟨by omega,by omega⟩
    rw[h]
    simp(maxDischargeDepth:=6) only[qF,qGO0,qGO1,qGO2,qGO3,qGO4,qGO5,reduceCtorEq,Nat.reduceLT,Nat.reduceLeDiff,Nat.reduceEqDiff,Int.reduceEq,c92,hia0,hc0,dc92,hat.froz,hw];rfl
   iterate 3
    ·obtain⟨x,y,hxy⟩:=len2 (ts:=valL at_ f.args) (by rw[hvl];rw[h]at har;simpa[arOk]using har)
     rw[hxy];exact hbin x y hxy (by omega)
end
end Go.Proofs.YtfenhjpkomldcaaGreat
