/- Formulas and their values. The value of a formula. Literals. Simplified forms keep their types: plain. Values of typed operators stay in their types: plain. Conditions: the theorems' own. -/
import Derived.Test.YtblcbheipjeoeaaGreatM5
import Derived.KernelRfl
set_option maxRecDepth 100000
set_option linter.unusedSimpArgs false
set_option linter.unusedVariables false
set_option maxHeartbeats 16000000
namespace Go.Proofs.YtblcbheipjeoeaaGreat
open Go Go.Ev
theorem Jr(op a b:Int)(hv:vOk op [a,b])(ho:op=8∨op=9∨op=10∨op=11∨op=16∨op=17∨op=18∨op=20∨op=21∨op=22):fj pE 195 [.i .i64 op,.i .i64 a,.i .i64 b] []=some (.i .i64 (NG op [a,b]),[]):=by
 rw[fx OH (by simp[vW])]
 obtain⟨tI,Sh,_⟩:=hv
 have ha:=tI a (by simp)
 have hb:=tI b (by simp)
 have hbt:(op=19∨op=20∨op=21∨op=22)→bit a∧bit b:=fun h=>⟨Sh h a (by simp),Sh h b (by simp)⟩
 clear tI Sh
 rcases ho with rfl|rfl|rfl|rfl|rfl|rfl|rfl|rfl|rfl|rfl
 ·have h:=EO ha hb
  simp(maxDischargeDepth:=6) only[qA,seval,vW,h,OG];rfl
 ·have h:=EO ha (EN hb)
  have hw:=Sb hb
  simp(maxDischargeDepth:=6) only[qA,seval,vW,h,hw,OG];rfl
 ·have h:=K8 ha hb
  simp(maxDischargeDepth:=6) only[qA,seval,vW,h,Xh];rfl
 ·have h:=Wj ha hb
  simp(maxDischargeDepth:=6) only[qA,seval,vW,h,agd];rfl
 ·have h:=xp (decide (a<b))
  simp(maxDischargeDepth:=6) only[qA,seval,vW,h,JJ];rfl
 ·have h:=xp (decide (a≤b))
  simp(maxDischargeDepth:=6) only[qA,seval,vW,h,JJ];rfl
 ·have h:=xp (decide (a=b))
  simp(maxDischargeDepth:=6) only[qA,seval,vW,h,JJ];rfl
 ·obtain⟨h1,h2⟩:=hbt (by simp)
  have h:=Ve h1 h2
  simp(maxDischargeDepth:=6) only[qA,seval,vW,h];rfl
 ·obtain⟨h1,h2⟩:=hbt (by simp)
  have h:=QH h1 h2
  simp(maxDischargeDepth:=6) only[qA,seval,vW,h];rfl
 ·obtain⟨h1,h2⟩:=hbt (by simp)
  have hw:wr .i64 (1-a)=1-a:=by unfold bit at h1;exact kM ⟨by omega,by omega⟩
  have h:=QH (a:=1-a) (b:=b) (by unfold bit at h1;omega) h2
  simp(maxDischargeDepth:=6) only[qA,seval,vW,hw,h];rfl
inductive Fm where
 |mk (op num:Int) (args:List Fm)
def Fm.op:Fm→Int| .mk o _ _=>o
def Fm.num:Fm→Int| .mk _ n _=>n
def Fm.args:Fm→List Fm| .mk _ _ a=>a
mutual
def nC:Fm→List T→Prop
 | .mk op num args,cs=> ∃a cc,cs= [.i .i64 op,.i .i64 num,a]∧fD a args.length cc∧fZ args cc
def fZ:List Fm→List T→Prop
 | [],cs=>cs= []
 |x::xs,cs=> ∃c r,cs=c++r∧nC x c∧fZ xs r
end
theorem nC.cells{x:Fm}{cs:List T}(h:nC x cs): ∃a cc,cs= [.i .i64 x.op,.i .i64 x.num,a]∧fD a x.args.length cc∧fZ x.args cc:=by
 obtain⟨o,n,a⟩:=x
 rw[nC]at h
 exact h
theorem nC.of{x:Fm}{a:T}{cc:List T}(h1:fD a x.args.length cc)(h2:fZ x.args cc):nC x [.i .i64 x.op,.i .i64 x.num,a]:=by
 obtain⟨o,n,l⟩:=x
 rw[nC]
 exact⟨a,cc,rfl,h1,h2⟩
theorem nC.len{x:Fm}{cs:List T}(h:nC x cs):cs.length=3:=by
 obtain⟨a,cc,rfl,_⟩:=h.cells;rfl
theorem fZ.nil:fZ [] []:=by rw[fZ]
theorem fZ.cons{x:Fm}{xs:List Fm}{c r:List T}(h1:nC x c)(h2:fZ xs r):fZ (x::xs) (c++r):=by
 rw[fZ];exact⟨c,r,rfl,h1,h2⟩
theorem fZ.append: ∀{xs ys:List Fm} {c r:List T},fZ xs c→fZ ys r→fZ (xs++ys) (c++r)
 | [],ys,c,r,h1,h2=>by rw[fZ]at h1;subst h1;exact h2
 |x::xs,ys,c,r,h1,h2=>by
  rw[fZ]at h1
  obtain⟨c1,r1,rfl,h3,h4⟩:=h1
  rw[List.append_assoc]
  exact fZ.cons h3 (fZ.append h4 h2)
theorem fZ.one{x:Fm}{c:List T}(h:nC x c):fZ [x] c:=by
 have:=fZ.cons h fZ.nil
 rwa [List.append_nil]at this
theorem fZ.len: ∀{xs:List Fm} {cs:List T},fZ xs cs→cs.length=xs.length*3
 | [],cs,h=>by rw[fZ]at h;rw[h];rfl
 |x::xs,cs,h=>by
  rw[fZ]at h
  obtain⟨c,r,rfl,h1,h2⟩:=h
  rw[List.length_append,h1.len,h2.len,List.length_cons];omega
theorem fZ.drop: ∀{xs:List Fm} {cs:List T} (k:Nat) (hk:k<xs.length),fZ xs cs→ ∃c r,cs.drop (k*3)=c++r∧nC xs[k] c∧fZ (xs.drop (k+1)) r
 | [],cs,k,hk,h=>by simp at hk
 |x::xs,cs,0,hk,h=>by
  rw[fZ]at h
  obtain⟨c,r,rfl,h1,h2⟩:=h
  exact⟨c,r,by simp,h1,by simpa using h2⟩
 |x::xs,cs,k+1,hk,h=>by
  rw[fZ]at h
  obtain⟨c,r,rfl,h1,h2⟩:=h
  obtain⟨c',r',e,h3,h4⟩:=fZ.drop k (by simpa using hk) h2
  refine⟨c',r', ?_,h3,by simpa using h4⟩
  have:(k+1)*3=c.length+k*3:=by rw[h1.len];omega
  rw[this,List.drop_append,Nat.add_sub_cancel_left,List.drop_eq_nil_of_le (by omega),e];rfl
theorem Yq{xs:List Fm}{a:T}{cc:List T}(h1:fD a xs.length cc)(h2:fZ xs cc)(k:Nat)(hk:k<xs.length):
  ∃b cb r,(∀kk,tf a (.i kk (k:Int)) 3=some (.vp (.i .i64 xs[k].op:: .i .i64 xs[k].num::b::r)))∧fD b xs[k].args.length cb∧fZ xs[k].args cb:=by
 obtain⟨c,r,e,h3,h4⟩:=fZ.drop k hk h2
 obtain⟨b,cb,rfl,h5,h6⟩:=h3.cells
 refine⟨b,cb,r,fun kk=> ?_,h5,h6⟩
 rw[h1.ia (sz:=3) h2.len hk,e];rfl
mutual
def Fm.val(at_:List Int):Fm→Int
 | .mk op num args=>if op=1 then num else if op=6 then at_.getD num.toNat 0 else NG op (jT at_ args)
def jT(at_:List Int):List Fm→List Int
 | []=> []
 |x::xs=>x.val at_::jT at_ xs
end
theorem Fm.val_eq(at_:List Int)(x:Fm):x.val at_=if x.op=1 then x.num else if x.op=6 then at_.getD x.num.toNat 0 else NG x.op (jT at_ x.args):=by obtain⟨_,_,_⟩:=x;rw[Fm.val];rfl
theorem uc(at_:List Int): ∀xs,jT at_ xs=xs.map (Fm.val at_)
 | []=>rfl
 |x::xs=>by rw[jT,uc at_ xs];rfl
mutual
def S4(at_:List Int):Fm→Prop
 | .mk op num args=>(op=1∧bd num)∨(op=6∧0≤num∧num.toNat<at_.length∧bd (at_.getD num.toNat 0))∨(7≤op∧op≤22∧iI op args.length=true∧args.length≤om∧BJ at_ args∧vOk op (jT at_ args))
def BJ(at_:List Int):List Fm→Prop
 | []=>True
 |x::xs=>S4 at_ x∧BJ at_ xs
end
theorem ES(at_:List Int)(x:Fm):S4 at_ x↔((x.op=1∧bd x.num)∨(x.op=6∧0≤x.num∧x.num.toNat<at_.length∧bd (at_.getD x.num.toNat 0))∨(7≤x.op∧x.op≤22∧iI x.op x.args.length=true∧x.args.length≤om∧BJ at_ x.args∧vOk x.op (jT at_ x.args))):=by obtain⟨_,_,_⟩:=x;rw[S4];rfl
theorem Ht(at_:List Int): ∀{xs:List Fm},BJ at_ xs↔ ∀x∈xs,S4 at_ x
 | []=>by simp[BJ]
 |x::xs=>by rw[BJ,Ht at_ (xs:=xs)];simp
mutual
def Fm.sz:Fm→Nat
 | .mk _ _ args=>1+vH args
def vH:List Fm→Nat
 | []=>0
 |x::xs=>x.sz+vH xs
end
theorem Fm.sz_eq(x:Fm):x.sz=1+vH x.args:=by obtain⟨_,_,_⟩:=x;rw[Fm.sz];rfl
theorem Bj: ∀{xs:List Fm} {x:Fm},x∈xs→x.sz≤vH xs
 |y::xs,x,h=>by
  rw[vH]
  rcases List.mem_cons.1 h with rfl|h
  ·omega
  ·have:=Bj h;omega
theorem Fm.ind{P:Fm→Prop}(h: ∀x:Fm,(∀y∈x.args,P y)→P x)(x:Fm):P x:=by
 have: ∀n (x:Fm),x.sz≤n→P x:=by
  intro n
  induction n with
  |zero=>intro x hx;rw[x.sz_eq]at hx;omega
  |succ n ih=>
   intro x hx
   refine h x fun y hy=>ih y ?_
   have:=Bj hy
   rw[x.sz_eq]at hx;omega
 exact this _ x (Nat.le_refl _)
end Go.Proofs.YtblcbheipjeoeaaGreat
namespace Go.Proofs.YtblcbheipjeoeaaGreat
open Go Go.Ev
section
variable(at_:List Int)(La:T)(mW:fD La at_.length (ints at_))
def abS(f:Fm):Prop:= ∀(b:T) (cb r:List T),fD b f.args.length cb→fZ f.args cb→S4 at_ f→fj pE 121 [.vp (.i .i64 f.op:: .i .i64 f.num::b::r),La] []=some (.i .i64 (f.val at_),[])
include mW
theorem ajJ{xs:List Fm}(ih: ∀y∈xs,abS at_ La y){a:T}{cc:List T}(ha:fD a xs.length cc)(hx:fZ xs cc)(vR:BJ at_ xs)(k:Nat)(hk:k<xs.length)(j:Int)(hj:j=(k:Int)):
  ∃c,(∀kk,tf a (.i kk j) 3=some (.vp c))∧fj pE 121 [.vp c,La] []=some (.i .i64 (xs[k].val at_),[]):=by
 have _:=mW
 obtain⟨b,cb,r,fF,h1,h2⟩:=Yq ha hx k hk
 subst hj
 exact⟨_,fF,ih xs[k] (List.getElem_mem hk) b cb r h1 h2 ((Ht at_).1 vR _ (List.getElem_mem hk))⟩
theorem aow(op num:Int)(lY:op=12∨op=13)(xs:List Fm)(ih: ∀y∈xs,abS at_ La y)(a:T)(cc r:List T)(ha:fD a xs.length cc)(hx:fZ xs cc)(vR:BJ at_ xs)(jC:0<xs.length)(hlen:xs.length≤om)(fr:Fr)(lh:fC fg)(sh:List fg)
  (h0:an fr 0= .vp (.i .i64 op:: .i .i64 num::a::r)) (h1:an fr 1=La) (h5:an fr 5= .i .i64 (a0 (jT at_ xs))) (h6:an fr 6= .i .i64 1):
  DC pE 155 (.loop mj) ⟨fr,lh,sh⟩=some (.ext 1,⟨gr pE 155 mj fr lh sh,gp pE 155 mj fr lh sh,gn pE 155 mj fr lh sh⟩)∧
  (an (gr pE 155 mj fr lh sh) 5= .i .i64 (Sg op (a0 (jT at_ xs)) (jT at_ xs).tail)∧gp pE 155 mj fr lh sh=lh∧gn pE 155 mj fr lh sh=sh):=by
 refine fq (P:=fun fr fH fL=>an fr 5= .i .i64 (Sg op (a0 (jT at_ xs)) (jT at_ xs).tail)∧fH=lh∧fL=sh) (fw (fun k st=> ∃(fr:Fr) (m:Int),st=⟨fr,lh,sh⟩∧an fr 0= .vp (.i .i64 op:: .i .i64 num::a::r)∧an fr 1=La∧an fr 5= .i .i64 m∧an fr 6= .i .i64 (k:Int)∧Sg op m ((jT at_ xs).drop k)=Sg op (a0 (jT at_ xs)) (jT at_ xs).tail) _ xs.length ?_ ?_ 1 _ jC ⟨fr,a0 (jT at_ xs),rfl,h0,h1,h5,h6,by rw[List.drop_one]⟩)
 ·rintro k _ hk ⟨fr,m,rfl,h0,h1,h5,h6,Pe⟩
  left
  have fK:(k:Int)<xs.length:=by omega
  have hw:=fQ (k:=k) (by omega)
  have sZ:(jT at_ xs).length=xs.length:=by rw[uc];simp
  have hvk:(jT at_ xs)[k]'(by omega)=xs[k].val at_:=by simp[uc]
  obtain⟨c,fF,fu⟩:=ajJ at_ La mW ih ha hx vR k hk (k:Int) rfl
  rw[List.drop_eq_getElem_cons (by omega),Hs _ _ _ _ lY,hvk]at Pe
  generalize xs[k].val at_=v at Pe fu
  rcases lY with rfl|rfl
  ·rw[if_pos rfl,show min m v=(if v<m then v else m)by split <;> omega]at Pe
   simp(maxDischargeDepth:=6) only[qA,seval,mj,h0,h1,h5,h6,ha.lenI,fK,fF,hw,fu,ym,mW.froz]
   refine⟨_,rfl,_,_,rfl, ?_, ?_, ?_, ?_,Pe⟩ <;> simp(maxDischargeDepth:=6) only[qA,seval,h0,h1]
  ·rw[if_neg (by decide),show max m v=(if v>m then v else m)by split <;> omega]at Pe
   simp(maxDischargeDepth:=6) only[qA,seval,mj,h0,h1,h5,h6,ha.lenI,fK,fF,hw,fu,ym,mW.froz]
   refine⟨_,rfl,_,_,rfl, ?_, ?_, ?_, ?_,Pe⟩ <;> simp(maxDischargeDepth:=6) only[qA,seval,h0,h1]
 ·rintro _ ⟨fr,m,rfl,h0,h1,h5,h6,Pe⟩
  have sZ:(jT at_ xs).length=xs.length:=by rw[uc];simp
  rw[←sZ,List.drop_length,K9]at Pe
  simp(maxDischargeDepth:=6) only[qA,seval,mj,h0,h6,ha.lenI,Int.lt_irrefl]
  exact⟨_,_,(by simp:Out.ext 1≠ .nrm),rfl,rfl,by simp(maxDischargeDepth:=6) only[qA,seval,h5,Pe],rfl,rfl⟩
theorem abT(f:Fm):abS at_ La f:=by
 induction f using Fm.ind with
 |h f ih=>
  intro b cb r hb HH vR
  rw[fx JD (by simp[rB]),Fm.val_eq]
  rcases(ES at_ f).1 vR with⟨h1,_⟩|⟨h6,hn1,hn2,_⟩|⟨h7,NC,iA,Ho,ajK,hv⟩
  ·rw[if_pos h1]
   simp(maxDischargeDepth:=6) only[qA,seval,rB,h1]
  ·rw[if_neg (by omega),if_pos h6]
   have fF:=fun kk=>vO mW hn2 kk
   rw[Int.toNat_of_nonneg hn1]at fF
   have e:at_.getD f.num.toNat 0=at_[f.num.toNat]:=by simp[List.getD_eq_getElem?_getD,List.getElem?_eq_getElem hn2]
   rw[e]
   simp(maxDischargeDepth:=6) only[qA,seval,rB,h6,fF]
  ·rw[if_neg (by omega),if_neg (by omega)]
   have sZ:jT at_ f.args=f.args.map (Fm.val at_):=uc at_ _
   have hargs: ∀(k:Nat) (hk:k<f.args.length) (j:Int),j=(k:Int)→ ∃c,(∀kk,tf b (.i kk j) 3=some (.vp c))∧fj pE 121 [.vp c,La] []=some (.i .i64 (f.args[k].val at_),[]):=fun k hk j hj=>ajJ at_ La mW (fun y hy=>ih y hy) hb HH ajK k hk j hj
   have Pg:0<f.args.length→(f.op=12∨f.op=13)→za rB.res rB.eff (DC pE rB.n rB.code ⟨pG [.vp (.i .i64 f.op:: .i .i64 f.num::b::r),La],.nil,[]⟩)=some (.i .i64 (Sg f.op (a0 (jT at_ f.args)) (jT at_ f.args).tail),[]):=by
    intro jC ho
    obtain⟨c0,BK,Ds⟩:=hargs 0 jC 0 rfl
    have hL:=fun fr lh sh=>aow at_ La mW f.op f.num ho f.args (fun y hy=>ih y hy) b cb r hb HH ajK jC Ho fr lh sh
    have e0:a0 (jT at_ f.args)=f.args[0].val at_:=by rw[sZ];unfold a0;simp[List.getD_eq_getElem?_getD,List.getElem?_eq_getElem jC]
    rw[e0]at hL ⊢
    rcases ho with ho|ho <;> rw[ho]at hL ⊢ <;> simp(maxDischargeDepth:=6) only[qA,seval,rB,BK,Ds,ym,mW.froz,hL]
   have Nk: ∀x y:Int,jT at_ f.args= [x,y]→(f.op=8∨f.op=9∨f.op=10∨f.op=11∨f.op=16∨f.op=17∨f.op=18∨f.op=20∨f.op=21∨f.op=22)→za rB.res rB.eff (DC pE rB.n rB.code ⟨pG [.vp (.i .i64 f.op:: .i .i64 f.num::b::r),La],.nil,[]⟩)=some (.i .i64 (NG f.op [x,y]),[]):=by
    intro x y uR ho
    have SF:f.args.length=2:=by have:=congrArg List.length uR;rw[sZ]at this;simpa using this
    obtain⟨c0,BK,Ds⟩:=hargs 0 (by omega) 0 rfl
    obtain⟨c1,Si,HJ⟩:=hargs 1 (by omega) 1 rfl
    have e0:f.args[0].val at_=x:=by
     have:(jT at_ f.args)[0]? =some x:=by rw[uR];rfl
     rw[sZ]at this;simpa[List.getElem?_eq_getElem (show 0<f.args.length by omega)]using this
    have e1:f.args[1].val at_=y:=by
     have:(jT at_ f.args)[1]? =some y:=by rw[uR];rfl
     rw[sZ]at this;simpa[List.getElem?_eq_getElem (show 1<f.args.length by omega)]using this
    rw[e0]at Ds
    rw[e1]at HJ
    rw[uR]at hv
    have hcb:=Jr f.op x y hv ho
    rcases ho with ho|ho|ho|ho|ho|ho|ho|ho|ho|ho <;> rw[ho]at hcb ⊢ <;> simp(maxDischargeDepth:=6) only[qA,seval,gW,fU,rB,BK,Si,Ds,HJ,ym,Wv,mW.froz,hcb,af2,af3]
   have hg: ∀(k:Nat) (hk:k<f.args.length),(jT at_ f.args)[k]? =some (f.args[k].val at_):=fun k hk=>by rw[sZ];simp[List.getElem?_eq_getElem hk]
   rcases oQ (show 1≤f.op by omega) NC with h|h|h|h|h|h|h|h|h|h|h|h|h|h|h|h|h|h|h|h|h|h
   iterate 6 ·omega
   ·have OZ:f.args.length=1:=by rw[h]at iA;simpa[iI]using iA
    obtain⟨x,hx⟩:=R5 (ts:=jT at_ f.args) (by rw[sZ];simpa using OZ)
    obtain⟨c0,BK,Ds⟩:=hargs 0 (by omega) 0 rfl
    have e0:f.args[0].val at_=x:=by have:=hg 0 (by omega);rw[hx]at this;simpa using this.symm
    rw[e0]at Ds
    rw[hx]at hv ⊢
    have hxb:=hv.1 x (by simp)
    have ha:=EO (a:=0) (by unfold bd;omega) (EN hxb)
    have hw:=Sb hxb
    rw[show(0:Int)+ -x= -x by omega,Ng (EN hxb)]at ha
    rw[h]
    simp(maxDischargeDepth:=6) only[qA,seval,rB,BK,Ds,ym,mW.froz,hw,ha,OG];rfl
   ·obtain⟨x,y,uR⟩:=qI (ts:=jT at_ f.args) (by rw[sZ];rw[h]at iA;simpa[iI]using iA)
    rw[uR];exact Nk x y uR (by omega)
   ·obtain⟨x,y,uR⟩:=qI (ts:=jT at_ f.args) (by rw[sZ];rw[h]at iA;simpa[iI]using iA)
    rw[uR];exact Nk x y uR (by omega)
   ·obtain⟨x,y,uR⟩:=qI (ts:=jT at_ f.args) (by rw[sZ];rw[h]at iA;simpa[iI]using iA)
    rw[uR];exact Nk x y uR (by omega)
   ·obtain⟨x,y,uR⟩:=qI (ts:=jT at_ f.args) (by rw[sZ];rw[h]at iA;simpa[iI]using iA)
    rw[uR];exact Nk x y uR (by omega)
   ·rw[Pg (by rw[h]at iA;simp[iI]at iA;omega) (by omega),h];rfl
   ·rw[Pg (by rw[h]at iA;simp[iI]at iA;omega) (by omega),h];rfl
   ·have hl3:f.args.length=3:=by rw[h]at iA;simpa[iI]using iA
    obtain⟨x,y,z,hx⟩:=Nf (ts:=jT at_ f.args) (by rw[sZ];simpa using hl3)
    obtain⟨c0,BK,Ds⟩:=hargs 0 (by omega) 0 rfl
    obtain⟨c1,Si,HJ⟩:=hargs 1 (by omega) 1 rfl
    obtain⟨c2,abU,YC⟩:=hargs 2 (by omega) 2 rfl
    have e0:f.args[0].val at_=x:=by have:=hg 0 (by omega);rw[hx]at this;simpa using this.symm
    have e1:f.args[1].val at_=y:=by have:=hg 1 (by omega);rw[hx]at this;simpa using this.symm
    have e2:f.args[2].val at_=z:=by have:=hg 2 (by omega);rw[hx]at this;simpa using this.symm
    rw[e0]at Ds
    rw[e1]at HJ
    rw[e2]at YC
    rw[hx,h,show NG 14 [x,y,z]=if x=0 then z else y from rfl]
    by_cases hx0:x=0 <;> simp(maxDischargeDepth:=6) only[qA,seval,rB,BK,Si,abU,Ds,HJ,YC,ym,mW.froz,hx0]
   ·have hl3:f.args.length=3:=by rw[h]at iA;simpa[iI]using iA
    obtain⟨x,y,z,hx⟩:=Nf (ts:=jT at_ f.args) (by rw[sZ];simpa using hl3)
    obtain⟨c0,BK,Ds⟩:=hargs 0 (by omega) 0 rfl
    obtain⟨c1,Si,HJ⟩:=hargs 1 (by omega) 1 rfl
    obtain⟨c2,abU,YC⟩:=hargs 2 (by omega) 2 rfl
    have e0:f.args[0].val at_=x:=by have:=hg 0 (by omega);rw[hx]at this;simpa using this.symm
    have e1:f.args[1].val at_=y:=by have:=hg 1 (by omega);rw[hx]at this;simpa using this.symm
    have e2:f.args[2].val at_=z:=by have:=hg 2 (by omega);rw[hx]at this;simpa using this.symm
    rw[e0]at Ds
    rw[e1]at HJ
    rw[e2]at YC
    rw[hx,h]
    have hi:=Jq x y z
    have ht:=xp (KP x y z)
    simp(maxDischargeDepth:=6) only[qA,seval,gW,fU,rB,BK,Si,abU,Ds,HJ,YC,ym,Wv,mW.froz,hi,ht,af0,af1,JJ,afZ];rfl
   iterate 3
    ·obtain⟨x,y,uR⟩:=qI (ts:=jT at_ f.args) (by rw[sZ];rw[h]at iA;simpa[iI]using iA)
     rw[uR];exact Nk x y uR (by omega)
   ·have OZ:f.args.length=1:=by rw[h]at iA;simpa[iI]using iA
    obtain⟨x,hx⟩:=R5 (ts:=jT at_ f.args) (by rw[sZ];simpa using OZ)
    obtain⟨c0,BK,Ds⟩:=hargs 0 (by omega) 0 rfl
    have e0:f.args[0].val at_=x:=by have:=hg 0 (by omega);rw[hx]at this;simpa using this.symm
    rw[e0]at Ds
    rw[hx]at hv ⊢
    have hxb:=hv.2.1 (by omega) x (by simp)
    have hw:wr .i64 (1-x)=1-x:=by unfold bit at hxb;exact kM ⟨by omega,by omega⟩
    rw[h]
    simp(maxDischargeDepth:=6) only[qA,seval,rB,BK,Ds,ym,mW.froz,hw];rfl
   iterate 3
    ·obtain⟨x,y,uR⟩:=qI (ts:=jT at_ f.args) (by rw[sZ];rw[h]at iA;simpa[iI]using iA)
     rw[uR];exact Nk x y uR (by omega)
end
end Go.Proofs.YtblcbheipjeoeaaGreat
namespace Go.Proofs.YtblcbheipjeoeaaGreat
open Go Go.Ev
mutual
def Ex.kX:Ex→Int
 | .mk op _ _ args=>if op=1 then 1 else if op=2 then 2 else if op=3 then 3 else if op=7∨op=8∨op=9∨op=12∨op=13 then a0 (kXL args)else if op=14 then a1 (kXL args)
   else if op=10 then max (a0 (kXL args)) (a1 (kXL args))else if op=11 then(if a1 (kXL args)=2 then 1 else a0 (kXL args))else 4
def kXL:List Ex→List Int
 | []=> []
 |x::xs=>x.kX::kXL xs
end
end Go.Proofs.YtblcbheipjeoeaaGreat
namespace Go.Proofs.YtblcbheipjeoeaaGreat
open Go Go.Ev
def Js(k n:Int):Prop:=((k=1∨k=2)∧bd n)∨(k=3∧0≤n∧n≤1439)∨(k=4∧bit n)
theorem Sj{k n:Int}(h:Js k n):bd n:=by
 rcases h with⟨_,h⟩|⟨_,h1,h2⟩|⟨_,h⟩
 ·exact h
 ·unfold bd;omega
 ·exact abR h
theorem ET{n:Int}(h:Js 4 n):bit n:=by
 rcases h with⟨h|h,_⟩|⟨h,_⟩|⟨_,h⟩
 ·omega
 ·omega
 ·omega
 ·exact h
theorem yi{k n:Int}(h:k=1∨k=2)(hb:bd n):Js k n:= .inl ⟨h,hb⟩
def nc:List Nat→Int×Int:=fun _=>(0,6)
def FK(scope k:Int)(y:Ex):Prop:=y.wf=true∧y.ty nc scope=(k,0)
def YL(scope:Int):List Int→List Ex→Prop
 | [],[]=>True
 |t::ts,y::ys=>FK scope t y∧YL scope ts ys
 |_,_=>False
theorem YL.wf{scope:Int}: ∀{ts:List Int} {ys:List Ex},YL scope ts ys→sk ys=true
 | [],[],_=>rfl
 |t::ts,y::ys,h=>by rw[sk,h.1.1,YL.wf h.2];rfl
theorem YL.ty{scope:Int}: ∀{ts:List Int} {ys:List Ex},YL scope ts ys→pB nc scope ys= .ok ts
 | [],[],_=>by rw[pB]
 |t::ts,y::ys,h=>by
  rw[pB,h.1.2,YL.ty h.2];rfl
theorem FK.mk{scope k:Int}{op:Int}{ys:List Ex}{ts:List Int}(h1:1≤op)(h2:op≤22)(h6:op≠6)(iA:iI op ys.length=true)(SN:YL scope ts ys)(hr:kO op ts=k)(hk:k≠0):FK scope k (.mk op 0 [] ys):=by
 constructor
 ·rw[Ex.wf_eq,Bool.and_eq_true]
  refine⟨?_,SN.wf⟩
  have hm:0≤pz op:=by unfold pz;split <;> (try split) <;> decide
  simp only[nE,Bool.and_eq_true,decide_eq_true_eq]
  refine⟨h1,h2,iA,⟨Int.le_refl _,hm⟩, ?_⟩
  show(if op=6 then pv []else decide (([]:List Nat)= []))=true
  rw[if_neg h6];rfl
 ·rw[Ex.ty_eq]
  show(if op=6 then _ else match pB nc scope ys with| .error e=>(0,e)| .ok ts=>if kO op ts=0 then(0,9)else(kO op ts,0))=(k,0)
  rw[if_neg h6,SN.ty]
  show(if kO op ts=0 then((0:Int),(9:Int))else(kO op ts,0))=(k,0)
  rw[hr,if_neg hk]
theorem FK.leaf{scope k op num:Int}(h:(op=1∧k=1∧0≤num∧num≤1099511627776)∨(op=2∧k=2∧0≤num∧num≤1099511627776)∨(op=3∧k=3∧0≤num∧num≤1439)∨(op=4∧k=4∧num=0)∨(op=5∧k=4∧num=0)):FK scope k (k7 op num):=by
 have hw:(k7 op num).wf=nE op num [] 0:=by rw[Ex.wf_eq];simp[k7,Ex.op,Ex.num,Ex.name,Ex.args,sk]
 have ht:op≠6→(k7 op num).ty nc scope=if kO op []=0 then(0,9)else(kO op [],0):=fun h6=>by
  rw[Ex.ty_eq];simp only[k7,Ex.op,Ex.args,if_neg h6,pB];rfl
 constructor
 ·rw[hw]
  simp only[nE,Bool.and_eq_true,decide_eq_true_eq]
  rcases h with⟨rfl,rfl,h1,h2⟩|⟨rfl,rfl,h1,h2⟩|⟨rfl,rfl,h1,h2⟩|⟨rfl,rfl,rfl⟩|⟨rfl,rfl,rfl⟩
  ·exact⟨by decide,by decide,rfl,⟨h1,h2⟩,rfl⟩
  ·exact⟨by decide,by decide,rfl,⟨h1,h2⟩,rfl⟩
  ·exact⟨by decide,by decide,rfl,⟨h1,h2⟩,rfl⟩
  ·exact⟨by decide,by decide,rfl,⟨by decide,by decide⟩,rfl⟩
  ·exact⟨by decide,by decide,rfl,⟨by decide,by decide⟩,rfl⟩
 ·rcases h with⟨rfl,rfl,h1,h2⟩|⟨rfl,rfl,h1,h2⟩|⟨rfl,rfl,h1,h2⟩|⟨rfl,rfl,rfl⟩|⟨rfl,rfl,rfl⟩ <;> rw[ht (by decide)] <;> rfl
theorem EU{scope k n:Int}(h:Js k n):FK scope k (uP k n)∧isLit (uP k n)=true∧VS (uP k n)=n:=by
 unfold uP
 rcases h with⟨hk,hb⟩|⟨rfl,h1,h2⟩|⟨rfl,hb⟩
 ·have h4:k≠4:=by omega
  have h3:k≠3:=by omega
  rw[if_neg h4,if_neg h3]
  unfold bd at hb
  by_cases h0:n<0
  ·rw[if_pos h0]
   rcases hk with rfl|rfl
   ·refine⟨FK.mk (ts:= [1]) (by decide) (by decide) (by decide) rfl ⟨FK.leaf (.inl ⟨rfl,rfl,by omega,by omega⟩),trivial⟩ rfl (by decide),rfl, ?_⟩
    show- -n=n;omega
   ·refine⟨FK.mk (ts:= [2]) (by decide) (by decide) (by decide) rfl ⟨FK.leaf (.inr (.inl ⟨rfl,rfl,by omega,by omega⟩)),trivial⟩ rfl (by decide),rfl, ?_⟩
    show- -n=n;omega
  ·rw[if_neg h0]
   rcases hk with rfl|rfl
   ·exact⟨FK.leaf (.inl ⟨rfl,rfl,by omega,by omega⟩),rfl,rfl⟩
   ·exact⟨FK.leaf (.inr (.inl ⟨rfl,rfl,by omega,by omega⟩)),rfl,rfl⟩
 ·rw[if_neg (by decide),if_pos rfl]
  exact⟨FK.leaf (.inr (.inr (.inl ⟨rfl,rfl,h1,h2⟩))),rfl,rfl⟩
 ·rw[if_pos rfl]
  rcases hb with rfl|rfl
  ·exact⟨FK.leaf (.inr (.inr (.inr (.inr ⟨rfl,rfl,rfl⟩)))),rfl,rfl⟩
  ·exact⟨FK.leaf (.inr (.inr (.inr (.inl ⟨rfl,rfl,rfl⟩)))),rfl,rfl⟩
theorem Lb{cl:List Nat→Int×Int}{scope:Int}: ∀{xs:List Ex} {e:Int},pB cl scope xs= .error e→e≠0
 | [],e,h=>by rw[pB]at h;cases h
 |x::xs,e,h=>by
  rw[pB]at h
  split at h
  ·rename_i h0;cases h;exact h0
  ·cases hx:pB cl scope xs with
   |error e'=>rw[hx]at h;cases h;exact Lb hx
   |ok us=>rw[hx]at h;cases h
end Go.Proofs.YtblcbheipjeoeaaGreat
namespace Go.Proofs.YtblcbheipjeoeaaGreat
open Go Go.Ev
def yj:List Int→List Int→Prop
 | [],[]=>True
 |t::ts,v::vs=>Js t v∧yj ts vs
 |_,_=>False
theorem yj.len: ∀{ts vs:List Int},yj ts vs→ts.length=vs.length
 | [],[],_=>rfl
 |t::ts,v::vs,h=>by rw[List.length_cons,List.length_cons,yj.len h.2]
theorem yj.bd: ∀{ts vs:List Int},yj ts vs→ ∀v∈vs,bd v
 | [],[],_=>by simp
 |t::ts,v::vs,h=>by
  intro w hw
  rcases List.mem_cons.1 hw with rfl|hw
  ·exact Sj h.1
  ·exact yj.bd h.2 w hw
theorem yj.all{k:Int}: ∀{ts vs:List Int},yj ts vs→jd ts k=true→ ∀v∈vs,Js k v
 | [],[],_,_=>by simp
 |t::ts,v::vs,h,ha=>by
  rw[ot,Bool.and_eq_true,decide_eq_true_eq]at ha
  intro w hw
  rcases List.mem_cons.1 hw with rfl|hw
  ·rw[←ha.1];exact h.1
  ·exact yj.all h.2 ha.2 w hw
theorem Jt(op:Int)(h:op=12∨op=13): ∀(vs:List Int) (m:Int),bd m→(∀v∈vs,bd v)→bd (Sg op m vs)
 | [],m,hm,_=>by rw[K9];exact hm
 |v::vs,m,hm,hv=>by
  rw[Hs _ _ _ _ h]
  refine Jt op h vs _ ?_ (fun w hw=>hv w (by simp[hw]))
  have:=hv v (by simp)
  split <;> (unfold Go.Proofs.YtblcbheipjeoeaaGreat.bd at *; omega)
theorem k12{ts:List Int}{k:Int}(h:(if jd ts 1=true then(1:Int)else if jd ts 2=true then 2 else 0)=k)(hk:k≠0):k=1∨k=2:=by
 split at h
 ·exact .inl h.symm
 ·split at h
  ·exact .inr h.symm
  ·exact absurd h.symm hk
theorem Hu{op a b k:Int}(h:pA op a b=k)(hk:k≠0):k=1∨k=2:=by
 unfold pA at h
 split at h
 ·omega
 ·split at h
  ·omega
  ·split at h
   ·omega
   ·split at h <;> omega
theorem YM{op k:Int}{ts vs:List Int}(tp:yj ts vs)(h7:7≤op)(NC:op≤22)(iA:iI op ts.length=true)(hr:kO op ts=k)(hk:k≠0):vOk op vs∧Js k (NG op vs):=by
 have tI:=tp.bd
 have hlen:=tp.len
 have flag: ∀b:Bool,Js 4 (xj b):=fun b=> .inr (.inr ⟨rfl,Nj b⟩)
 rcases oQ (show 1≤op by omega) NC with rfl|rfl|rfl|rfl|rfl|rfl|rfl|rfl|rfl|rfl|rfl|rfl|rfl|rfl|rfl|rfl|rfl|rfl|rfl|rfl|rfl|rfl
 iterate 6 ·omega
 ·have Sk:=k12 hr hk
  obtain⟨v,rfl⟩:=R5 (ts:=vs) (by rw[←hlen];simpa[iI]using iA)
  exact⟨⟨tI,fun h=>absurd h (by decide),fun h=>absurd h (by decide)⟩,yi Sk (EN (tI v (by simp)))⟩
 ·have Sk:=k12 hr hk
  obtain⟨v,w,rfl⟩:=qI (ts:=vs) (by rw[←hlen];simpa[iI]using iA)
  exact⟨⟨tI,fun h=>absurd h (by decide),fun h=>absurd h (by decide)⟩,yi Sk (uH _)⟩
 ·have Sk:=k12 hr hk
  obtain⟨v,w,rfl⟩:=qI (ts:=vs) (by rw[←hlen];simpa[iI]using iA)
  exact⟨⟨tI,fun h=>absurd h (by decide),fun h=>absurd h (by decide)⟩,yi Sk (uH _)⟩
 ·have Sk:=Hu (op:=10) hr hk
  obtain⟨v,w,rfl⟩:=qI (ts:=vs) (by rw[←hlen];simpa[iI]using iA)
  exact⟨⟨tI,fun h=>absurd h (by decide),fun h=>absurd h (by decide)⟩,yi Sk (uH _)⟩
 ·have Sk:=Hu (op:=11) hr hk
  obtain⟨v,w,rfl⟩:=qI (ts:=vs) (by rw[←hlen];simpa[iI]using iA)
  exact⟨⟨tI,fun h=>absurd h (by decide),fun h=>absurd h (by decide)⟩,yi Sk (Wk _ _)⟩
 iterate 2
  ·have Sk:=k12 hr hk
   match vs,tI,hlen with
   | [],_,hlen=>rw[hlen]at iA;simp[iI]at iA
   |v::vs,tI,_=>
    refine⟨⟨tI,fun h=>absurd h (by decide),fun h=>absurd h (by decide)⟩,yi Sk ?_⟩
    first
     |exact Jt 12 (.inl rfl) vs v (tI v (by simp)) (fun w hw=>tI w (by simp[hw]))
     |exact Jt 13 (.inr rfl) vs v (tI v (by simp)) (fun w hw=>tI w (by simp[hw]))
 ·obtain⟨a,b,c,rfl⟩:=Nf (ts:=ts) (by simpa[iI]using iA)
  obtain⟨x,y,z,rfl⟩:=Nf (ts:=vs) (by rw[←hlen];rfl)
  obtain⟨h1,h2,h3,_⟩:=tp
  have xo:(if a=4∧b=c then b else 0)=k:=hr
  split at xo
  ·rename_i hab
   obtain⟨rfl,rfl⟩:=hab
   subst xo
   have Sh:=ET h1
   refine⟨⟨tI,fun h=>absurd h (by decide),fun _=>Sh⟩, ?_⟩
   show Js b (if x=0 then z else y)
   split
   ·exact h3
   ·exact h2
  ·exact absurd xo.symm hk
 ·have xo:(if jd ts 3=true then(4:Int)else 0)=k:=hr
  split at xo
  ·subst xo
   exact⟨⟨tI,fun h=>absurd h (by decide),fun h=>absurd h (by decide)⟩,flag _⟩
  ·exact absurd xo.symm hk
 iterate 2
  ·have xo:(if(a0 ts=1∨a0 ts=2)∧a0 ts=a1 ts then(4:Int)else 0)=k:=hr
   split at xo
   ·subst xo
    exact⟨⟨tI,fun h=>absurd h (by decide),fun h=>absurd h (by decide)⟩,flag _⟩
   ·exact absurd xo.symm hk
 ·have xo:(if a0 ts=a1 ts then(4:Int)else 0)=k:=hr
  split at xo
  ·subst xo
   exact⟨⟨tI,fun h=>absurd h (by decide),fun h=>absurd h (by decide)⟩,flag _⟩
  ·exact absurd xo.symm hk
 ·have xo:(if jd ts 4=true then(4:Int)else 0)=k:=hr
  split at xo
  ·rename_i gz
   subst xo
   have hb:=fun v hv=>ET (tp.all gz v hv)
   obtain⟨v,rfl⟩:=R5 (ts:=vs) (by rw[←hlen];simpa[iI]using iA)
   have hv:=hb v (by simp)
   refine⟨⟨tI,fun _=>hb,fun h=>absurd h (by decide)⟩,.inr (.inr ⟨rfl, ?_⟩)⟩
   show bit (1-v)
   unfold bit at *; omega
  ·exact absurd xo.symm hk
 iterate 3
  ·have xo:(if jd ts 4=true then(4:Int)else 0)=k:=hr
   split at xo
   ·rename_i gz
    subst xo
    have hb:=fun v hv=>ET (tp.all gz v hv)
    obtain⟨v,w,rfl⟩:=qI (ts:=vs) (by rw[←hlen];simpa[iI]using iA)
    have hv:=hb v (by simp)
    have hw:=hb w (by simp)
    refine⟨⟨tI,fun _=>hb,fun h=>absurd h (by decide)⟩,.inr (.inr ⟨rfl, ?_⟩)⟩
    first
     |(show bit (min v w);unfold bit at *; omega)
     |(show bit (max v w);unfold bit at *; omega)
     |(show bit (max (1-v) w);unfold bit at *; omega)
   ·exact absurd xo.symm hk
end Go.Proofs.YtblcbheipjeoeaaGreat
