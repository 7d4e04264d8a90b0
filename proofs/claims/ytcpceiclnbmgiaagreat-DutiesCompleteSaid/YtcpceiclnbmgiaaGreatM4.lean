/- Walks of functions of the program and of the reference, and their plain laws, part 4. Conditions: the theorems' own. -/
import Derived.Test.YtcpceiclnbmgiaaGreatM3
import Derived.KernelRfl
set_option maxRecDepth 100000
set_option linter.unusedSimpArgs false
set_option linter.unusedVariables false
set_option maxHeartbeats 16000000
namespace Go.Proofs.YtcpceiclnbmgiaaGreat
open Go Go.Ev
def bit(n:Int):Prop:=n=0∨n=1
theorem alo{n:Int}(h:bit n):bd n:=by unfold bit at h;unfold bd;omega
theorem S7(b:Bool):bit (qm b):=by cases b <;> simp[qm,bit]
theorem Ok(c f t:Int):be pE 111 [.i .i64 c,.i .i64 f,.i .i64 t] []=some (.b (nD c f t),[]):=by
 rw[il UM (by simp[QJ])]
 unfold nD
 by_cases F:f≤t
 ·by_cases r:f≤c <;> by_cases D:c<t <;> simp only[qA,seval,QJ,F,r,D]
 ·by_cases r:f≤c <;> by_cases D:c<t <;> simp only[qA,seval,QJ,F,r,D,or_true,or_false,or_self]
theorem zX(b:Bool):be pE 110 [.b b] []=some (.i .i64 (qm b),[]):=by
 rw[il UL (by simp[T3])]
 cases b <;> simp only[qA,seval,T3,qm]
def Zi(op:Int):Int→List Int→Int:=if op=12 then ai5 else ai6
theorem L1(op m v:Int)(i:List Int)(h:op=12∨op=13):Zi op m (v::i)=Zi op (if op=12 then min m v else max m v) i:=by
 unfold Zi
 rcases h with rfl|rfl <;> rfl
theorem Qy(op m:Int):Zi op m []=m:=by unfold Zi;split <;> rfl
def vOk(op:Int)(i:List Int):Prop:=(∀v∈i,bd v)∧((op=19∨op=20∨op=21∨op=22)→ ∀v∈i,bit v)∧(op=14→bit (a0 i))
theorem Ol(op a b:Int)(N:vOk op [a,b])(O:op=8∨op=9∨op=10∨op=11∨op=16∨op=17∨op=18∨op=20∨op=21∨op=22):be pE 113 [.i .i64 op,.i .i64 a,.i .i64 b] []=some (.i .i64 (Tm op [a,b]),[]):=by
 rw[il UO (by simp[ye])]
 obtain⟨J,Zj,_⟩:=N
 have I:=J a (by simp)
 have F:=J b (by simp)
 have r:(op=19∨op=20∨op=21∨op=22)→bit a∧bit b:=fun h=>⟨Zj h a (by simp),Zj h b (by simp)⟩
 clear J Zj
 rcases O with rfl|rfl|rfl|rfl|rfl|rfl|rfl|rfl|rfl|rfl
 ·have h:=IC I F
  simp only[qA,seval,ye,h,UN];rfl
 ·have h:=IC I (IB F)
  have K:=YV F
  simp only[qA,seval,ye,h,K,UN];rfl
 ·have h:=Qo I F
  simp only[qA,seval,ye,h,aeO];rfl
 ·have h:=adJ I F
  simp only[qA,seval,ye,h,aqQ];rfl
 ·have h:=zX (decide (a<b))
  simp only[qA,seval,ye,h,Oy];rfl
 ·have h:=zX (decide (a≤b))
  simp only[qA,seval,ye,h,Oy];rfl
 ·have h:=zX (decide (a=b))
  simp only[qA,seval,ye,h,Oy];rfl
 ·obtain⟨D,H⟩:=r (by simp)
  have h:=acs D H
  simp only[qA,seval,ye,h];rfl
 ·obtain⟨D,H⟩:=r (by simp)
  have h:=WV D H
  simp only[qA,seval,ye,h];rfl
 ·obtain⟨D,H⟩:=r (by simp)
  have K:wr .i64 (1-a)=1-a:=by unfold bit at D;exact js ⟨by omega,by omega⟩
  have h:=WV (a:=1-a) (b:=b) (by unfold bit at D;omega) H
  simp only[qA,seval,ye,K,h];rfl
inductive Fm where
 |mk (op num:Int) (args:List Fm)
def Fm.op:Fm→Int| .mk o _ _=>o
def Fm.num:Fm→Int| .mk _ n _=>n
def Fm.args:Fm→List Fm| .mk _ _ a=>a
mutual
def oB:Fm→List T→Prop
 | .mk op num args,cs=> ∃a r,cs= [.i .i64 op,.i .i64 num,a]∧IsSl a args.length r∧iS args r
def iS:List Fm→List T→Prop
 | [],cs=>cs= []
 |x::xs,cs=> ∃c r,cs=c++r∧oB x c∧iS xs r
end
theorem oB.cells{x:Fm}{cs:List T}(h:oB x cs): ∃a r,cs= [.i .i64 x.op,.i .i64 x.num,a]∧IsSl a x.args.length r∧iS x.args r:=by
 obtain⟨o,n,a⟩:=x
 rw[oB]at h
 exact h
theorem oB.of{x:Fm}{a:T}{r:List T}(D:IsSl a x.args.length r)(F:iS x.args r):oB x [.i .i64 x.op,.i .i64 x.num,a]:=by
 obtain⟨o,n,l⟩:=x
 rw[oB]
 exact⟨a,r,rfl,D,F⟩
theorem oB.len{x:Fm}{cs:List T}(h:oB x cs):cs.length=3:=by
 obtain⟨a,i,rfl,_⟩:=h.cells;rfl
theorem iS.nil:iS [] []:=by rw[iS]
theorem iS.cons{x:Fm}{xs:List Fm}{c r:List T}(i:oB x c)(D:iS xs r):iS (x::xs) (c++r):=by
 grind [iS]
theorem iS.append: ∀{xs i:List Fm} {c r:List T},iS xs c→iS i r→iS (xs++i) (c++r)
 | [],i,c,r,D,F=>by grind [iS]
 |x::xs,i,c,r,D,F=>by
  rw[iS]at D
  obtain⟨J,K,rfl,H,I⟩:=D
  rw[List.append_assoc]
  exact iS.cons H (iS.append I F)
theorem iS.one{x:Fm}{c:List T}(h:oB x c):iS [x] c:=by
 have:=iS.cons h iS.nil
 grind
theorem iS.len: ∀{xs:List Fm} {cs:List T},iS xs cs→cs.length=xs.length*3
 | [],cs,h=>by grind [iS]
 |x::xs,cs,h=>by
  rw[iS]at h
  obtain⟨c,r,rfl,i,D⟩:=h
  rw[List.length_append,i.len,D.len,List.length_cons];omega
theorem iS.drop: ∀{xs:List Fm} {cs:List T} (k:Nat) (hk:k<xs.length),iS xs cs→ ∃c r,cs.drop (k*3)=c++r∧oB xs[k] c∧iS (xs.drop (k+1)) r
 | [],cs,k,hk,h=>by simp at hk
 |x::xs,cs,0,hk,h=>by
  grind [iS]
 |x::xs,cs,k+1,hk,h=>by
  rw[iS]at h
  obtain⟨c,r,rfl,i,D⟩:=h
  obtain⟨F,H,e,I,J⟩:=iS.drop k (by simpa using hk) D
  refine⟨F,H, ?_,I,by simpa using J⟩
  have:(k+1)*3=c.length+k*3:=by rw[i.len];omega
  grind [List.drop_append,Nat.add_sub_cancel_left,List.drop_eq_nil_of_le]
theorem X1{xs:List Fm}{a:T}{F:List T}(I:IsSl a xs.length F)(H:iS xs F)(k:Nat)(hk:k<xs.length):
  ∃b D r,(∀kk,lY a (.i kk (k:Int)) 3=some (.vp (.i .i64 xs[k].op:: .i .i64 xs[k].num::b::r)))∧IsSl b xs[k].args.length D∧iS xs[k].args D:=by
 obtain⟨c,r,e,J,O⟩:=iS.drop k hk H
 obtain⟨b,D,rfl,K,N⟩:=J.cells
 refine⟨b,D,r,fun kk=> ?_,K,N⟩
 rw[I.ia (sz:=3) H.len hk,e];rfl
mutual
def Fm.val(at_:List Int):Fm→Int
 | .mk op num args=>if op=1 then num else if op=6 then at_.getD num.toNat 0 else Tm op (l9 at_ args)
def l9(at_:List Int):List Fm→List Int
 | []=> []
 |x::xs=>x.val at_::l9 at_ xs
end
theorem Fm.val_eq(at_:List Int)(x:Fm):x.val at_=if x.op=1 then x.num else if x.op=6 then at_.getD x.num.toNat 0 else Tm x.op (l9 at_ x.args):=by obtain⟨_,_,_⟩:=x;rw[Fm.val];rfl
theorem vE(at_:List Int): ∀xs,l9 at_ xs=xs.map (Fm.val at_)
 | []=>rfl
 |x::xs=>by rw[l9,vE at_ xs];rfl
mutual
def Fi(at_:List Int):Fm→Prop
 | .mk op num args=>(op=1∧bd num)∨(op=6∧0≤num∧num.toNat<at_.length∧bd (at_.getD num.toNat 0))∨(7≤op∧op≤22∧lJ op args.length=true∧args.length≤qK∧E2 at_ args∧vOk op (l9 at_ args))
def E2(at_:List Int):List Fm→Prop
 | []=>True
 |x::xs=>Fi at_ x∧E2 at_ xs
end
theorem IK(at_:List Int)(x:Fm):Fi at_ x↔((x.op=1∧bd x.num)∨(x.op=6∧0≤x.num∧x.num.toNat<at_.length∧bd (at_.getD x.num.toNat 0))∨(7≤x.op∧x.op≤22∧lJ x.op x.args.length=true∧x.args.length≤qK∧E2 at_ x.args∧vOk x.op (l9 at_ x.args))):=by obtain⟨_,_,_⟩:=x;rw[Fi];rfl
theorem L2(at_:List Int): ∀{xs:List Fm},E2 at_ xs↔ ∀x∈xs,Fi at_ x
 | []=>by simp[E2]
 |x::xs=>by simp_all[E2,L2]
mutual
def Fm.sz:Fm→Nat
 | .mk _ _ args=>1+xS args
def xS:List Fm→Nat
 | []=>0
 |x::xs=>x.sz+xS xs
end
theorem Fm.sz_eq(x:Fm):x.sz=1+xS x.args:=by obtain⟨_,_,_⟩:=x;rw[Fm.sz];rfl
theorem E3: ∀{xs:List Fm} {x:Fm},x∈xs→x.sz≤xS xs
 |y::xs,x,h=>by
  rw[xS]
  rcases List.mem_cons.1 h with rfl|h
  ·omega
  ·have:=E3 h;omega
theorem Fm.ind{P:Fm→Prop}(h: ∀x:Fm,(∀y∈x.args,P y)→P x)(x:Fm):P x:=by
 have: ∀n (x:Fm),x.sz≤n→P x:=by
  intro n
  induction n with
  |zero=>intro x hx;rw[x.sz_eq]at hx;omega
  |succ n ih=>
   intro x hx
   refine h x fun y i=>ih y ?_
   have:=E3 i
   rw[x.sz_eq]at hx;omega
 exact this _ x (Nat.le_refl _)
section
variable(at_:List Int)(qx:T)(kR:IsSl qx at_.length (ints at_))
def alp(f:Fm):Prop:= ∀(b:T) (D r:List T),IsSl b f.args.length D→iS f.args D→Fi at_ f→be pE 72 [.vp (.i .i64 f.op:: .i .i64 f.num::b::r),qx] []=some (.i .i64 (f.val at_),[])
include kR
theorem auW{xs:List Fm}(ih: ∀y∈xs,alp at_ qx y){a:T}{D:List T}(F:IsSl a xs.length D)(hx:iS xs D)(H:E2 at_ xs)(k:Nat)(hk:k<xs.length)(j:Int)(I:j=(k:Int)):
  ∃c,(∀kk,lY a (.i kk j) 3=some (.vp c))∧be pE 72 [.vp c,qx] []=some (.i .i64 (xs[k].val at_),[]):=by
 have _:=kR
 obtain⟨b,J,r,K,N,O⟩:=X1 F hx k hk
 subst I
 exact⟨_,K,ih xs[k] (List.getElem_mem hk) b J r N O ((L2 at_).1 H _ (List.getElem_mem hk))⟩
theorem aCd(op num:Int)(Gu:op=12∨op=13)(xs:List Fm)(ih: ∀y∈xs,alp at_ qx y)(a:T)(U r:List T)(K:IsSl a xs.length U)(hx:iS xs U)(tW:E2 at_ xs)(mB:0<xs.length)(V:xs.length≤qK)(fr:Fr)(lh:iq b8)(sh:List b8)
  (F:an fr 0= .vp (.i .i64 op:: .i .i64 num::a::r)) (H:an fr 1=qx) (I:an fr 5= .i .i64 (a0 (l9 at_ xs))) (J:an fr 6= .i .i64 1):
  wS 155 uM fr lh sh (.ext 1)∧
  (an (tO pE 155 uM fr lh sh) 5= .i .i64 (Zi op (a0 (l9 at_ xs)) (l9 at_ xs).tail)∧n5 pE 155 uM fr lh sh=lh∧oH pE 155 uM fr lh sh=sh):=by
 refine jJ (P:=fun fr iR iT=>an fr 5= .i .i64 (Zi op (a0 (l9 at_ xs)) (l9 at_ xs).tail)∧iR=lh∧iT=sh) (j6 (fun k st=> ∃(fr:Fr) (m:Int),st=⟨fr,lh,sh⟩∧an fr 0= .vp (.i .i64 op:: .i .i64 num::a::r)∧an fr 1=qx∧an fr 5= .i .i64 m∧an fr 6= .i .i64 (k:Int)∧Zi op m ((l9 at_ xs).drop k)=Zi op (a0 (l9 at_ xs)) (l9 at_ xs).tail) _ xs.length ?_ ?_ 1 _ mB ⟨fr,a0 (l9 at_ xs),rfl,F,H,I,J,by rw[List.drop_one]⟩)
 ·rintro k _ hk ⟨fr,m,rfl,F,H,I,J,D⟩
  left
  have W:(k:Int)<xs.length:=by omega
  have X:=ji (k:=k) (by omega)
  have Y:(l9 at_ xs).length=xs.length:=by rw[vE];simp
  have N:(l9 at_ xs)[k]'(by omega)=xs[k].val at_:=by simp[vE]
  obtain⟨c,Z,O⟩:=auW at_ qx kR ih K hx tW k hk (k:Int) rfl
  rw[List.drop_eq_getElem_cons (by omega),L1 _ _ _ _ Gu,N]at D
  generalize xs[k].val at_=v at D O
  rcases Gu with rfl|rfl
  ·rw[if_pos rfl,show min m v=(if v<m then v else m)by split <;> omega]at D
   simp only[qA,seval,uM,F,H,I,J,K.lenI,W,Z,X,O,AD,kR.froz]
   refine⟨_,rfl,_,_,rfl, ?_, ?_, ?_, ?_,D⟩ <;> simp only[qA,seval,F,H]
  ·rw[if_neg (by decide),show max m v=(if v>m then v else m)by split <;> omega]at D
   simp only[qA,seval,uM,F,H,I,J,K.lenI,W,Z,X,O,AD,kR.froz]
   refine⟨_,rfl,_,_,rfl, ?_, ?_, ?_, ?_,D⟩ <;> simp only[qA,seval,F,H]
 ·rintro _ ⟨fr,m,rfl,F,H,I,J,D⟩
  have Y:(l9 at_ xs).length=xs.length:=by rw[vE];simp
  rw[←Y,List.drop_length,Qy]at D
  simp only[qA,seval,uM,F,J,K.lenI,Int.lt_irrefl]
  exact⟨_,_,uO,rfl,rfl,by simp only[qA,seval,I,D],rfl,rfl⟩
theorem Eu(f:Fm):alp at_ qx f:=by
 induction f using Fm.ind with
 |h f ih=>
  intro b cb r hb ZX tW
  rw[il aam (by simp[F4]),Fm.val_eq]
  rcases(IK at_ f).1 tW with⟨h1,_⟩|⟨h6,Cv,Fc,_⟩|⟨h7,Ja,nq,Cd,auX,hv⟩
  ·rw[if_pos h1]
   simp only[qA,seval,F4,h1]
  ·rw[if_neg (by omega),if_pos h6]
   have jg:=fun kk=>NP kR Fc kk
   rw[Int.toNat_of_nonneg Cv]at jg
   have e:at_.getD f.num.toNat 0=at_[f.num.toNat]:=by simp[List.getD_eq_getElem?_getD,List.getElem?_eq_getElem Fc]
   rw[e]
   simp only[qA,seval,F4,h6,jg]
  ·rw[if_neg (by omega),if_neg (by omega)]
   have K:l9 at_ f.args=f.args.map (Fm.val at_):=vE at_ _
   have D: ∀(k:Nat) (hk:k<f.args.length) (j:Int),j=(k:Int)→ ∃c,(∀kk,lY b (.i kk j) 3=some (.vp c))∧be pE 72 [.vp c,qx] []=some (.i .i64 (f.args[k].val at_),[]):=fun k hk j hj=>auW at_ qx kR (fun y Z=>ih y Z) hb ZX auX k hk j hj
   have U:0<f.args.length→(f.op=12∨f.op=13)→AS F4.res F4.eff (DC pE F4.n F4.code ⟨p6 [.vp (.i .i64 f.op:: .i .i64 f.num::b::r),qx],.nil,[]⟩)=some (.i .i64 (Zi f.op (a0 (l9 at_ f.args)) (l9 at_ f.args).tail),[]):=by
    intro mB ho
    obtain⟨V,F,G5⟩:=D 0 mB 0 rfl
    have hL:=fun fr lh sh=>aCd at_ qx kR f.op f.num ho f.args (fun y Z=>ih y Z) b cb r hb ZX auX mB Cd fr lh sh
    have H:a0 (l9 at_ f.args)=f.args[0].val at_:=by rw[K];unfold a0;simp[List.getD_eq_getElem?_getD,List.getElem?_eq_getElem mB]
    rw[H]at hL ⊢
    rcases ho with ho|ho <;> rw[ho]at hL ⊢ <;> simp only[qA,seval,F4,F,G5,AD,kR.froz,hL]
   have W: ∀x y:Int,l9 at_ f.args= [x,y]→(f.op=8∨f.op=9∨f.op=10∨f.op=11∨f.op=16∨f.op=17∨f.op=18∨f.op=20∨f.op=21∨f.op=22)→AS F4.res F4.eff (DC pE F4.n F4.code ⟨p6 [.vp (.i .i64 f.op:: .i .i64 f.num::b::r),qx],.nil,[]⟩)=some (.i .i64 (Tm f.op [x,y]),[]):=by
    intro x y IU ho
    have Cm:f.args.length=2:=by have:=congrArg List.length IU;rw[K]at this;simpa using this
    obtain⟨V,F,G5⟩:=D 0 (by omega) 0 rfl
    obtain⟨c1,Zk,FY⟩:=D 1 (by omega) 1 rfl
    have H:f.args[0].val at_=x:=by
     have:(l9 at_ f.args)[0]? =some x:=by rw[IU];rfl
     grind
    have X:f.args[1].val at_=y:=by
     have:(l9 at_ f.args)[1]? =some y:=by rw[IU];rfl
     grind
    rw[H]at G5
    rw[X]at FY
    rw[IU]at hv
    have Y:=Ol f.op x y hv ho
    rcases ho with ho|ho|ho|ho|ho|ho|ho|ho|ho|ho <;> rw[ho]at Y ⊢ <;> simp only[qA,seval,jI,iE,F4,F,Zk,G5,FY,AD,ap6,kR.froz,Y,aqD,aqE]
   have N: ∀(k:Nat) (hk:k<f.args.length),(l9 at_ f.args)[k]? =some (f.args[k].val at_):=fun k hk=>by rw[K];simp[List.getElem?_eq_getElem hk]
   rcases vu (show 1≤f.op by omega) Ja with h|h|h|h|h|h|h|h|h|h|h|h|h|h|h|h|h|h|h|h|h|h
   iterate 6 ·omega
   ·have DE:f.args.length=1:=by rw[h]at nq;simpa[lJ]using nq
    obtain⟨x,hx⟩:=B8 (ts:=l9 at_ f.args) (by rw[K];simpa using DE)
    obtain⟨V,F,G5⟩:=D 0 (by omega) 0 rfl
    have H:f.args[0].val at_=x:=by have:=N 0 (by omega);rw[hx]at this;simpa using this.symm
    rw[H]at G5
    rw[hx]at hv ⊢
    have I:=hv.1 x (by simp)
    have ha:=IC (a:=0) (by unfold bd;omega) (IB I)
    have hw:=YV I
    rw[show(0:Int)+ -x= -x by omega,SY (IB I)]at ha
    rw[h]
    simp only[qA,seval,F4,F,G5,AD,kR.froz,hw,ha,UN];rfl
   ·grind [lJ,uH,l9]
   ·grind [lJ,uH,l9]
   ·grind [lJ,uH,l9]
   ·grind [lJ,uH,l9]
   ·rw[U (by rw[h]at nq;simp[lJ]at nq;omega) (by omega),h];rfl
   ·rw[U (by rw[h]at nq;simp[lJ]at nq;omega) (by omega),h];rfl
   ·have O:f.args.length=3:=by rw[h]at nq;simpa[lJ]using nq
    obtain⟨x,y,z,hx⟩:=Yy (ts:=l9 at_ f.args) (by rw[K];simpa using O)
    obtain⟨V,F,G5⟩:=D 0 (by omega) 0 rfl
    obtain⟨c1,Zk,FY⟩:=D 1 (by omega) 1 rfl
    obtain⟨c2,FR,J⟩:=D 2 (by omega) 2 rfl
    have H:f.args[0].val at_=x:=by have:=N 0 (by omega);rw[hx]at this;simpa using this.symm
    have X:f.args[1].val at_=y:=by have:=N 1 (by omega);rw[hx]at this;simpa using this.symm
    have e2:f.args[2].val at_=z:=by have:=N 2 (by omega);rw[hx]at this;simpa using this.symm
    rw[H]at G5
    rw[X]at FY
    rw[e2]at J
    rw[hx,h,show Tm 14 [x,y,z]=if x=0 then z else y from rfl]
    by_cases ZK:x=0 <;> simp only[qA,seval,F4,F,Zk,FR,G5,FY,J,AD,kR.froz,ZK]
   ·have O:f.args.length=3:=by rw[h]at nq;simpa[lJ]using nq
    obtain⟨x,y,z,hx⟩:=Yy (ts:=l9 at_ f.args) (by rw[K];simpa using O)
    obtain⟨V,F,G5⟩:=D 0 (by omega) 0 rfl
    obtain⟨c1,Zk,FY⟩:=D 1 (by omega) 1 rfl
    obtain⟨c2,FR,J⟩:=D 2 (by omega) 2 rfl
    have H:f.args[0].val at_=x:=by have:=N 0 (by omega);rw[hx]at this;simpa using this.symm
    have X:f.args[1].val at_=y:=by have:=N 1 (by omega);rw[hx]at this;simpa using this.symm
    have e2:f.args[2].val at_=z:=by have:=N 2 (by omega);rw[hx]at this;simpa using this.symm
    rw[H]at G5
    rw[X]at FY
    rw[e2]at J
    rw[hx,h]
    have hi:=Ok x y z
    have ht:=zX (nD x y z)
    simp only[qA,seval,jI,iE,F4,F,Zk,FR,G5,FY,J,AD,ap6,kR.froz,hi,ht,aqB,aqC,Oy,aqA];rfl
   iterate 3
    ·obtain⟨x,y,IU⟩:=uH (ts:=l9 at_ f.args) (by rw[K];rw[h]at nq;simpa[lJ]using nq)
     rw[IU];exact W x y IU (by omega)
   ·have DE:f.args.length=1:=by rw[h]at nq;simpa[lJ]using nq
    obtain⟨x,hx⟩:=B8 (ts:=l9 at_ f.args) (by rw[K];simpa using DE)
    obtain⟨V,F,G5⟩:=D 0 (by omega) 0 rfl
    have H:f.args[0].val at_=x:=by have:=N 0 (by omega);rw[hx]at this;simpa using this.symm
    rw[H]at G5
    rw[hx]at hv ⊢
    have I:=hv.2.1 (by omega) x (by simp)
    have hw:wr .i64 (1-x)=1-x:=by unfold bit at I;exact js ⟨by omega,by omega⟩
    rw[h]
    simp only[qA,seval,F4,F,G5,AD,kR.froz,hw];rfl
   iterate 3
    ·obtain⟨x,y,IU⟩:=uH (ts:=l9 at_ f.args) (by rw[K];rw[h]at nq;simpa[lJ]using nq)
     rw[IU];exact W x y IU (by omega)
end
mutual
def Ex.kX:Ex→Int
 | .mk op _ _ args=>if op=1 then 1 else if op=2 then 2 else if op=3 then 3 else if op=7∨op=8∨op=9∨op=12∨op=13 then a0 (kXL args)else if op=14 then a1 (kXL args)
   else if op=10 then max (a0 (kXL args)) (a1 (kXL args))else if op=11 then(if a1 (kXL args)=2 then 1 else a0 (kXL args))else 4
def kXL:List Ex→List Int
 | []=> []
 |x::xs=>x.kX::kXL xs
end
def Fh(k n:Int):Prop:=((k=1∨k=2)∧bd n)∨(k=3∧0≤n∧n≤1439)∨(k=4∧bit n)
theorem Zl{k n:Int}(h:Fh k n):bd n:=by
 rcases h with⟨_,h⟩|⟨_,h1,h2⟩|⟨_,h⟩
 ·exact h
 ·unfold bd;omega
 ·exact alo h
theorem IL{n:Int}(h:Fh 4 n):bit n:=by
 rcases h with⟨h|h,_⟩|⟨h,_⟩|⟨_,h⟩
 ·omega
 ·omega
 ·omega
 ·exact h
theorem Bo{k n:Int}(h:k=1∨k=2)(i:bd n):Fh k n:= .inl ⟨h,i⟩
def nc:List Nat→Int×Int:=fun _=>(0,6)
def FK(scope k:Int)(y:Ex):Prop:=y.wf=true∧y.ty nc scope=(k,0)
def FKs(scope:Int):List Int→List Ex→Prop
 | [],[]=>True
 |t::ts,y::i=>FK scope t y∧FKs scope ts i
 |_,_=>False
theorem FKs.wf{scope:Int}: ∀{ts:List Int} {i:List Ex},FKs scope ts i→B9 i=true
 | [],[],_=>rfl
 |t::ts,y::i,h=>by rw[B9,h.1.1,FKs.wf h.2];rfl
theorem FKs.ty{scope:Int}: ∀{ts:List Int} {i:List Ex},FKs scope ts i→sw nc scope i= .ok ts
 | [],[],_=>by rw[sw]
 |t::ts,y::i,h=>by
  rw[sw,h.1.2,FKs.ty h.2];rfl
theorem FK.mk{scope k:Int}{op:Int}{i:List Ex}{ts:List Int}(r:1≤op)(D:op≤22)(F:op≠6)(H:lJ op i.length=true)(ZQ:FKs scope ts i)(hr:tV op ts=k)(hk:k≠0):FK scope k (.mk op 0 [] i):=by
 constructor
 ·rw[Ex.wf_eq,Bool.and_eq_true]
  refine⟨?_,ZQ.wf⟩
  have I:0≤Eg op:=by unfold Eg;split <;> (try split) <;> decide
  simp only[tU,Bool.and_eq_true,decide_eq_true_eq]
  refine⟨r,D,H,⟨Int.le_refl _,I⟩, ?_⟩
  show(if op=6 then tS []else decide (([]:List Nat)= []))=true
  grind
 ·rw[Ex.ty_eq]
  show(if op=6 then _ else match sw nc scope i with| .error e=>(0,e)| .ok ts=>if tV op ts=0 then(0,9)else(tV op ts,0))=(k,0)
  rw[if_neg F,ZQ.ty]
  grind
theorem FK.leaf{scope k op num:Int}(h:(op=1∧k=1∧0≤num∧num≤1099511627776)∨(op=2∧k=2∧0≤num∧num≤1099511627776)∨(op=3∧k=3∧0≤num∧num≤1439)∨(op=4∧k=4∧num=0)∨(op=5∧k=4∧num=0)):FK scope k (nY op num):=by
 have i:(nY op num).wf=tU op num [] 0:=by rw[Ex.wf_eq];simp[nY,Ex.op,Ex.num,Ex.name,Ex.args,B9]
 have r:op≠6→(nY op num).ty nc scope=if tV op []=0 then(0,9)else(tV op [],0):=fun D=>by
  grind [Ex.ty_eq,nY,Ex.op,Ex.args,sw]
 constructor
 ·rw[i]
  simp only[tU,Bool.and_eq_true,decide_eq_true_eq]
  rcases h with⟨rfl,rfl,h1,h2⟩|⟨rfl,rfl,h1,h2⟩|⟨rfl,rfl,h1,h2⟩|⟨rfl,rfl,rfl⟩|⟨rfl,rfl,rfl⟩
  ·exact⟨by decide,by decide,rfl,⟨h1,h2⟩,rfl⟩
  ·exact⟨by decide,by decide,rfl,⟨h1,h2⟩,rfl⟩
  ·exact⟨by decide,by decide,rfl,⟨h1,h2⟩,rfl⟩
  ·exact⟨by decide,by decide,rfl,⟨by decide,by decide⟩,rfl⟩
  ·exact⟨by decide,by decide,rfl,⟨by decide,by decide⟩,rfl⟩
 ·rcases h with⟨rfl,rfl,h1,h2⟩|⟨rfl,rfl,h1,h2⟩|⟨rfl,rfl,h1,h2⟩|⟨rfl,rfl,rfl⟩|⟨rfl,rfl,rfl⟩ <;> rw[r (by decide)] <;> rfl
theorem IM{scope k n:Int}(h:Fh k n):FK scope k (wy k n)∧isLit (wy k n)=true∧acB (wy k n)=n:=by
 unfold wy
 rcases h with⟨hk,hb⟩|⟨rfl,h1,h2⟩|⟨rfl,hb⟩
 ·have r:k≠4:=by omega
  have D:k≠3:=by omega
  rw[if_neg r,if_neg D]
  unfold bd at hb
  by_cases i:n<0
  ·rw[if_pos i]
   rcases hk with rfl|rfl
   ·refine⟨FK.mk (ts:= [1]) (by decide) (by decide) (by decide) rfl ⟨FK.leaf (.inl ⟨rfl,rfl,by omega,by omega⟩),trivial⟩ rfl (by decide),rfl, ?_⟩
    show- -n=n;omega
   ·refine⟨FK.mk (ts:= [2]) (by decide) (by decide) (by decide) rfl ⟨FK.leaf (.inr (.inl ⟨rfl,rfl,by omega,by omega⟩)),trivial⟩ rfl (by decide),rfl, ?_⟩
    show- -n=n;omega
  ·rw[if_neg i]
   rcases hk with rfl|rfl
   ·exact⟨FK.leaf (.inl ⟨rfl,rfl,by omega,by omega⟩),rfl,rfl⟩
   ·exact⟨FK.leaf (.inr (.inl ⟨rfl,rfl,by omega,by omega⟩)),rfl,rfl⟩
 ·rw[if_neg (by decide),if_pos rfl]
  exact⟨FK.leaf (.inr (.inr (.inl ⟨rfl,rfl,h1,h2⟩))),rfl,rfl⟩
 ·rw[if_pos rfl]
  rcases hb with rfl|rfl
  ·exact⟨FK.leaf (.inr (.inr (.inr (.inr ⟨rfl,rfl,rfl⟩)))),rfl,rfl⟩
  ·exact⟨FK.leaf (.inr (.inr (.inr (.inl ⟨rfl,rfl,rfl⟩)))),rfl,rfl⟩
theorem Qz{cl:List Nat→Int×Int}{scope:Int}: ∀{xs:List Ex} {e:Int},sw cl scope xs= .error e→e≠0
 | [],e,h=>by grind [sw]
 |x::xs,e,h=>by
  rw[sw]at h
  split at h
  ·grind
  ·cases hx:sw cl scope xs with
   |error i=>rw[hx]at h;cases h;exact Qz hx
   |ok us=>grind
def Bp:List Int→List Int→Prop
 | [],[]=>True
 |t::ts,v::i=>Fh t v∧Bp ts i
 |_,_=>False
theorem Bp.len: ∀{ts i:List Int},Bp ts i→ts.length=i.length
 | [],[],_=>rfl
 |t::ts,v::i,h=>by rw[List.length_cons,List.length_cons,Bp.len h.2]
theorem Bp.bd: ∀{ts i:List Int},Bp ts i→ ∀v∈i,bd v
 | [],[],_=>by simp
 |t::ts,v::i,h=>by
  intro w hw
  rcases List.mem_cons.1 hw with rfl|hw
  ·exact Zl h.1
  ·exact Bp.bd h.2 w hw
theorem Bp.all{k:Int}: ∀{ts i:List Int},Bp ts i→ow ts k=true→ ∀v∈i,Fh k v
 | [],[],_,_=>by simp
 |t::ts,v::i,h,r=>by
  rw[wc,Bool.and_eq_true,decide_eq_true_eq]at r
  intro w hw
  rcases List.mem_cons.1 hw with rfl|hw
  ·rw[←r.1];exact h.1
  ·exact Bp.all h.2 r.2 w hw
theorem Om(op:Int)(h:op=12∨op=13): ∀(i:List Int) (m:Int),bd m→(∀v∈i,bd v)→bd (Zi op m i)
 | [],m,r,_=>by rw[Qy];exact r
 |v::i,m,r,D=>by
  rw[L1 _ _ _ _ h]
  refine Om op h i _ ?_ (fun w F=>D w (by simp[F]))
  grind
theorem k12{ts:List Int}{k:Int}(h:(if ow ts 1=true then(1:Int)else if ow ts 2=true then 2 else 0)=k)(hk:k≠0):k=1∨k=2:=by
 grind
theorem L3{op a b k:Int}(h:KS op a b=k)(hk:k≠0):k=1∨k=2:=by
 grind [KS]
theorem agE{op k:Int}{ts D:List Int}(J:Bp ts D)(Y:7≤op)(Ja:op≤22)(H:lJ op ts.length=true)(hr:tV op ts=k)(hk:k≠0):vOk op D∧Fh k (Tm op D):=by
 have r:=J.bd
 have i:=J.len
 have F: ∀b:Bool,Fh 4 (qm b):=fun b=> .inr (.inr ⟨rfl,S7 b⟩)
 rcases vu (show 1≤op by omega) Ja with rfl|rfl|rfl|rfl|rfl|rfl|rfl|rfl|rfl|rfl|rfl|rfl|rfl|rfl|rfl|rfl|rfl|rfl|rfl|rfl|rfl|rfl
 iterate 6 ·omega
 ·have LY:=k12 hr hk
  obtain⟨v,rfl⟩:=B8 (ts:=D) (by rw[←i];simpa[lJ]using H)
  exact⟨⟨r,fun h=>absurd h (by decide),fun h=>absurd h (by decide)⟩,Bo LY (IB (r v (by simp)))⟩
 ·have LY:=k12 hr hk
  obtain⟨v,w,rfl⟩:=uH (ts:=D) (by rw[←i];simpa[lJ]using H)
  exact⟨⟨r,fun h=>absurd h (by decide),fun h=>absurd h (by decide)⟩,Bo LY (wi _)⟩
 ·have LY:=k12 hr hk
  obtain⟨v,w,rfl⟩:=uH (ts:=D) (by rw[←i];simpa[lJ]using H)
  exact⟨⟨r,fun h=>absurd h (by decide),fun h=>absurd h (by decide)⟩,Bo LY (wi _)⟩
 ·have LY:=L3 (op:=10) hr hk
  obtain⟨v,w,rfl⟩:=uH (ts:=D) (by rw[←i];simpa[lJ]using H)
  exact⟨⟨r,fun h=>absurd h (by decide),fun h=>absurd h (by decide)⟩,Bo LY (wi _)⟩
 ·have LY:=L3 (op:=11) hr hk
  obtain⟨v,w,rfl⟩:=uH (ts:=D) (by rw[←i];simpa[lJ]using H)
  exact⟨⟨r,fun h=>absurd h (by decide),fun h=>absurd h (by decide)⟩,Bo LY (adL _ _)⟩
 iterate 2
  ·have LY:=k12 hr hk
   match D,r,i with
   | [],_,i=>rw[i]at H;simp[lJ]at H
   |v::D,r,_=>
    refine⟨⟨r,fun h=>absurd h (by decide),fun h=>absurd h (by decide)⟩,Bo LY ?_⟩
    first
     |exact Om 12 (.inl rfl) D v (r v (by simp)) (fun w N=>r w (by simp[N]))
     |exact Om 13 (.inr rfl) D v (r v (by simp)) (fun w N=>r w (by simp[N]))
 ·obtain⟨a,b,c,rfl⟩:=Yy (ts:=ts) (by simpa[lJ]using H)
  obtain⟨x,y,z,rfl⟩:=Yy (ts:=D) (by rw[←i];rfl)
  obtain⟨V,W,X,_⟩:=J
  have B1:(if a=4∧b=c then b else 0)=k:=hr
  split at B1
  ·rename_i O
   obtain⟨rfl,rfl⟩:=O
   subst B1
   have Zj:=IL V
   refine⟨⟨r,fun h=>absurd h (by decide),fun _=>Zj⟩, ?_⟩
   show Fh b (if x=0 then z else y)
   split
   ·exact X
   ·exact W
  ·exact absurd B1.symm hk
 ·have B1:(if ow ts 3=true then(4:Int)else 0)=k:=hr
  split at B1
  ·subst B1
   exact⟨⟨r,fun h=>absurd h (by decide),fun h=>absurd h (by decide)⟩,F _⟩
  ·exact absurd B1.symm hk
 iterate 2
  ·have B1:(if(a0 ts=1∨a0 ts=2)∧a0 ts=a1 ts then(4:Int)else 0)=k:=hr
   split at B1
   ·subst B1
    exact⟨⟨r,fun h=>absurd h (by decide),fun h=>absurd h (by decide)⟩,F _⟩
   ·exact absurd B1.symm hk
 ·have B1:(if a0 ts=a1 ts then(4:Int)else 0)=k:=hr
  split at B1
  ·subst B1
   exact⟨⟨r,fun h=>absurd h (by decide),fun h=>absurd h (by decide)⟩,F _⟩
  ·exact absurd B1.symm hk
 ·have B1:(if ow ts 4=true then(4:Int)else 0)=k:=hr
  split at B1
  ·rename_i U
   subst B1
   have I:=fun v K=>IL (J.all U v K)
   obtain⟨v,rfl⟩:=B8 (ts:=D) (by rw[←i];simpa[lJ]using H)
   have K:=I v (by simp)
   refine⟨⟨r,fun _=>I,fun h=>absurd h (by decide)⟩,.inr (.inr ⟨rfl, ?_⟩)⟩
   show bit (1-v)
   unfold bit at *; omega
  ·exact absurd B1.symm hk
 iterate 3
  ·have B1:(if ow ts 4=true then(4:Int)else 0)=k:=hr
   split at B1
   ·rename_i U
    subst B1
    have I:=fun v K=>IL (J.all U v K)
    obtain⟨v,w,rfl⟩:=uH (ts:=D) (by rw[←i];simpa[lJ]using H)
    have K:=I v (by simp)
    have N:=I w (by simp)
    refine⟨⟨r,fun _=>I,fun h=>absurd h (by decide)⟩,.inr (.inr ⟨rfl, ?_⟩)⟩
    first
     |(show bit (min v w);unfold bit at *; omega)
     |(show bit (max v w);unfold bit at *; omega)
     |(show bit (max (1-v) w);unfold bit at *; omega)
   ·exact absurd B1.symm hk
end Go.Proofs.YtcpceiclnbmgiaaGreat
