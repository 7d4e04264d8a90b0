/- Walks of functions of the program and of the reference, and their plain laws, part 4. Conditions: the theorems' own. -/
import Derived.Test.YtcpceiclnbmgiaaGreatM3
import Derived.KernelRfl
set_option maxRecDepth 100000
set_option linter.unusedSimpArgs false
set_option linter.unusedVariables false
set_option maxHeartbeats 16000000
namespace Go.Proofs.YtcpceiclnbmgiaaGreat
open Go Go.Ev
def bit(n:Int):Prop:=n=0∨n=1
theorem akQ{n:Int}(h:bit n):bd n:=by unfold bit at h;unfold bd;omega
theorem SM(b:Bool):bit (qR b):=by cases b <;> simp[qR,bit]
theorem NS(c f t:Int):be pE 111 [.i .i64 c,.i .i64 f,.i .i64 t] []=some (.b (nn c f t),[]):=by
 rw[il Ul (by simp[Qp])]
 unfold nn
 by_cases F:f≤t
 ·by_cases r:f≤c <;> by_cases D:c<t <;> simp only[qA,seval,Qp,F,r,D]
 ·by_cases r:f≤c <;> by_cases D:c<t <;> simp only[qA,seval,Qp,F,r,D,or_true,or_false,or_self]
theorem zO(b:Bool):be pE 110 [.b b] []=some (.i .i64 (qR b),[]):=by
 rw[il Uk (by simp[TD])]
 cases b <;> simp only[qA,seval,TD,qR]
def Y0(op:Int):Int→List Int→Int:=if op=12 then aiD else aiE
theorem LC(op m v:Int)(i:List Int)(h:op=12∨op=13):Y0 op m (v::i)=Y0 op (if op=12 then min m v else max m v) i:=by
 unfold Y0
 rcases h with rfl|rfl <;> rfl
theorem Qe(op m:Int):Y0 op m []=m:=by unfold Y0;split <;> rfl
def vOk(op:Int)(i:List Int):Prop:=(∀v∈i,bd v)∧((op=19∨op=20∨op=21∨op=22)→ ∀v∈i,bit v)∧(op=14→bit (a0 i))
theorem NT(op a b:Int)(N:vOk op [a,b])(O:op=8∨op=9∨op=10∨op=11∨op=16∨op=17∨op=18∨op=20∨op=21∨op=22):be pE 113 [.i .i64 op,.i .i64 a,.i .i64 b] []=some (.i .i64 (SY op [a,b]),[]):=by
 rw[il Un (by simp[xV])]
 obtain⟨J,Y1,_⟩:=N
 have I:=J a (by simp)
 have F:=J b (by simp)
 have r:(op=19∨op=20∨op=21∨op=22)→bit a∧bit b:=fun h=>⟨Y1 h a (by simp),Y1 h b (by simp)⟩
 clear J Y1
 rcases O with rfl|rfl|rfl|rfl|rfl|rfl|rfl|rfl|rfl|rfl
 ·have h:=Ir I F
  simp only[qA,seval,xV,h,Um];rfl
 ·have h:=Ir I (Iq F)
  have K:=Yz F
  simp only[qA,seval,xV,h,K,Um];rfl
 ·have h:=P4 I F
  simp only[qA,seval,xV,h,aes];rfl
 ·have h:=ads I F
  simp only[qA,seval,xV,h,aqw];rfl
 ·have h:=zO (decide (a<b))
  simp only[qA,seval,xV,h,N8];rfl
 ·have h:=zO (decide (a≤b))
  simp only[qA,seval,xV,h,N8];rfl
 ·have h:=zO (decide (a=b))
  simp only[qA,seval,xV,h,N8];rfl
 ·obtain⟨D,H⟩:=r (by simp)
  have h:=acb D H
  simp only[qA,seval,xV,h];rfl
 ·obtain⟨D,H⟩:=r (by simp)
  have h:=Wt D H
  simp only[qA,seval,xV,h];rfl
 ·obtain⟨D,H⟩:=r (by simp)
  have K:wr .i64 (1-a)=1-a:=by unfold bit at D;exact jw ⟨by omega,by omega⟩
  have h:=Wt (a:=1-a) (b:=b) (by unfold bit at D;omega) H
  simp only[qA,seval,xV,K,h];rfl
inductive Fm where
 |mk (op num:Int) (args:List Fm)
def Fm.op:Fm→Int| .mk o _ _=>o
def Fm.num:Fm→Int| .mk _ n _=>n
def Fm.args:Fm→List Fm| .mk _ _ a=>a
mutual
def om:Fm→List T→Prop
 | .mk op num args,cs=> ∃a r,cs= [.i .i64 op,.i .i64 num,a]∧IsSl a args.length r∧iR args r
def iR:List Fm→List T→Prop
 | [],cs=>cs= []
 |x::xs,cs=> ∃c r,cs=c++r∧om x c∧iR xs r
end
theorem om.cells{x:Fm}{cs:List T}(h:om x cs): ∃a r,cs= [.i .i64 x.op,.i .i64 x.num,a]∧IsSl a x.args.length r∧iR x.args r:=by
 obtain⟨o,n,a⟩:=x
 rw[om]at h
 exact h
theorem om.of{x:Fm}{a:T}{r:List T}(D:IsSl a x.args.length r)(F:iR x.args r):om x [.i .i64 x.op,.i .i64 x.num,a]:=by
 obtain⟨o,n,l⟩:=x
 rw[om]
 exact⟨a,r,rfl,D,F⟩
theorem om.len{x:Fm}{cs:List T}(h:om x cs):cs.length=3:=by
 obtain⟨a,i,rfl,_⟩:=h.cells;rfl
theorem iR.nil:iR [] []:=by rw[iR]
theorem iR.cons{x:Fm}{xs:List Fm}{c r:List T}(i:om x c)(D:iR xs r):iR (x::xs) (c++r):=by
 grind [iR]
theorem iR.append: ∀{xs i:List Fm} {c r:List T},iR xs c→iR i r→iR (xs++i) (c++r)
 | [],i,c,r,D,F=>by grind [iR]
 |x::xs,i,c,r,D,F=>by
  rw[iR]at D
  obtain⟨J,K,rfl,H,I⟩:=D
  rw[List.append_assoc]
  exact iR.cons H (iR.append I F)
theorem iR.one{x:Fm}{c:List T}(h:om x c):iR [x] c:=by
 have:=iR.cons h iR.nil
 grind
theorem iR.len: ∀{xs:List Fm} {cs:List T},iR xs cs→cs.length=xs.length*3
 | [],cs,h=>by grind [iR]
 |x::xs,cs,h=>by
  rw[iR]at h
  obtain⟨c,r,rfl,i,D⟩:=h
  rw[List.length_append,i.len,D.len,List.length_cons];omega
theorem iR.drop: ∀{xs:List Fm} {cs:List T} (k:Nat) (hk:k<xs.length),iR xs cs→ ∃c r,cs.drop (k*3)=c++r∧om xs[k] c∧iR (xs.drop (k+1)) r
 | [],cs,k,hk,h=>by simp at hk
 |x::xs,cs,0,hk,h=>by
  grind [iR]
 |x::xs,cs,k+1,hk,h=>by
  rw[iR]at h
  obtain⟨c,r,rfl,i,D⟩:=h
  obtain⟨F,H,e,I,J⟩:=iR.drop k (by simpa using hk) D
  refine⟨F,H, ?_,I,by simpa using J⟩
  have:(k+1)*3=c.length+k*3:=by rw[i.len];omega
  grind [List.drop_append,Nat.add_sub_cancel_left,List.drop_eq_nil_of_le]
theorem XB{xs:List Fm}{a:T}{F:List T}(I:IsSl a xs.length F)(H:iR xs F)(k:Nat)(hk:k<xs.length):
  ∃b D r,(∀kk,lR a (.i kk (k:Int)) 3=some (.vp (.i .i64 xs[k].op:: .i .i64 xs[k].num::b::r)))∧IsSl b xs[k].args.length D∧iR xs[k].args D:=by
 obtain⟨c,r,e,J,O⟩:=iR.drop k hk H
 obtain⟨b,D,rfl,K,N⟩:=J.cells
 refine⟨b,D,r,fun kk=> ?_,K,N⟩
 rw[I.ia (sz:=3) H.len hk,e];rfl
mutual
def Fm.val(at_:List Int):Fm→Int
 | .mk op num args=>if op=1 then num else if op=6 then at_.getD num.toNat 0 else SY op (l6 at_ args)
def l6(at_:List Int):List Fm→List Int
 | []=> []
 |x::xs=>x.val at_::l6 at_ xs
end
theorem Fm.val_eq(at_:List Int)(x:Fm):x.val at_=if x.op=1 then x.num else if x.op=6 then at_.getD x.num.toNat 0 else SY x.op (l6 at_ x.args):=by obtain⟨_,_,_⟩:=x;rw[Fm.val];rfl
theorem vf(at_:List Int): ∀xs,l6 at_ xs=xs.map (Fm.val at_)
 | []=>rfl
 |x::xs=>by rw[l6,vf at_ xs];rfl
mutual
def E4(at_:List Int):Fm→Prop
 | .mk op num args=>(op=1∧bd num)∨(op=6∧0≤num∧num.toNat<at_.length∧bd (at_.getD num.toNat 0))∨(7≤op∧op≤22∧lF op args.length=true∧args.length≤qz∧EO at_ args∧vOk op (l6 at_ args))
def EO(at_:List Int):List Fm→Prop
 | []=>True
 |x::xs=>E4 at_ x∧EO at_ xs
end
theorem Iw(at_:List Int)(x:Fm):E4 at_ x↔((x.op=1∧bd x.num)∨(x.op=6∧0≤x.num∧x.num.toNat<at_.length∧bd (at_.getD x.num.toNat 0))∨(7≤x.op∧x.op≤22∧lF x.op x.args.length=true∧x.args.length≤qz∧EO at_ x.args∧vOk x.op (l6 at_ x.args))):=by obtain⟨_,_,_⟩:=x;rw[E4];rfl
theorem LD(at_:List Int): ∀{xs:List Fm},EO at_ xs↔ ∀x∈xs,E4 at_ x
 | []=>by simp[EO]
 |x::xs=>by simp_all[EO,LD]
mutual
def Fm.sz:Fm→Nat
 | .mk _ _ args=>1+xM args
def xM:List Fm→Nat
 | []=>0
 |x::xs=>x.sz+xM xs
end
theorem Fm.sz_eq(x:Fm):x.sz=1+xM x.args:=by obtain⟨_,_,_⟩:=x;rw[Fm.sz];rfl
theorem EP: ∀{xs:List Fm} {x:Fm},x∈xs→x.sz≤xM xs
 |y::xs,x,h=>by
  rw[xM]
  rcases List.mem_cons.1 h with rfl|h
  ·omega
  ·have:=EP h;omega
theorem Fm.ind{P:Fm→Prop}(h: ∀x:Fm,(∀y∈x.args,P y)→P x)(x:Fm):P x:=by
 have: ∀n (x:Fm),x.sz≤n→P x:=by
  intro n
  induction n with
  |zero=>intro x hx;rw[x.sz_eq]at hx;omega
  |succ n ih=>
   intro x hx
   refine h x fun y i=>ih y ?_
   have:=EP i
   rw[x.sz_eq]at hx;omega
 exact this _ x (Nat.le_refl _)
section
variable(at_:List Int)(qn:T)(kM:IsSl qn at_.length (ints at_))
def akR(f:Fm):Prop:= ∀(b:T) (D r:List T),IsSl b f.args.length D→iR f.args D→E4 at_ f→be pE 72 [.vp (.i .i64 f.op:: .i .i64 f.num::b::r),qn] []=some (.i .i64 (f.val at_),[])
include kM
theorem auD{xs:List Fm}(ih: ∀y∈xs,akR at_ qn y){a:T}{D:List T}(F:IsSl a xs.length D)(hx:iR xs D)(H:EO at_ xs)(k:Nat)(hk:k<xs.length)(j:Int)(I:j=(k:Int)):
  ∃c,(∀kk,lR a (.i kk j) 3=some (.vp c))∧be pE 72 [.vp c,qn] []=some (.i .i64 (xs[k].val at_),[]):=by
 have _:=kM
 obtain⟨b,J,r,K,N,O⟩:=XB F hx k hk
 subst I
 exact⟨_,K,ih xs[k] (List.getElem_mem hk) b J r N O ((LD at_).1 H _ (List.getElem_mem hk))⟩
theorem aBH(op num:Int)(Gl:op=12∨op=13)(xs:List Fm)(ih: ∀y∈xs,akR at_ qn y)(a:T)(U r:List T)(K:IsSl a xs.length U)(hx:iR xs U)(sP:EO at_ xs)(mr:0<xs.length)(V:xs.length≤qz)(fr:Fr)(lh:iw b8)(sh:List b8)
  (F:an fr 0= .vp (.i .i64 op:: .i .i64 num::a::r)) (H:an fr 1=qn) (I:an fr 5= .i .i64 (a0 (l6 at_ xs))) (J:an fr 6= .i .i64 1):
  wJ 155 uA fr lh sh (.ext 1)∧
  (an (tD pE 155 uA fr lh sh) 5= .i .i64 (Y0 op (a0 (l6 at_ xs)) (l6 at_ xs).tail)∧nU pE 155 uA fr lh sh=lh∧ow pE 155 uA fr lh sh=sh):=by
 refine jH (P:=fun fr iU iX=>an fr 5= .i .i64 (Y0 op (a0 (l6 at_ xs)) (l6 at_ xs).tail)∧iU=lh∧iX=sh) (j6 (fun k st=> ∃(fr:Fr) (m:Int),st=⟨fr,lh,sh⟩∧an fr 0= .vp (.i .i64 op:: .i .i64 num::a::r)∧an fr 1=qn∧an fr 5= .i .i64 m∧an fr 6= .i .i64 (k:Int)∧Y0 op m ((l6 at_ xs).drop k)=Y0 op (a0 (l6 at_ xs)) (l6 at_ xs).tail) _ xs.length ?_ ?_ 1 _ mr ⟨fr,a0 (l6 at_ xs),rfl,F,H,I,J,by rw[List.drop_one]⟩)
 ·rintro k _ hk ⟨fr,m,rfl,F,H,I,J,D⟩
  left
  have W:(k:Int)<xs.length:=by omega
  have X:=ji (k:=k) (by omega)
  have Y:(l6 at_ xs).length=xs.length:=by rw[vf];simp
  have N:(l6 at_ xs)[k]'(by omega)=xs[k].val at_:=by simp[vf]
  obtain⟨c,Z,O⟩:=auD at_ qn kM ih K hx sP k hk (k:Int) rfl
  rw[List.drop_eq_getElem_cons (by omega),LC _ _ _ _ Gl,N]at D
  generalize xs[k].val at_=v at D O
  rcases Gl with rfl|rfl
  ·rw[if_pos rfl,show min m v=(if v<m then v else m)by split <;> omega]at D
   simp only[qA,seval,uA,F,H,I,J,K.lenI,W,Z,X,O,Ar,kM.froz]
   refine⟨_,rfl,_,_,rfl, ?_, ?_, ?_, ?_,D⟩ <;> simp only[qA,seval,F,H]
  ·rw[if_neg (by decide),show max m v=(if v>m then v else m)by split <;> omega]at D
   simp only[qA,seval,uA,F,H,I,J,K.lenI,W,Z,X,O,Ar,kM.froz]
   refine⟨_,rfl,_,_,rfl, ?_, ?_, ?_, ?_,D⟩ <;> simp only[qA,seval,F,H]
 ·rintro _ ⟨fr,m,rfl,F,H,I,J,D⟩
  have Y:(l6 at_ xs).length=xs.length:=by rw[vf];simp
  rw[←Y,List.drop_length,Qe]at D
  simp only[qA,seval,uA,F,J,K.lenI,Int.lt_irrefl]
  exact⟨_,_,uC,rfl,rfl,by simp only[qA,seval,I,D],rfl,rfl⟩
theorem Ec(f:Fm):akR at_ qn f:=by
 induction f using Fm.ind with
 |h f ih=>
  intro b cb r hb ZI sP
  rw[il aaa (by simp[FW]),Fm.val_eq]
  rcases(Iw at_ f).1 sP with⟨h1,_⟩|⟨h6,B8,Fu,_⟩|⟨h7,EB,nh,BY,auE,hv⟩
  ·rw[if_pos h1]
   simp only[qA,seval,FW,h1]
  ·rw[if_neg (by omega),if_pos h6]
   have je:=fun kk=>Nr kM Fu kk
   rw[Int.toNat_of_nonneg B8]at je
   have e:at_.getD f.num.toNat 0=at_[f.num.toNat]:=by simp[List.getD_eq_getElem?_getD,List.getElem?_eq_getElem Fu]
   rw[e]
   simp only[qA,seval,FW,h6,je]
  ·rw[if_neg (by omega),if_neg (by omega)]
   have K:l6 at_ f.args=f.args.map (Fm.val at_):=vf at_ _
   have D: ∀(k:Nat) (hk:k<f.args.length) (j:Int),j=(k:Int)→ ∃c,(∀kk,lR b (.i kk j) 3=some (.vp c))∧be pE 72 [.vp c,qn] []=some (.i .i64 (f.args[k].val at_),[]):=fun k hk j hj=>auD at_ qn kM (fun y Z=>ih y Z) hb ZI auE k hk j hj
   have U:0<f.args.length→(f.op=12∨f.op=13)→AI FW.res FW.eff (DC pE FW.n FW.code ⟨pT [.vp (.i .i64 f.op:: .i .i64 f.num::b::r),qn],.nil,[]⟩)=some (.i .i64 (Y0 f.op (a0 (l6 at_ f.args)) (l6 at_ f.args).tail),[]):=by
    intro mr ho
    obtain⟨V,F,GY⟩:=D 0 mr 0 rfl
    have hL:=fun fr lh sh=>aBH at_ qn kM f.op f.num ho f.args (fun y Z=>ih y Z) b cb r hb ZI auE mr BY fr lh sh
    have H:a0 (l6 at_ f.args)=f.args[0].val at_:=by rw[K];unfold a0;simp[List.getD_eq_getElem?_getD,List.getElem?_eq_getElem mr]
    rw[H]at hL ⊢
    rcases ho with ho|ho <;> rw[ho]at hL ⊢ <;> simp only[qA,seval,FW,F,GY,Ar,kM.froz,hL]
   have W: ∀x y:Int,l6 at_ f.args= [x,y]→(f.op=8∨f.op=9∨f.op=10∨f.op=11∨f.op=16∨f.op=17∨f.op=18∨f.op=20∨f.op=21∨f.op=22)→AI FW.res FW.eff (DC pE FW.n FW.code ⟨pT [.vp (.i .i64 f.op:: .i .i64 f.num::b::r),qn],.nil,[]⟩)=some (.i .i64 (SY f.op [x,y]),[]):=by
    intro x y ID ho
    have Fh:f.args.length=2:=by have:=congrArg List.length ID;rw[K]at this;simpa using this
    obtain⟨V,F,GY⟩:=D 0 (by omega) 0 rfl
    obtain⟨c1,Y2,FO⟩:=D 1 (by omega) 1 rfl
    have H:f.args[0].val at_=x:=by
     have:(l6 at_ f.args)[0]? =some x:=by rw[ID];rfl
     grind
    have X:f.args[1].val at_=y:=by
     have:(l6 at_ f.args)[1]? =some y:=by rw[ID];rfl
     grind
    rw[H]at GY
    rw[X]at FO
    rw[ID]at hv
    have Y:=NT f.op x y hv ho
    rcases ho with ho|ho|ho|ho|ho|ho|ho|ho|ho|ho <;> rw[ho]at Y ⊢ <;> simp only[qA,seval,jG,iE,FW,F,Y2,GY,FO,Ar,apK,kM.froz,Y,aqj,aqk]
   have N: ∀(k:Nat) (hk:k<f.args.length),(l6 at_ f.args)[k]? =some (f.args[k].val at_):=fun k hk=>by rw[K];simp[List.getElem?_eq_getElem hk]
   rcases uZ (show 1≤f.op by omega) EB with h|h|h|h|h|h|h|h|h|h|h|h|h|h|h|h|h|h|h|h|h|h
   iterate 6 ·omega
   ·have Dl:f.args.length=1:=by rw[h]at nh;simpa[lF]using nh
    obtain⟨x,hx⟩:=Ya (ts:=l6 at_ f.args) (by rw[K];simpa using Dl)
    obtain⟨V,F,GY⟩:=D 0 (by omega) 0 rfl
    have H:f.args[0].val at_=x:=by have:=N 0 (by omega);rw[hx]at this;simpa using this.symm
    rw[H]at GY
    rw[hx]at hv ⊢
    have I:=hv.1 x (by simp)
    have ha:=Ir (a:=0) (by unfold bd;omega) (Iq I)
    have hw:=Yz I
    rw[show(0:Int)+ -x= -x by omega,SG (Iq I)]at ha
    rw[h]
    simp only[qA,seval,FW,F,GY,Ar,kM.froz,hw,ha,Um];rfl
   ·grind [lF,uu,l6]
   ·grind [lF,uu,l6]
   ·grind [lF,uu,l6]
   ·grind [lF,uu,l6]
   ·rw[U (by rw[h]at nh;simp[lF]at nh;omega) (by omega),h];rfl
   ·rw[U (by rw[h]at nh;simp[lF]at nh;omega) (by omega),h];rfl
   ·have O:f.args.length=3:=by rw[h]at nh;simpa[lF]using nh
    obtain⟨x,y,z,hx⟩:=Yb (ts:=l6 at_ f.args) (by rw[K];simpa using O)
    obtain⟨V,F,GY⟩:=D 0 (by omega) 0 rfl
    obtain⟨c1,Y2,FO⟩:=D 1 (by omega) 1 rfl
    obtain⟨c2,FF,J⟩:=D 2 (by omega) 2 rfl
    have H:f.args[0].val at_=x:=by have:=N 0 (by omega);rw[hx]at this;simpa using this.symm
    have X:f.args[1].val at_=y:=by have:=N 1 (by omega);rw[hx]at this;simpa using this.symm
    have e2:f.args[2].val at_=z:=by have:=N 2 (by omega);rw[hx]at this;simpa using this.symm
    rw[H]at GY
    rw[X]at FO
    rw[e2]at J
    rw[hx,h,show SY 14 [x,y,z]=if x=0 then z else y from rfl]
    by_cases Zu:x=0 <;> simp only[qA,seval,FW,F,Y2,FF,GY,FO,J,Ar,kM.froz,Zu]
   ·have O:f.args.length=3:=by rw[h]at nh;simpa[lF]using nh
    obtain⟨x,y,z,hx⟩:=Yb (ts:=l6 at_ f.args) (by rw[K];simpa using O)
    obtain⟨V,F,GY⟩:=D 0 (by omega) 0 rfl
    obtain⟨c1,Y2,FO⟩:=D 1 (by omega) 1 rfl
    obtain⟨c2,FF,J⟩:=D 2 (by omega) 2 rfl
    have H:f.args[0].val at_=x:=by have:=N 0 (by omega);rw[hx]at this;simpa using this.symm
    have X:f.args[1].val at_=y:=by have:=N 1 (by omega);rw[hx]at this;simpa using this.symm
    have e2:f.args[2].val at_=z:=by have:=N 2 (by omega);rw[hx]at this;simpa using this.symm
    rw[H]at GY
    rw[X]at FO
    rw[e2]at J
    rw[hx,h]
    have hi:=NS x y z
    have ht:=zO (nn x y z)
    simp only[qA,seval,jG,iE,FW,F,Y2,FF,GY,FO,J,Ar,apK,kM.froz,hi,ht,aqh,aqi,N8,aqg];rfl
   iterate 3
    ·obtain⟨x,y,ID⟩:=uu (ts:=l6 at_ f.args) (by rw[K];rw[h]at nh;simpa[lF]using nh)
     rw[ID];exact W x y ID (by omega)
   ·have Dl:f.args.length=1:=by rw[h]at nh;simpa[lF]using nh
    obtain⟨x,hx⟩:=Ya (ts:=l6 at_ f.args) (by rw[K];simpa using Dl)
    obtain⟨V,F,GY⟩:=D 0 (by omega) 0 rfl
    have H:f.args[0].val at_=x:=by have:=N 0 (by omega);rw[hx]at this;simpa using this.symm
    rw[H]at GY
    rw[hx]at hv ⊢
    have I:=hv.2.1 (by omega) x (by simp)
    have hw:wr .i64 (1-x)=1-x:=by unfold bit at I;exact jw ⟨by omega,by omega⟩
    rw[h]
    simp only[qA,seval,FW,F,GY,Ar,kM.froz,hw];rfl
   iterate 3
    ·obtain⟨x,y,ID⟩:=uu (ts:=l6 at_ f.args) (by rw[K];rw[h]at nh;simpa[lF]using nh)
     rw[ID];exact W x y ID (by omega)
end
mutual
def Ex.kX:Ex→Int
 | .mk op _ _ args=>if op=1 then 1 else if op=2 then 2 else if op=3 then 3 else if op=7∨op=8∨op=9∨op=12∨op=13 then a0 (kXL args)else if op=14 then a1 (kXL args)
   else if op=10 then max (a0 (kXL args)) (a1 (kXL args))else if op=11 then(if a1 (kXL args)=2 then 1 else a0 (kXL args))else 4
def kXL:List Ex→List Int
 | []=> []
 |x::xs=>x.kX::kXL xs
end
def E3(k n:Int):Prop:=((k=1∨k=2)∧bd n)∨(k=3∧0≤n∧n≤1439)∨(k=4∧bit n)
theorem Y3{k n:Int}(h:E3 k n):bd n:=by
 rcases h with⟨_,h⟩|⟨_,h1,h2⟩|⟨_,h⟩
 ·exact h
 ·unfold bd;omega
 ·exact akQ h
theorem Ix{n:Int}(h:E3 4 n):bit n:=by
 rcases h with⟨h|h,_⟩|⟨h,_⟩|⟨_,h⟩
 ·omega
 ·omega
 ·omega
 ·exact h
theorem Bc{k n:Int}(h:k=1∨k=2)(i:bd n):E3 k n:= .inl ⟨h,i⟩
def nc:List Nat→Int×Int:=fun _=>(0,6)
def FK(scope k:Int)(y:Ex):Prop:=y.wf=true∧y.ty nc scope=(k,0)
def FKs(scope:Int):List Int→List Ex→Prop
 | [],[]=>True
 |t::ts,y::i=>FK scope t y∧FKs scope ts i
 |_,_=>False
theorem FKs.wf{scope:Int}: ∀{ts:List Int} {i:List Ex},FKs scope ts i→BV i=true
 | [],[],_=>rfl
 |t::ts,y::i,h=>by rw[BV,h.1.1,FKs.wf h.2];rfl
theorem FKs.ty{scope:Int}: ∀{ts:List Int} {i:List Ex},FKs scope ts i→se nc scope i= .ok ts
 | [],[],_=>by rw[se]
 |t::ts,y::i,h=>by
  rw[se,h.1.2,FKs.ty h.2];rfl
theorem FK.mk{scope k:Int}{op:Int}{i:List Ex}{ts:List Int}(r:1≤op)(D:op≤22)(F:op≠6)(H:lF op i.length=true)(ZA:FKs scope ts i)(hr:tJ op ts=k)(hk:k≠0):FK scope k (.mk op 0 [] i):=by
 constructor
 ·rw[Ex.wf_eq,Bool.and_eq_true]
  refine⟨?_,ZA.wf⟩
  have I:0≤DX op:=by unfold DX;split <;> (try split) <;> decide
  simp only[tI,Bool.and_eq_true,decide_eq_true_eq]
  refine⟨r,D,H,⟨Int.le_refl _,I⟩, ?_⟩
  show(if op=6 then tH []else decide (([]:List Nat)= []))=true
  grind
 ·rw[Ex.ty_eq]
  show(if op=6 then _ else match se nc scope i with| .error e=>(0,e)| .ok ts=>if tJ op ts=0 then(0,9)else(tJ op ts,0))=(k,0)
  rw[if_neg F,ZA.ty]
  grind
theorem FK.leaf{scope k op num:Int}(h:(op=1∧k=1∧0≤num∧num≤1099511627776)∨(op=2∧k=2∧0≤num∧num≤1099511627776)∨(op=3∧k=3∧0≤num∧num≤1439)∨(op=4∧k=4∧num=0)∨(op=5∧k=4∧num=0)):FK scope k (nQ op num):=by
 have i:(nQ op num).wf=tI op num [] 0:=by rw[Ex.wf_eq];simp[nQ,Ex.op,Ex.num,Ex.name,Ex.args,BV]
 have r:op≠6→(nQ op num).ty nc scope=if tJ op []=0 then(0,9)else(tJ op [],0):=fun D=>by
  grind [Ex.ty_eq,nQ,Ex.op,Ex.args,se]
 constructor
 ·rw[i]
  simp only[tI,Bool.and_eq_true,decide_eq_true_eq]
  rcases h with⟨rfl,rfl,h1,h2⟩|⟨rfl,rfl,h1,h2⟩|⟨rfl,rfl,h1,h2⟩|⟨rfl,rfl,rfl⟩|⟨rfl,rfl,rfl⟩
  ·exact⟨by decide,by decide,rfl,⟨h1,h2⟩,rfl⟩
  ·exact⟨by decide,by decide,rfl,⟨h1,h2⟩,rfl⟩
  ·exact⟨by decide,by decide,rfl,⟨h1,h2⟩,rfl⟩
  ·exact⟨by decide,by decide,rfl,⟨by decide,by decide⟩,rfl⟩
  ·exact⟨by decide,by decide,rfl,⟨by decide,by decide⟩,rfl⟩
 ·rcases h with⟨rfl,rfl,h1,h2⟩|⟨rfl,rfl,h1,h2⟩|⟨rfl,rfl,h1,h2⟩|⟨rfl,rfl,rfl⟩|⟨rfl,rfl,rfl⟩ <;> rw[r (by decide)] <;> rfl
theorem Iy{scope k n:Int}(h:E3 k n):FK scope k (wc k n)∧isLit (wc k n)=true∧acj (wc k n)=n:=by
 unfold wc
 rcases h with⟨hk,hb⟩|⟨rfl,h1,h2⟩|⟨rfl,hb⟩
 ·have r:k≠4:=by omega
  have D:k≠3:=by omega
  rw[if_neg r,if_neg D]
  unfold bd at hb
  by_cases i:n<0
  ·rw[if_pos i]
   rcases hk with rfl|rfl
   ·refine⟨FK.mk (ts:= [1]) (by decide) (by decide) (by decide) rfl ⟨FK.leaf (.inl ⟨rfl,rfl,by omega,by omega⟩),trivial⟩ rfl (by decide),rfl, ?_⟩
    show- -n=n;omega
   ·refine⟨FK.mk (ts:= [2]) (by decide) (by decide) (by decide) rfl ⟨FK.leaf (.inr (.inl ⟨rfl,rfl,by omega,by omega⟩)),trivial⟩ rfl (by decide),rfl, ?_⟩
    show- -n=n;omega
  ·rw[if_neg i]
   rcases hk with rfl|rfl
   ·exact⟨FK.leaf (.inl ⟨rfl,rfl,by omega,by omega⟩),rfl,rfl⟩
   ·exact⟨FK.leaf (.inr (.inl ⟨rfl,rfl,by omega,by omega⟩)),rfl,rfl⟩
 ·rw[if_neg (by decide),if_pos rfl]
  exact⟨FK.leaf (.inr (.inr (.inl ⟨rfl,rfl,h1,h2⟩))),rfl,rfl⟩
 ·rw[if_pos rfl]
  rcases hb with rfl|rfl
  ·exact⟨FK.leaf (.inr (.inr (.inr (.inr ⟨rfl,rfl,rfl⟩)))),rfl,rfl⟩
  ·exact⟨FK.leaf (.inr (.inr (.inr (.inl ⟨rfl,rfl,rfl⟩)))),rfl,rfl⟩
theorem Qf{cl:List Nat→Int×Int}{scope:Int}: ∀{xs:List Ex} {e:Int},se cl scope xs= .error e→e≠0
 | [],e,h=>by grind [se]
 |x::xs,e,h=>by
  rw[se]at h
  split at h
  ·grind
  ·cases hx:se cl scope xs with
   |error i=>rw[hx]at h;cases h;exact Qf hx
   |ok us=>grind
def Bd:List Int→List Int→Prop
 | [],[]=>True
 |t::ts,v::i=>E3 t v∧Bd ts i
 |_,_=>False
theorem Bd.len: ∀{ts i:List Int},Bd ts i→ts.length=i.length
 | [],[],_=>rfl
 |t::ts,v::i,h=>by rw[List.length_cons,List.length_cons,Bd.len h.2]
theorem Bd.bd: ∀{ts i:List Int},Bd ts i→ ∀v∈i,bd v
 | [],[],_=>by simp
 |t::ts,v::i,h=>by
  intro w hw
  rcases List.mem_cons.1 hw with rfl|hw
  ·exact Y3 h.1
  ·exact Bd.bd h.2 w hw
theorem Bd.all{k:Int}: ∀{ts i:List Int},Bd ts i→oh ts k=true→ ∀v∈i,E3 k v
 | [],[],_,_=>by simp
 |t::ts,v::i,h,r=>by
  rw[vQ,Bool.and_eq_true,decide_eq_true_eq]at r
  intro w hw
  rcases List.mem_cons.1 hw with rfl|hw
  ·rw[←r.1];exact h.1
  ·exact Bd.all h.2 r.2 w hw
theorem NU(op:Int)(h:op=12∨op=13): ∀(i:List Int) (m:Int),bd m→(∀v∈i,bd v)→bd (Y0 op m i)
 | [],m,r,_=>by rw[Qe];exact r
 |v::i,m,r,D=>by
  rw[LC _ _ _ _ h]
  refine NU op h i _ ?_ (fun w F=>D w (by simp[F]))
  grind
theorem k12{ts:List Int}{k:Int}(h:(if oh ts 1=true then(1:Int)else if oh ts 2=true then 2 else 0)=k)(hk:k≠0):k=1∨k=2:=by
 grind
theorem LF{op a b k:Int}(h:KD op a b=k)(hk:k≠0):k=1∨k=2:=by
 grind [KD]
theorem agb{op k:Int}{ts D:List Int}(J:Bd ts D)(Y:7≤op)(EB:op≤22)(H:lF op ts.length=true)(hr:tJ op ts=k)(hk:k≠0):vOk op D∧E3 k (SY op D):=by
 have r:=J.bd
 have i:=J.len
 have F: ∀b:Bool,E3 4 (qR b):=fun b=> .inr (.inr ⟨rfl,SM b⟩)
 rcases uZ (show 1≤op by omega) EB with rfl|rfl|rfl|rfl|rfl|rfl|rfl|rfl|rfl|rfl|rfl|rfl|rfl|rfl|rfl|rfl|rfl|rfl|rfl|rfl|rfl|rfl
 iterate 6 ·omega
 ·have Y4:=k12 hr hk
  obtain⟨v,rfl⟩:=Ya (ts:=D) (by rw[←i];simpa[lF]using H)
  exact⟨⟨r,fun h=>absurd h (by decide),fun h=>absurd h (by decide)⟩,Bc Y4 (Iq (r v (by simp)))⟩
 ·have Y4:=k12 hr hk
  obtain⟨v,w,rfl⟩:=uu (ts:=D) (by rw[←i];simpa[lF]using H)
  exact⟨⟨r,fun h=>absurd h (by decide),fun h=>absurd h (by decide)⟩,Bc Y4 (vV _)⟩
 ·have Y4:=k12 hr hk
  obtain⟨v,w,rfl⟩:=uu (ts:=D) (by rw[←i];simpa[lF]using H)
  exact⟨⟨r,fun h=>absurd h (by decide),fun h=>absurd h (by decide)⟩,Bc Y4 (vV _)⟩
 ·have Y4:=LF (op:=10) hr hk
  obtain⟨v,w,rfl⟩:=uu (ts:=D) (by rw[←i];simpa[lF]using H)
  exact⟨⟨r,fun h=>absurd h (by decide),fun h=>absurd h (by decide)⟩,Bc Y4 (vV _)⟩
 ·have Y4:=LF (op:=11) hr hk
  obtain⟨v,w,rfl⟩:=uu (ts:=D) (by rw[←i];simpa[lF]using H)
  exact⟨⟨r,fun h=>absurd h (by decide),fun h=>absurd h (by decide)⟩,Bc Y4 (adt _ _)⟩
 iterate 2
  ·have Y4:=k12 hr hk
   match D,r,i with
   | [],_,i=>rw[i]at H;simp[lF]at H
   |v::D,r,_=>
    refine⟨⟨r,fun h=>absurd h (by decide),fun h=>absurd h (by decide)⟩,Bc Y4 ?_⟩
    first
     |exact NU 12 (.inl rfl) D v (r v (by simp)) (fun w N=>r w (by simp[N]))
     |exact NU 13 (.inr rfl) D v (r v (by simp)) (fun w N=>r w (by simp[N]))
 ·obtain⟨a,b,c,rfl⟩:=Yb (ts:=ts) (by simpa[lF]using H)
  obtain⟨x,y,z,rfl⟩:=Yb (ts:=D) (by rw[←i];rfl)
  obtain⟨V,W,X,_⟩:=J
  have BN:(if a=4∧b=c then b else 0)=k:=hr
  split at BN
  ·rename_i O
   obtain⟨rfl,rfl⟩:=O
   subst BN
   have Y1:=Ix V
   refine⟨⟨r,fun h=>absurd h (by decide),fun _=>Y1⟩, ?_⟩
   show E3 b (if x=0 then z else y)
   split
   ·exact X
   ·exact W
  ·exact absurd BN.symm hk
 ·have BN:(if oh ts 3=true then(4:Int)else 0)=k:=hr
  split at BN
  ·subst BN
   exact⟨⟨r,fun h=>absurd h (by decide),fun h=>absurd h (by decide)⟩,F _⟩
  ·exact absurd BN.symm hk
 iterate 2
  ·have BN:(if(a0 ts=1∨a0 ts=2)∧a0 ts=a1 ts then(4:Int)else 0)=k:=hr
   split at BN
   ·subst BN
    exact⟨⟨r,fun h=>absurd h (by decide),fun h=>absurd h (by decide)⟩,F _⟩
   ·exact absurd BN.symm hk
 ·have BN:(if a0 ts=a1 ts then(4:Int)else 0)=k:=hr
  split at BN
  ·subst BN
   exact⟨⟨r,fun h=>absurd h (by decide),fun h=>absurd h (by decide)⟩,F _⟩
  ·exact absurd BN.symm hk
 ·have BN:(if oh ts 4=true then(4:Int)else 0)=k:=hr
  split at BN
  ·rename_i U
   subst BN
   have I:=fun v K=>Ix (J.all U v K)
   obtain⟨v,rfl⟩:=Ya (ts:=D) (by rw[←i];simpa[lF]using H)
   have K:=I v (by simp)
   refine⟨⟨r,fun _=>I,fun h=>absurd h (by decide)⟩,.inr (.inr ⟨rfl, ?_⟩)⟩
   show bit (1-v)
   unfold bit at *; omega
  ·exact absurd BN.symm hk
 iterate 3
  ·have BN:(if oh ts 4=true then(4:Int)else 0)=k:=hr
   split at BN
   ·rename_i U
    subst BN
    have I:=fun v K=>Ix (J.all U v K)
    obtain⟨v,w,rfl⟩:=uu (ts:=D) (by rw[←i];simpa[lF]using H)
    have K:=I v (by simp)
    have N:=I w (by simp)
    refine⟨⟨r,fun _=>I,fun h=>absurd h (by decide)⟩,.inr (.inr ⟨rfl, ?_⟩)⟩
    first
     |(show bit (min v w);unfold bit at *; omega)
     |(show bit (max v w);unfold bit at *; omega)
     |(show bit (max (1-v) w);unfold bit at *; omega)
   ·exact absurd BN.symm hk
end Go.Proofs.YtcpceiclnbmgiaaGreat
