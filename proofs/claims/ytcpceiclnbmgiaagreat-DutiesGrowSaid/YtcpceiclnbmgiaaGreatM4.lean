/- Walks of functions of the program and of the reference, and their plain laws, part 4. Conditions: the theorems' own. -/
import Derived.Test.YtcpceiclnbmgiaaGreatM3
import Derived.KernelRfl
set_option maxRecDepth 100000
set_option linter.unusedSimpArgs false
set_option linter.unusedVariables false
set_option maxHeartbeats 16000000
namespace Go.Proofs.YtcpceiclnbmgiaaGreat
open Go Go.Ev
def bit(n:Int):Prop:=n=0∨n=1
theorem akz{n:Int}(h:bit n):bd n:=by unfold bit at h;unfold bd;omega
theorem Sd(b:Bool):bit (m6 b):=by cases b <;> simp[m6,bit]
theorem Nl(c f t:Int):be pE 111 [.i .i64 c,.i .i64 f,.i .i64 t] []=some (.b (m5 c f t),[]):=by
 rw[gQ TR (by simp[PU])]
 unfold m5
 by_cases F:f≤t
 ·by_cases r:f≤c <;> by_cases D:c<t <;> simp only[qA,seval,PU,F,r,D]
 ·by_cases r:f≤c <;> by_cases D:c<t <;> simp only[qA,seval,PU,F,r,D,or_true,or_false,or_self]
theorem yJ(b:Bool):be pE 185 [.b b] []=some (.i .i64 (m6 b),[]):=by
 rw[gQ T5 (by simp[TA])]
 cases b <;> simp only[qA,seval,TA,m6]
theorem y8(b:Bool):be pE 110 [.b b] []=some (.i .i64 (m6 b),[]):=by
 rw[gQ TQ (by simp[S3])]
 cases b <;> simp only[qA,seval,S3,m6]
def Yw(op:Int):Int→List Int→Int:=if op=12 then ah5 else ah6
theorem K4(op m v:Int)(i:List Int)(h:op=12∨op=13):Yw op m (v::i)=Yw op (if op=12 then min m v else max m v) i:=by
 unfold Yw
 rcases h with rfl|rfl <;> rfl
theorem PI(op m:Int):Yw op m []=m:=by unfold Yw;split <;> rfl
def vOk(op:Int)(i:List Int):Prop:=(∀v∈i,bd v)∧((op=19∨op=20∨op=21∨op=22)→ ∀v∈i,bit v)∧(op=14→bit (a0 i))
theorem Nm(op a b:Int)(N:vOk op [a,b])(O:op=8∨op=9∨op=10∨op=11∨op=16∨op=17∨op=18∨op=20∨op=21∨op=22):be pE 113 [.i .i64 op,.i .i64 a,.i .i64 b] []=some (.i .i64 (Sq op [a,b]),[]):=by
 rw[gQ TT (by simp[xk])]
 obtain⟨J,Yx,_⟩:=N
 have I:=J a (by simp)
 have F:=J b (by simp)
 have r:(op=19∨op=20∨op=21∨op=22)→bit a∧bit b:=fun h=>⟨Yx h a (by simp),Yx h b (by simp)⟩
 clear J Yx
 rcases O with rfl|rfl|rfl|rfl|rfl|rfl|rfl|rfl|rfl|rfl
 ·have h:=HT I F
  simp only[qA,seval,xk,h,TS];rfl
 ·have h:=HT I (HS F)
  have K:=Yh F
  simp only[qA,seval,xk,h,K,TS];rfl
 ·have h:=PD I F
  simp only[qA,seval,xk,h,adS];rfl
 ·have h:=acR I F
  simp only[qA,seval,xk,h,apV];rfl
 ·have h:=y8 (decide (a<b))
  simp only[qA,seval,xk,h,Nv];rfl
 ·have h:=y8 (decide (a≤b))
  simp only[qA,seval,xk,h,Nv];rfl
 ·have h:=y8 (decide (a=b))
  simp only[qA,seval,xk,h,Nv];rfl
 ·obtain⟨D,H⟩:=r (by simp)
  have h:=abC D H
  simp only[qA,seval,xk,h];rfl
 ·obtain⟨D,H⟩:=r (by simp)
  have h:=V6 D H
  simp only[qA,seval,xk,h];rfl
 ·obtain⟨D,H⟩:=r (by simp)
  have K:wr .i64 (1-a)=1-a:=by unfold bit at D;exact jj ⟨by omega,by omega⟩
  have h:=V6 (a:=1-a) (b:=b) (by unfold bit at D;omega) H
  simp only[qA,seval,xk,K,h];rfl
inductive Fm where
 |mk (op num:Int) (args:List Fm)
def Fm.op:Fm→Int| .mk o _ _=>o
def Fm.num:Fm→Int| .mk _ n _=>n
def Fm.args:Fm→List Fm| .mk _ _ a=>a
mutual
def n4:Fm→List T→Prop
 | .mk op num args,cs=> ∃a r,cs= [.i .i64 op,.i .i64 num,a]∧IsSl a args.length r∧iF args r
def iF:List Fm→List T→Prop
 | [],cs=>cs= []
 |x::xs,cs=> ∃c r,cs=c++r∧n4 x c∧iF xs r
end
theorem n4.cells{x:Fm}{cs:List T}(h:n4 x cs): ∃a r,cs= [.i .i64 x.op,.i .i64 x.num,a]∧IsSl a x.args.length r∧iF x.args r:=by
 obtain⟨o,n,a⟩:=x
 rw[n4]at h
 exact h
theorem n4.of{x:Fm}{a:T}{r:List T}(D:IsSl a x.args.length r)(F:iF x.args r):n4 x [.i .i64 x.op,.i .i64 x.num,a]:=by
 obtain⟨o,n,l⟩:=x
 rw[n4]
 exact⟨a,r,rfl,D,F⟩
theorem n4.len{x:Fm}{cs:List T}(h:n4 x cs):cs.length=3:=by
 obtain⟨a,i,rfl,_⟩:=h.cells;rfl
theorem iF.nil:iF [] []:=by rw[iF]
theorem iF.cons{x:Fm}{xs:List Fm}{c r:List T}(i:n4 x c)(D:iF xs r):iF (x::xs) (c++r):=by
 grind [iF]
theorem iF.append: ∀{xs i:List Fm} {c r:List T},iF xs c→iF i r→iF (xs++i) (c++r)
 | [],i,c,r,D,F=>by grind [iF]
 |x::xs,i,c,r,D,F=>by
  rw[iF]at D
  obtain⟨J,K,rfl,H,I⟩:=D
  rw[List.append_assoc]
  exact iF.cons H (iF.append I F)
theorem iF.one{x:Fm}{c:List T}(h:n4 x c):iF [x] c:=by
 have:=iF.cons h iF.nil
 grind
theorem iF.len: ∀{xs:List Fm} {cs:List T},iF xs cs→cs.length=xs.length*3
 | [],cs,h=>by grind [iF]
 |x::xs,cs,h=>by
  rw[iF]at h
  obtain⟨c,r,rfl,i,D⟩:=h
  rw[List.length_append,i.len,D.len,List.length_cons];omega
theorem iF.drop: ∀{xs:List Fm} {cs:List T} (k:Nat) (hk:k<xs.length),iF xs cs→ ∃c r,cs.drop (k*3)=c++r∧n4 xs[k] c∧iF (xs.drop (k+1)) r
 | [],cs,k,hk,h=>by simp at hk
 |x::xs,cs,0,hk,h=>by
  grind [iF]
 |x::xs,cs,k+1,hk,h=>by
  rw[iF]at h
  obtain⟨c,r,rfl,i,D⟩:=h
  obtain⟨F,H,e,I,J⟩:=iF.drop k (by simpa using hk) D
  refine⟨F,H, ?_,I,by simpa using J⟩
  have:(k+1)*3=c.length+k*3:=by rw[i.len];omega
  grind [List.drop_append,Nat.add_sub_cancel_left,List.drop_eq_nil_of_le]
theorem Xc{xs:List Fm}{a:T}{F:List T}(I:IsSl a xs.length F)(H:iF xs F)(k:Nat)(hk:k<xs.length):
  ∃b D r,(∀kk,lH a (.i kk (k:Int)) 3=some (.vp (.i .i64 xs[k].op:: .i .i64 xs[k].num::b::r)))∧IsSl b xs[k].args.length D∧iF xs[k].args D:=by
 obtain⟨c,r,e,J,O⟩:=iF.drop k hk H
 obtain⟨b,D,rfl,K,N⟩:=J.cells
 refine⟨b,D,r,fun kk=> ?_,K,N⟩
 rw[I.ia (sz:=3) H.len hk,e];rfl
mutual
def Fm.val(at_:List Int):Fm→Int
 | .mk op num args=>if op=1 then num else if op=6 then at_.getD num.toNat 0 else Sq op (lL at_ args)
def lL(at_:List Int):List Fm→List Int
 | []=> []
 |x::xs=>x.val at_::lL at_ xs
end
theorem Fm.val_eq(at_:List Int)(x:Fm):x.val at_=if x.op=1 then x.num else if x.op=6 then at_.getD x.num.toNat 0 else Sq x.op (lL at_ x.args):=by obtain⟨_,_,_⟩:=x;rw[Fm.val];rfl
theorem uO(at_:List Int): ∀xs,lL at_ xs=xs.map (Fm.val at_)
 | []=>rfl
 |x::xs=>by rw[lL,uO at_ xs];rfl
mutual
def F8(at_:List Int):Fm→Prop
 | .mk op num args=>(op=1∧bd num)∨(op=6∧0≤num∧num.toNat<at_.length∧bd (at_.getD num.toNat 0))∨(7≤op∧op≤22∧lj op args.length=true∧args.length≤qh∧Ei at_ args∧vOk op (lL at_ args))
def Ei(at_:List Int):List Fm→Prop
 | []=>True
 |x::xs=>F8 at_ x∧Ei at_ xs
end
theorem HZ(at_:List Int)(x:Fm):F8 at_ x↔((x.op=1∧bd x.num)∨(x.op=6∧0≤x.num∧x.num.toNat<at_.length∧bd (at_.getD x.num.toNat 0))∨(7≤x.op∧x.op≤22∧lj x.op x.args.length=true∧x.args.length≤qh∧Ei at_ x.args∧vOk x.op (lL at_ x.args))):=by obtain⟨_,_,_⟩:=x;rw[F8];rfl
theorem K5(at_:List Int): ∀{xs:List Fm},Ei at_ xs↔ ∀x∈xs,F8 at_ x
 | []=>by simp[Ei]
 |x::xs=>by simp_all[Ei,K5]
mutual
def Fm.sz:Fm→Nat
 | .mk _ _ args=>1+wZ args
def wZ:List Fm→Nat
 | []=>0
 |x::xs=>x.sz+wZ xs
end
theorem Fm.sz_eq(x:Fm):x.sz=1+wZ x.args:=by obtain⟨_,_,_⟩:=x;rw[Fm.sz];rfl
theorem Ej: ∀{xs:List Fm} {x:Fm},x∈xs→x.sz≤wZ xs
 |y::xs,x,h=>by
  rw[wZ]
  rcases List.mem_cons.1 h with rfl|h
  ·omega
  ·have:=Ej h;omega
theorem Fm.ind{P:Fm→Prop}(h: ∀x:Fm,(∀y∈x.args,P y)→P x)(x:Fm):P x:=by
 have: ∀n (x:Fm),x.sz≤n→P x:=by
  intro n
  induction n with
  |zero=>intro x hx;rw[x.sz_eq]at hx;omega
  |succ n ih=>
   intro x hx
   refine h x fun y i=>ih y ?_
   have:=Ej i
   rw[x.sz_eq]at hx;omega
 exact this _ x (Nat.le_refl _)
section
variable(at_:List Int)(rO:T)(k9:IsSl rO at_.length (ints at_))
def akA(f:Fm):Prop:= ∀(b:T) (D r:List T),IsSl b f.args.length D→iF f.args D→F8 at_ f→be pE 72 [.vp (.i .i64 f.op:: .i .i64 f.num::b::r),rO] []=some (.i .i64 (f.val at_),[])
include k9
theorem atY{xs:List Fm}(ih: ∀y∈xs,akA at_ rO y){a:T}{D:List T}(F:IsSl a xs.length D)(hx:iF xs D)(H:Ei at_ xs)(k:Nat)(hk:k<xs.length)(j:Int)(I:j=(k:Int)):
  ∃c,(∀kk,lH a (.i kk j) 3=some (.vp c))∧be pE 72 [.vp c,rO] []=some (.i .i64 (xs[k].val at_),[]):=by
 have _:=k9
 obtain⟨b,J,r,K,N,O⟩:=Xc F hx k hk
 subst I
 exact⟨_,K,ih xs[k] (List.getElem_mem hk) b J r N O ((K5 at_).1 H _ (List.getElem_mem hk))⟩
theorem aAR(op num:Int)(FI:op=12∨op=13)(xs:List Fm)(ih: ∀y∈xs,akA at_ rO y)(a:T)(U r:List T)(K:IsSl a xs.length U)(hx:iF xs U)(tV:Ei at_ xs)(lO:0<xs.length)(V:xs.length≤qh)(fr:Fr)(lh:gW b8)(sh:List b8)
  (F:an fr 0= .vp (.i .i64 op:: .i .i64 num::a::r)) (H:an fr 1=rO) (I:an fr 5= .i .i64 (a0 (lL at_ xs))) (J:an fr 6= .i .i64 1):
  wJ 155 ug fr lh sh (.ext 1)∧
  (an (tT pE 155 ug fr lh sh) 5= .i .i64 (Yw op (a0 (lL at_ xs)) (lL at_ xs).tail)∧nE pE 155 ug fr lh sh=lh∧oi pE 155 ug fr lh sh=sh):=by
 refine jv (P:=fun fr iI iE=>an fr 5= .i .i64 (Yw op (a0 (lL at_ xs)) (lL at_ xs).tail)∧iI=lh∧iE=sh) (jR (fun k st=> ∃(fr:Fr) (m:Int),st=⟨fr,lh,sh⟩∧an fr 0= .vp (.i .i64 op:: .i .i64 num::a::r)∧an fr 1=rO∧an fr 5= .i .i64 m∧an fr 6= .i .i64 (k:Int)∧Yw op m ((lL at_ xs).drop k)=Yw op (a0 (lL at_ xs)) (lL at_ xs).tail) _ xs.length ?_ ?_ 1 _ lO ⟨fr,a0 (lL at_ xs),rfl,F,H,I,J,by rw[List.drop_one]⟩)
 ·rintro k _ hk ⟨fr,m,rfl,F,H,I,J,D⟩
  left
  have W:(k:Int)<xs.length:=by omega
  have X:=iT (k:=k) (by omega)
  have Y:(lL at_ xs).length=xs.length:=by rw[uO];simp
  have N:(lL at_ xs)[k]'(by omega)=xs[k].val at_:=by simp[uO]
  obtain⟨c,Z,O⟩:=atY at_ rO k9 ih K hx tV k hk (k:Int) rfl
  rw[List.drop_eq_getElem_cons (by omega),K4 _ _ _ _ FI,N]at D
  generalize xs[k].val at_=v at D O
  rcases FI with rfl|rfl
  ·rw[if_pos rfl,show min m v=(if v<m then v else m)by split <;> omega]at D
   simp only[qA,seval,ug,F,H,I,J,K.lenI,W,Z,X,O,CM,k9.froz]
   refine⟨_,rfl,_,_,rfl, ?_, ?_, ?_, ?_,D⟩ <;> simp only[qA,seval,F,H]
  ·rw[if_neg (by decide),show max m v=(if v>m then v else m)by split <;> omega]at D
   simp only[qA,seval,ug,F,H,I,J,K.lenI,W,Z,X,O,CM,k9.froz]
   refine⟨_,rfl,_,_,rfl, ?_, ?_, ?_, ?_,D⟩ <;> simp only[qA,seval,F,H]
 ·rintro _ ⟨fr,m,rfl,F,H,I,J,D⟩
  have Y:(lL at_ xs).length=xs.length:=by rw[uO];simp
  rw[←Y,List.drop_length,PI]at D
  simp only[qA,seval,ug,F,J,K.lenI,Int.lt_irrefl]
  exact⟨_,_,ui,rfl,rfl,by simp only[qA,seval,I,D],rfl,rfl⟩
theorem Hx(f:Fm):akA at_ rO f:=by
 induction f using Fm.ind with
 |h f ih=>
  intro b cb r hb Zc tV
  rw[gQ ZD (by simp[Fh]),Fm.val_eq]
  rcases(HZ at_ f).1 tV with⟨h1,_⟩|⟨h6,A2,EU,_⟩|⟨h7,Ip,mS,E3,atZ,hv⟩
  ·rw[if_pos h1]
   simp only[qA,seval,Fh,h1]
  ·rw[if_neg (by omega),if_pos h6]
   have iU:=fun kk=>MS k9 EU kk
   rw[Int.toNat_of_nonneg A2]at iU
   have e:at_.getD f.num.toNat 0=at_[f.num.toNat]:=by simp[List.getD_eq_getElem?_getD,List.getElem?_eq_getElem EU]
   rw[e]
   simp only[qA,seval,Fh,h6,iU]
  ·rw[if_neg (by omega),if_neg (by omega)]
   have K:lL at_ f.args=f.args.map (Fm.val at_):=uO at_ _
   have D: ∀(k:Nat) (hk:k<f.args.length) (j:Int),j=(k:Int)→ ∃c,(∀kk,lH b (.i kk j) 3=some (.vp c))∧be pE 72 [.vp c,rO] []=some (.i .i64 (f.args[k].val at_),[]):=fun k hk j hj=>atY at_ rO k9 (fun y Z=>ih y Z) hb Zc atZ k hk j hj
   have U:0<f.args.length→(f.op=12∨f.op=13)→Ah Fh.res Fh.eff (DC pE Fh.n Fh.code ⟨pF [.vp (.i .i64 f.op:: .i .i64 f.num::b::r),rO],.nil,[]⟩)=some (.i .i64 (Yw f.op (a0 (lL at_ f.args)) (lL at_ f.args).tail),[]):=by
    intro lO ho
    obtain⟨V,F,Gr⟩:=D 0 lO 0 rfl
    have hL:=fun fr lh sh=>aAR at_ rO k9 f.op f.num ho f.args (fun y Z=>ih y Z) b cb r hb Zc atZ lO E3 fr lh sh
    have H:a0 (lL at_ f.args)=f.args[0].val at_:=by rw[K];unfold a0;simp[List.getD_eq_getElem?_getD,List.getElem?_eq_getElem lO]
    rw[H]at hL ⊢
    rcases ho with ho|ho <;> rw[ho]at hL ⊢ <;> simp only[qA,seval,Fh,F,Gr,CM,k9.froz,hL]
   have W: ∀x y:Int,lL at_ f.args= [x,y]→(f.op=8∨f.op=9∨f.op=10∨f.op=11∨f.op=16∨f.op=17∨f.op=18∨f.op=20∨f.op=21∨f.op=22)→Ah Fh.res Fh.eff (DC pE Fh.n Fh.code ⟨pF [.vp (.i .i64 f.op:: .i .i64 f.num::b::r),rO],.nil,[]⟩)=some (.i .i64 (Sq f.op [x,y]),[]):=by
    intro x y H8 ho
    have Ll:f.args.length=2:=by have:=congrArg List.length H8;rw[K]at this;simpa using this
    obtain⟨V,F,Gr⟩:=D 0 (by omega) 0 rfl
    obtain⟨c1,Yy,KS⟩:=D 1 (by omega) 1 rfl
    have H:f.args[0].val at_=x:=by
     have:(lL at_ f.args)[0]? =some x:=by rw[H8];rfl
     grind
    have X:f.args[1].val at_=y:=by
     have:(lL at_ f.args)[1]? =some y:=by rw[H8];rfl
     grind
    rw[H]at Gr
    rw[X]at KS
    rw[H8]at hv
    have Y:=Nm f.op x y hv ho
    rcases ho with ho|ho|ho|ho|ho|ho|ho|ho|ho|ho <;> rw[ho]at Y ⊢ <;> simp only[qA,seval,jq,ig,Fh,F,Yy,Gr,KS,CM,ao7,k9.froz,Y,apG,apH]
   have N: ∀(k:Nat) (hk:k<f.args.length),(lL at_ f.args)[k]? =some (f.args[k].val at_):=fun k hk=>by rw[K];simp[List.getElem?_eq_getElem hk]
   rcases uJ (show 1≤f.op by omega) Ip with h|h|h|h|h|h|h|h|h|h|h|h|h|h|h|h|h|h|h|h|h|h
   iterate 6 ·omega
   ·have C1:f.args.length=1:=by rw[h]at mS;simpa[lj]using mS
    obtain⟨x,hx⟩:=XL (ts:=lL at_ f.args) (by rw[K];simpa using C1)
    obtain⟨V,F,Gr⟩:=D 0 (by omega) 0 rfl
    have H:f.args[0].val at_=x:=by have:=N 0 (by omega);rw[hx]at this;simpa using this.symm
    rw[H]at Gr
    rw[hx]at hv ⊢
    have I:=hv.1 x (by simp)
    have ha:=HT (a:=0) (by unfold bd;omega) (HS I)
    have hw:=Yh I
    rw[show(0:Int)+ -x= -x by omega,R9 (HS I)]at ha
    rw[h]
    simp only[qA,seval,Fh,F,Gr,CM,k9.froz,hw,ha,TS];rfl
   ·grind [lj,tX,lL]
   ·grind [lj,tX,lL]
   ·grind [lj,tX,lL]
   ·grind [lj,tX,lL]
   ·rw[U (by rw[h]at mS;simp[lj]at mS;omega) (by omega),h];rfl
   ·rw[U (by rw[h]at mS;simp[lj]at mS;omega) (by omega),h];rfl
   ·have O:f.args.length=3:=by rw[h]at mS;simpa[lj]using mS
    obtain⟨x,y,z,hx⟩:=XM (ts:=lL at_ f.args) (by rw[K];simpa using O)
    obtain⟨V,F,Gr⟩:=D 0 (by omega) 0 rfl
    obtain⟨c1,Yy,KS⟩:=D 1 (by omega) 1 rfl
    obtain⟨c2,E2,J⟩:=D 2 (by omega) 2 rfl
    have H:f.args[0].val at_=x:=by have:=N 0 (by omega);rw[hx]at this;simpa using this.symm
    have X:f.args[1].val at_=y:=by have:=N 1 (by omega);rw[hx]at this;simpa using this.symm
    have e2:f.args[2].val at_=z:=by have:=N 2 (by omega);rw[hx]at this;simpa using this.symm
    rw[H]at Gr
    rw[X]at KS
    rw[e2]at J
    rw[hx,h,show Sq 14 [x,y,z]=if x=0 then z else y from rfl]
    by_cases YZ:x=0 <;> simp only[qA,seval,Fh,F,Yy,E2,Gr,KS,J,CM,k9.froz,YZ]
   ·have O:f.args.length=3:=by rw[h]at mS;simpa[lj]using mS
    obtain⟨x,y,z,hx⟩:=XM (ts:=lL at_ f.args) (by rw[K];simpa using O)
    obtain⟨V,F,Gr⟩:=D 0 (by omega) 0 rfl
    obtain⟨c1,Yy,KS⟩:=D 1 (by omega) 1 rfl
    obtain⟨c2,E2,J⟩:=D 2 (by omega) 2 rfl
    have H:f.args[0].val at_=x:=by have:=N 0 (by omega);rw[hx]at this;simpa using this.symm
    have X:f.args[1].val at_=y:=by have:=N 1 (by omega);rw[hx]at this;simpa using this.symm
    have e2:f.args[2].val at_=z:=by have:=N 2 (by omega);rw[hx]at this;simpa using this.symm
    rw[H]at Gr
    rw[X]at KS
    rw[e2]at J
    rw[hx,h]
    have hi:=Nl x y z
    have ht:=y8 (m5 x y z)
    simp only[qA,seval,jq,ig,Fh,F,Yy,E2,Gr,KS,J,CM,ao7,k9.froz,hi,ht,apE,apF,Nv,apD];rfl
   iterate 3
    ·obtain⟨x,y,H8⟩:=tX (ts:=lL at_ f.args) (by rw[K];rw[h]at mS;simpa[lj]using mS)
     rw[H8];exact W x y H8 (by omega)
   ·have C1:f.args.length=1:=by rw[h]at mS;simpa[lj]using mS
    obtain⟨x,hx⟩:=XL (ts:=lL at_ f.args) (by rw[K];simpa using C1)
    obtain⟨V,F,Gr⟩:=D 0 (by omega) 0 rfl
    have H:f.args[0].val at_=x:=by have:=N 0 (by omega);rw[hx]at this;simpa using this.symm
    rw[H]at Gr
    rw[hx]at hv ⊢
    have I:=hv.2.1 (by omega) x (by simp)
    have hw:wr .i64 (1-x)=1-x:=by unfold bit at I;exact jj ⟨by omega,by omega⟩
    rw[h]
    simp only[qA,seval,Fh,F,Gr,CM,k9.froz,hw];rfl
   iterate 3
    ·obtain⟨x,y,H8⟩:=tX (ts:=lL at_ f.args) (by rw[K];rw[h]at mS;simpa[lj]using mS)
     rw[H8];exact W x y H8 (by omega)
end
mutual
def Ex.kX:Ex→Int
 | .mk op _ _ args=>if op=1 then 1 else if op=2 then 2 else if op=3 then 3 else if op=7∨op=8∨op=9∨op=12∨op=13 then a0 (kXL args)else if op=14 then a1 (kXL args)
   else if op=10 then max (a0 (kXL args)) (a1 (kXL args))else if op=11 then(if a1 (kXL args)=2 then 1 else a0 (kXL args))else 4
def kXL:List Ex→List Int
 | []=> []
 |x::xs=>x.kX::kXL xs
end
def EA(k n:Int):Prop:=((k=1∨k=2)∧bd n)∨(k=3∧0≤n∧n≤1439)∨(k=4∧bit n)
theorem Yz{k n:Int}(h:EA k n):bd n:=by
 rcases h with⟨_,h⟩|⟨_,h1,h2⟩|⟨_,h⟩
 ·exact h
 ·unfold bd;omega
 ·exact akz h
theorem H2{n:Int}(h:EA 4 n):bit n:=by
 rcases h with⟨h|h,_⟩|⟨h,_⟩|⟨_,h⟩
 ·omega
 ·omega
 ·omega
 ·exact h
theorem AJ{k n:Int}(h:k=1∨k=2)(i:bd n):EA k n:= .inl ⟨h,i⟩
def nc:List Nat→Int×Int:=fun _=>(0,6)
def FK(scope k:Int)(y:Ex):Prop:=y.wf=true∧y.ty nc scope=(k,0)
def FKs(scope:Int):List Int→List Ex→Prop
 | [],[]=>True
 |t::ts,y::i=>FK scope t y∧FKs scope ts i
 |_,_=>False
theorem FKs.wf{scope:Int}: ∀{ts:List Int} {i:List Ex},FKs scope ts i→By i=true
 | [],[],_=>rfl
 |t::ts,y::i,h=>by rw[By,h.1.1,FKs.wf h.2];rfl
theorem FKs.ty{scope:Int}: ∀{ts:List Int} {i:List Ex},FKs scope ts i→rM nc scope i= .ok ts
 | [],[],_=>by rw[rM]
 |t::ts,y::i,h=>by
  rw[rM,h.1.2,FKs.ty h.2];rfl
theorem FK.mk{scope k:Int}{op:Int}{i:List Ex}{ts:List Int}(r:1≤op)(D:op≤22)(F:op≠6)(H:lj op i.length=true)(Y5:FKs scope ts i)(hr:tp op ts=k)(hk:k≠0):FK scope k (.mk op 0 [] i):=by
 constructor
 ·rw[Ex.wf_eq,Bool.and_eq_true]
  refine⟨?_,Y5.wf⟩
  have I:0≤DB op:=by unfold DB;split <;> (try split) <;> decide
  simp only[tn,Bool.and_eq_true,decide_eq_true_eq]
  refine⟨r,D,H,⟨Int.le_refl _,I⟩, ?_⟩
  show(if op=6 then tm []else decide (([]:List Nat)= []))=true
  grind
 ·rw[Ex.ty_eq]
  show(if op=6 then _ else match rM nc scope i with| .error e=>(0,e)| .ok ts=>if tp op ts=0 then(0,9)else(tp op ts,0))=(k,0)
  rw[if_neg F,Y5.ty]
  grind
theorem FK.leaf{scope k op num:Int}(h:(op=1∧k=1∧0≤num∧num≤1099511627776)∨(op=2∧k=2∧0≤num∧num≤1099511627776)∨(op=3∧k=3∧0≤num∧num≤1439)∨(op=4∧k=4∧num=0)∨(op=5∧k=4∧num=0)):FK scope k (ny op num):=by
 have i:(ny op num).wf=tn op num [] 0:=by rw[Ex.wf_eq];simp[ny,Ex.op,Ex.num,Ex.name,Ex.args,By]
 have r:op≠6→(ny op num).ty nc scope=if tp op []=0 then(0,9)else(tp op [],0):=fun D=>by
  grind [Ex.ty_eq,ny,Ex.op,Ex.args,rM]
 constructor
 ·rw[i]
  simp only[tn,Bool.and_eq_true,decide_eq_true_eq]
  rcases h with⟨rfl,rfl,h1,h2⟩|⟨rfl,rfl,h1,h2⟩|⟨rfl,rfl,h1,h2⟩|⟨rfl,rfl,rfl⟩|⟨rfl,rfl,rfl⟩
  ·exact⟨by decide,by decide,rfl,⟨h1,h2⟩,rfl⟩
  ·exact⟨by decide,by decide,rfl,⟨h1,h2⟩,rfl⟩
  ·exact⟨by decide,by decide,rfl,⟨h1,h2⟩,rfl⟩
  ·exact⟨by decide,by decide,rfl,⟨by decide,by decide⟩,rfl⟩
  ·exact⟨by decide,by decide,rfl,⟨by decide,by decide⟩,rfl⟩
 ·rcases h with⟨rfl,rfl,h1,h2⟩|⟨rfl,rfl,h1,h2⟩|⟨rfl,rfl,h1,h2⟩|⟨rfl,rfl,rfl⟩|⟨rfl,rfl,rfl⟩ <;> rw[r (by decide)] <;> rfl
theorem H3{scope k n:Int}(h:EA k n):FK scope k (vI k n)∧isLit (vI k n)=true∧abJ (vI k n)=n:=by
 unfold vI
 rcases h with⟨hk,hb⟩|⟨rfl,h1,h2⟩|⟨rfl,hb⟩
 ·have r:k≠4:=by omega
  have D:k≠3:=by omega
  rw[if_neg r,if_neg D]
  unfold bd at hb
  by_cases i:n<0
  ·rw[if_pos i]
   rcases hk with rfl|rfl
   ·refine⟨FK.mk (ts:= [1]) (by decide) (by decide) (by decide) rfl ⟨FK.leaf (.inl ⟨rfl,rfl,by omega,by omega⟩),trivial⟩ rfl (by decide),rfl, ?_⟩
    show- -n=n;omega
   ·refine⟨FK.mk (ts:= [2]) (by decide) (by decide) (by decide) rfl ⟨FK.leaf (.inr (.inl ⟨rfl,rfl,by omega,by omega⟩)),trivial⟩ rfl (by decide),rfl, ?_⟩
    show- -n=n;omega
  ·rw[if_neg i]
   rcases hk with rfl|rfl
   ·exact⟨FK.leaf (.inl ⟨rfl,rfl,by omega,by omega⟩),rfl,rfl⟩
   ·exact⟨FK.leaf (.inr (.inl ⟨rfl,rfl,by omega,by omega⟩)),rfl,rfl⟩
 ·rw[if_neg (by decide),if_pos rfl]
  exact⟨FK.leaf (.inr (.inr (.inl ⟨rfl,rfl,h1,h2⟩))),rfl,rfl⟩
 ·rw[if_pos rfl]
  rcases hb with rfl|rfl
  ·exact⟨FK.leaf (.inr (.inr (.inr (.inr ⟨rfl,rfl,rfl⟩)))),rfl,rfl⟩
  ·exact⟨FK.leaf (.inr (.inr (.inr (.inl ⟨rfl,rfl,rfl⟩)))),rfl,rfl⟩
theorem PJ{cl:List Nat→Int×Int}{scope:Int}: ∀{xs:List Ex} {e:Int},rM cl scope xs= .error e→e≠0
 | [],e,h=>by grind [rM]
 |x::xs,e,h=>by
  rw[rM]at h
  split at h
  ·grind
  ·cases hx:rM cl scope xs with
   |error i=>rw[hx]at h;cases h;exact PJ hx
   |ok us=>grind
def AK:List Int→List Int→Prop
 | [],[]=>True
 |t::ts,v::i=>EA t v∧AK ts i
 |_,_=>False
theorem AK.len: ∀{ts i:List Int},AK ts i→ts.length=i.length
 | [],[],_=>rfl
 |t::ts,v::i,h=>by rw[List.length_cons,List.length_cons,AK.len h.2]
theorem AK.bd: ∀{ts i:List Int},AK ts i→ ∀v∈i,bd v
 | [],[],_=>by simp
 |t::ts,v::i,h=>by
  intro w hw
  rcases List.mem_cons.1 hw with rfl|hw
  ·exact Yz h.1
  ·exact AK.bd h.2 w hw
theorem AK.all{k:Int}: ∀{ts i:List Int},AK ts i→nX ts k=true→ ∀v∈i,EA k v
 | [],[],_,_=>by simp
 |t::ts,v::i,h,r=>by
  rw[vt,Bool.and_eq_true,decide_eq_true_eq]at r
  intro w hw
  rcases List.mem_cons.1 hw with rfl|hw
  ·rw[←r.1];exact h.1
  ·exact AK.all h.2 r.2 w hw
theorem Nn(op:Int)(h:op=12∨op=13): ∀(i:List Int) (m:Int),bd m→(∀v∈i,bd v)→bd (Yw op m i)
 | [],m,r,_=>by rw[PI];exact r
 |v::i,m,r,D=>by
  rw[K4 _ _ _ _ h]
  refine Nn op h i _ ?_ (fun w F=>D w (by simp[F]))
  grind
theorem k12{ts:List Int}{k:Int}(h:(if nX ts 1=true then(1:Int)else if nX ts 2=true then 2 else 0)=k)(hk:k≠0):k=1∨k=2:=by
 grind
theorem K6{op a b k:Int}(h:Ka op a b=k)(hk:k≠0):k=1∨k=2:=by
 grind [Ka]
theorem afI{op k:Int}{ts D:List Int}(J:AK ts D)(Y:7≤op)(Ip:op≤22)(H:lj op ts.length=true)(hr:tp op ts=k)(hk:k≠0):vOk op D∧EA k (Sq op D):=by
 have r:=J.bd
 have i:=J.len
 have F: ∀b:Bool,EA 4 (m6 b):=fun b=> .inr (.inr ⟨rfl,Sd b⟩)
 rcases uJ (show 1≤op by omega) Ip with rfl|rfl|rfl|rfl|rfl|rfl|rfl|rfl|rfl|rfl|rfl|rfl|rfl|rfl|rfl|rfl|rfl|rfl|rfl|rfl|rfl|rfl
 iterate 6 ·omega
 ·have YA:=k12 hr hk
  obtain⟨v,rfl⟩:=XL (ts:=D) (by rw[←i];simpa[lj]using H)
  exact⟨⟨r,fun h=>absurd h (by decide),fun h=>absurd h (by decide)⟩,AJ YA (HS (r v (by simp)))⟩
 ·have YA:=k12 hr hk
  obtain⟨v,w,rfl⟩:=tX (ts:=D) (by rw[←i];simpa[lj]using H)
  exact⟨⟨r,fun h=>absurd h (by decide),fun h=>absurd h (by decide)⟩,AJ YA (vw _)⟩
 ·have YA:=k12 hr hk
  obtain⟨v,w,rfl⟩:=tX (ts:=D) (by rw[←i];simpa[lj]using H)
  exact⟨⟨r,fun h=>absurd h (by decide),fun h=>absurd h (by decide)⟩,AJ YA (vw _)⟩
 ·have YA:=K6 (op:=10) hr hk
  obtain⟨v,w,rfl⟩:=tX (ts:=D) (by rw[←i];simpa[lj]using H)
  exact⟨⟨r,fun h=>absurd h (by decide),fun h=>absurd h (by decide)⟩,AJ YA (vw _)⟩
 ·have YA:=K6 (op:=11) hr hk
  obtain⟨v,w,rfl⟩:=tX (ts:=D) (by rw[←i];simpa[lj]using H)
  exact⟨⟨r,fun h=>absurd h (by decide),fun h=>absurd h (by decide)⟩,AJ YA (acS _ _)⟩
 iterate 2
  ·have YA:=k12 hr hk
   match D,r,i with
   | [],_,i=>rw[i]at H;simp[lj]at H
   |v::D,r,_=>
    refine⟨⟨r,fun h=>absurd h (by decide),fun h=>absurd h (by decide)⟩,AJ YA ?_⟩
    first
     |exact Nn 12 (.inl rfl) D v (r v (by simp)) (fun w N=>r w (by simp[N]))
     |exact Nn 13 (.inr rfl) D v (r v (by simp)) (fun w N=>r w (by simp[N]))
 ·obtain⟨a,b,c,rfl⟩:=XM (ts:=ts) (by simpa[lj]using H)
  obtain⟨x,y,z,rfl⟩:=XM (ts:=D) (by rw[←i];rfl)
  obtain⟨V,W,X,_⟩:=J
  have Bq:(if a=4∧b=c then b else 0)=k:=hr
  split at Bq
  ·rename_i O
   obtain⟨rfl,rfl⟩:=O
   subst Bq
   have Yx:=H2 V
   refine⟨⟨r,fun h=>absurd h (by decide),fun _=>Yx⟩, ?_⟩
   show EA b (if x=0 then z else y)
   split
   ·exact X
   ·exact W
  ·exact absurd Bq.symm hk
 ·have Bq:(if nX ts 3=true then(4:Int)else 0)=k:=hr
  split at Bq
  ·subst Bq
   exact⟨⟨r,fun h=>absurd h (by decide),fun h=>absurd h (by decide)⟩,F _⟩
  ·exact absurd Bq.symm hk
 iterate 2
  ·have Bq:(if(a0 ts=1∨a0 ts=2)∧a0 ts=a1 ts then(4:Int)else 0)=k:=hr
   split at Bq
   ·subst Bq
    exact⟨⟨r,fun h=>absurd h (by decide),fun h=>absurd h (by decide)⟩,F _⟩
   ·exact absurd Bq.symm hk
 ·have Bq:(if a0 ts=a1 ts then(4:Int)else 0)=k:=hr
  split at Bq
  ·subst Bq
   exact⟨⟨r,fun h=>absurd h (by decide),fun h=>absurd h (by decide)⟩,F _⟩
  ·exact absurd Bq.symm hk
 ·have Bq:(if nX ts 4=true then(4:Int)else 0)=k:=hr
  split at Bq
  ·rename_i U
   subst Bq
   have I:=fun v K=>H2 (J.all U v K)
   obtain⟨v,rfl⟩:=XL (ts:=D) (by rw[←i];simpa[lj]using H)
   have K:=I v (by simp)
   refine⟨⟨r,fun _=>I,fun h=>absurd h (by decide)⟩,.inr (.inr ⟨rfl, ?_⟩)⟩
   show bit (1-v)
   unfold bit at *; omega
  ·exact absurd Bq.symm hk
 iterate 3
  ·have Bq:(if nX ts 4=true then(4:Int)else 0)=k:=hr
   split at Bq
   ·rename_i U
    subst Bq
    have I:=fun v K=>H2 (J.all U v K)
    obtain⟨v,w,rfl⟩:=tX (ts:=D) (by rw[←i];simpa[lj]using H)
    have K:=I v (by simp)
    have N:=I w (by simp)
    refine⟨⟨r,fun _=>I,fun h=>absurd h (by decide)⟩,.inr (.inr ⟨rfl, ?_⟩)⟩
    first
     |(show bit (min v w);unfold bit at *; omega)
     |(show bit (max v w);unfold bit at *; omega)
     |(show bit (max (1-v) w);unfold bit at *; omega)
   ·exact absurd Bq.symm hk
end Go.Proofs.YtcpceiclnbmgiaaGreat
