/- Walks of functions of the program and of the reference, and their plain laws, part 4. Conditions: the theorems' own. -/
import Derived.Test.YtjniffjppoklpaaGreatM3
import Derived.KernelRfl
set_option maxRecDepth 100000
set_option linter.unusedSimpArgs false
set_option linter.unusedVariables false
set_option maxHeartbeats 16000000
namespace Go.Proofs.YtjniffjppoklpaaGreat
open Go Go.Ev
def bit(n:Int):Prop:=n=0∨n=1
theorem ana{n:Int}(h:bit n):bd n:=by unfold bit at h;unfold bd;omega
theorem UR(b:Bool):bit (te b):=by cases b <;> simp[te,bit]
theorem P6(c f t:Int):be pE 127 [.i .i64 c,.i .i64 f,.i .i64 t] []=some (.b (lA c f t),[]):=by
 rw[iD W1 (by simp[So])]
 unfold lA
 by_cases E:f≤t
 ·by_cases r:f≤c <;> by_cases D:c<t <;> simp only[qA,seval,So,E,r,D]
 ·by_cases r:f≤c <;> by_cases D:c<t <;> simp only[qA,seval,So,E,r,D,or_true,or_false,or_self]
theorem P7(c f t:Int):be pE 195 [.i .i64 c,.i .i64 f,.i .i64 t] []=some (.b (lA c f t),[]):=by
 have h:be pE 199 [.i .i64 c,.i .i64 f,.i .i64 t] []=some (.b (lA c f t),[]):=by
  rw[iD Xr (by simp[IE])]
  unfold lA
  by_cases E:f≤t
  ·by_cases r:f≤c <;> by_cases D:c<t <;> simp only[qA,seval,IE,E,r,D]
  ·by_cases r:f≤c <;> by_cases D:c<t <;> simp only[qA,seval,IE,E,r,D,or_true,or_false,or_self]
 rw[iD Xp (by simp[Wx])]
 simp only[qA,seval,Wx,h,Xs]
theorem DO(b:Bool):be pE 151 [.b b] []=some (.i .i64 (te b),[]):=by
 rw[iD Xa (by simp[We])]
 cases b <;> simp only[qA,seval,We,te]
theorem A0(b:Bool):be pE 126 [.b b] []=some (.i .i64 (te b),[]):=by
 rw[iD W0 (by simp[V1])]
 cases b <;> simp only[qA,seval,V1,te]
def P8(op:Int):Int→List Int→Int:=if op=12 then alC else alD
theorem Gp(op m v:Int)(r:List Int)(h:op=12∨op=13):P8 op m (v::r)=P8 op (if op=12 then min m v else max m v) r:=by
 unfold P8
 rcases h with rfl|rfl <;> rfl
theorem Kg(op m:Int):P8 op m []=m:=by unfold P8;split <;> rfl
theorem aDt(op num:Int)(GJ:op=12∨op=13)(r:List Int)(W:0<r.length)(a:T)(F:iJ a r.length (ints r))(I:r.length≤pG)(fr:Fr)(lh:iL iy)(sh:List iy)
  (K:an fr 0= .i .i64 op) (J:an fr 2=a) (N:an fr 7= .i .i64 (a0 r)) (O:an fr 8= .i .i64 1):
  Lp pE 176 zK fr lh sh (.ext 1) fun f l s=>an f 7= .i .i64 (P8 op (a0 r) r.tail)∧l=lh∧s=sh:=by
 refine kO SI (fun k f l s=> ∃m,an f 7= .i .i64 m∧an f 8= .i .i64 ((k+1:Nat):Int)∧P8 op m (r.drop (k+1))=P8 op (a0 r) r.tail∧l=lh∧s=sh) (r.length-1) ⟨_,N,O,by simp,rfl,rfl⟩ ?_ ?_
 ·rintro k f _ _ X E ⟨m,H,g8,D,rfl,rfl⟩
  have PG:k+1<r.length:=by omega
  have U:((k+1:Nat):Int)<r.length:=by omega
  have V:=iZ (k:=k+1) (by omega)
  rw[List.drop_eq_getElem_cons PG,Gp _ _ _ _ GJ]at D
  rcases GJ with rfl|rfl <;> simp only[qB,seval,gd,zK,E,K,J,H,g8,F.lenI,U,tC F PG,V,rm,bq1,bq2,bq3,bq4] <;> clear E <;> grind
 ·rintro f _ _ E ⟨m,H,g8,D,rfl,rfl⟩
  rw[show r.length-1+1=r.length by omega]at D g8
  rw[List.drop_length,Kg]at D
  simp only[qB,seval,gd,zK,E,J,H,g8,F.lenI,Int.lt_irrefl,D]
def vOk(op:Int)(r:List Int):Prop:=(∀v∈r,bd v)∧((op=19∨op=20∨op=21∨op=22)→ ∀v∈r,bit v)∧(op=14→bit (a0 r))
theorem H8(op num:Int)(r:List Int)(a:T)(D:iJ a r.length (ints r))(W:r.length≤pG)(X:7≤op)(Y:op≤22)(E:kS op r.length=true)(Z:vOk op r):be pE 173 [.i .i64 op,.i .i64 num,a] []=some (.i .i64 (GU op r),[]):=by
 rw[iD Xe (by simp[wE])]
 obtain⟨J,NA,K⟩:=Z
 have N: ∀x F,r=x::F→(op=12∨op=13)→Ar wE.res wE.eff (DC pE wE.n wE.code ⟨qx [.i .i64 op,.i .i64 num,a],.nil,[]⟩)=some (.i .i64 (P8 op (a0 r) r.tail),[]):=by
  rintro x F rfl U
  have V:=fun fr lh sh=>aDt op num U (x::F) (by simp) a D W fr lh sh
  obtain⟨ex,rfl⟩:=sw D
  have hz:0<F.length+1:=Nat.succ_pos _
  have e0:a0 (x::F)=x:=rfl
  rw[e0]at V ⊢
  rcases U with rfl|rfl <;> simp only[qA,seval,kG,wE,hz,V]
 have yo:1≤op:=by omega
 rcases su yo Y with rfl|rfl|rfl|rfl|rfl|rfl|rfl|rfl|rfl|rfl|rfl|rfl|rfl|rfl|rfl|rfl|rfl|rfl|rfl|rfl|rfl|rfl
 all_goals first
  |exact absurd X (by decide)
  |(obtain⟨x,y,rfl⟩:=pI (by simpa[kS]using E);obtain⟨ex,rfl⟩:=sw D;have hx:=J x (by simp);have H:=J y (by simp);simp only[qA,seval,kG,jw,iN,wE,ints,Kb hx H,Kb hx (zk H),af6 hx H,af7 hx H,J9 H,DO,ah2,as8,as9,ata,atb,atc,Qk,Xb];rfl)
  |(match r,E with
     |x::ts,_=>exact N x ts rfl (by simp))
  |skip
 ·obtain⟨x,rfl⟩:=PX (by simpa[kS]using E)
  obtain⟨ex,rfl⟩:=sw D
  have hx:=J x (by simp)
  have h:=Kb (a:=0) (by unfold bd;omega) (zk hx)
  have I:=J9 hx
  rw[show(0:Int)+ -x= -x by omega,Is (zk hx)]at h
  simp only[qA,seval,kG,wE,ints,I,h,ah2];rfl
 ·obtain⟨x,y,z,rfl⟩:=Nq (by simpa[kS]using E)
  obtain⟨ex,rfl⟩:=sw D
  have e:GU 14 [x,y,z]=if x=0 then z else y:=rfl
  rw[e]
  rcases K rfl with hx|hx <;> (change x=_ at hx;subst hx;simp only[qA,seval,kG,wE,ints])
 ·obtain⟨x,y,z,rfl⟩:=Nq (by simpa[kS]using E)
  obtain⟨ex,rfl⟩:=sw D
  simp only[qA,seval,kG,jw,iN,wE,ints,P7,DO,atd,ate,Qk,Xb];rfl
 ·obtain⟨x,rfl⟩:=PX (by simpa[kS]using E)
  obtain⟨ex,rfl⟩:=sw D
  have O:=NA (by simp) x (by simp)
  have I:wr .i64 (1-x)=1-x:=by unfold bit at O;exact jE ⟨by omega,by omega⟩
  simp only[qA,seval,kG,wE,ints,I];rfl
 all_goals
  obtain⟨x,y,rfl⟩:=pI (by simpa[kS]using E)
  obtain⟨ex,rfl⟩:=sw D
  have O:=NA (by simp) x (by simp)
  have I:wr .i64 (1-x)=1-x:=by unfold bit at O;exact jE ⟨by omega,by omega⟩
  have e1:GU 20 [x,y]=min x y:=rfl
  have e2:GU 21 [x,y]=max x y:=rfl
  have e3:GU 22 [x,y]=max (1-x) y:=rfl
  simp only[qB,seval,kG,jw,iN,wE,ints,I,e1,e2,e3]
  grind
theorem P9(op a b:Int)(K:vOk op [a,b])(N:op=8∨op=9∨op=10∨op=11∨op=16∨op=17∨op=18∨op=20∨op=21∨op=22):be pE 129 [.i .i64 op,.i .i64 a,.i .i64 b] []=some (.i .i64 (GU op [a,b]),[]):=by
 rw[iD W3 (by simp[zH])]
 obtain⟨I,NA,_⟩:=K
 have H:=I a (by simp)
 have E:=I b (by simp)
 have r:(op=19∨op=20∨op=21∨op=22)→bit a∧bit b:=fun h=>⟨NA h a (by simp),NA h b (by simp)⟩
 clear I NA
 rcases N with rfl|rfl|rfl|rfl|rfl|rfl|rfl|rfl|rfl|rfl
 ·have h:=Ka H E
  simp only[qA,seval,zH,h,W2];rfl
 ·have h:=Ka H (zk E)
  have J:=J9 E
  simp only[qA,seval,zH,h,J,W2];rfl
 ·have h:=RY H E
  simp only[qA,seval,zH,h,ahq];rfl
 ·have h:=af9 H E
  simp only[qA,seval,zH,h,asR];rfl
 ·have h:=A0 (decide (a<b))
  simp only[qA,seval,zH,h,Qi];rfl
 ·have h:=A0 (decide (a≤b))
  simp only[qA,seval,zH,h,Qi];rfl
 ·have h:=A0 (decide (a=b))
  simp only[qA,seval,zH,h,Qi];rfl
 ·obtain⟨D,F⟩:=r (by simp)
  have h:=aeN D F
  simp only[qA,seval,zH,h];rfl
 ·obtain⟨D,F⟩:=r (by simp)
  have h:=Zg D F
  simp only[qA,seval,zH,h];rfl
 ·obtain⟨D,F⟩:=r (by simp)
  have J:wr .i64 (1-a)=1-a:=by unfold bit at D;exact jE ⟨by omega,by omega⟩
  have h:=Zg (a:=1-a) (b:=b) (by unfold bit at D;omega) F
  simp only[qA,seval,zH,J,h];rfl
inductive Fm where
 |mk (op num:Int) (args:List Fm)
def Fm.op:Fm→Int| .mk o _ _=>o
def Fm.num:Fm→Int| .mk _ n _=>n
def Fm.args:Fm→List Fm| .mk _ _ a=>a
mutual
def pA:Fm→List T→Prop
 | .mk op num args,cs=> ∃a r,cs= [.i .i64 op,.i .i64 num,a]∧iJ a args.length r∧jl args r
def jl:List Fm→List T→Prop
 | [],cs=>cs= []
 |x::xs,cs=> ∃c r,cs=c++r∧pA x c∧jl xs r
end
theorem pA.cells{x:Fm}{cs:List T}(h:pA x cs): ∃a r,cs= [.i .i64 x.op,.i .i64 x.num,a]∧iJ a x.args.length r∧jl x.args r:=by
 obtain⟨o,n,a⟩:=x
 rw[pA]at h
 exact h
theorem pA.of{x:Fm}{a:T}{r:List T}(D:iJ a x.args.length r)(E:jl x.args r):pA x [.i .i64 x.op,.i .i64 x.num,a]:=by
 obtain⟨o,n,l⟩:=x
 rw[pA]
 exact⟨a,r,rfl,D,E⟩
theorem pA.len{x:Fm}{cs:List T}(h:pA x cs):cs.length=3:=by
 obtain⟨a,r,rfl,_⟩:=h.cells;rfl
theorem jl.nil:jl [] []:=by rw[jl]
theorem jl.cons{x:Fm}{xs:List Fm}{c r:List T}(D:pA x c)(E:jl xs r):jl (x::xs) (c++r):=by
 grind [jl]
theorem jl.append: ∀{xs D:List Fm} {c r:List T},jl xs c→jl D r→jl (xs++D) (c++r)
 | [],D,c,r,E,F=>by grind [jl]
 |x::xs,D,c,r,E,F=>by
  rw[jl]at E
  obtain⟨J,K,rfl,H,I⟩:=E
  rw[List.append_assoc]
  exact jl.cons H (jl.append I F)
theorem jl.one{x:Fm}{c:List T}(h:pA x c):jl [x] c:=by
 have:=jl.cons h jl.nil
 grind
theorem jl.len: ∀{xs:List Fm} {cs:List T},jl xs cs→cs.length=xs.length*3
 | [],cs,h=>by grind [jl]
 |x::xs,cs,h=>by
  rw[jl]at h
  obtain⟨c,r,rfl,D,E⟩:=h
  rw[List.length_append,D.len,E.len,List.length_cons];omega
theorem jl.drop: ∀{xs:List Fm} {cs:List T} (k:Nat) (D:k<xs.length),jl xs cs→ ∃c r,cs.drop (k*3)=c++r∧pA xs[k] c∧jl (xs.drop (k+1)) r
 | [],cs,k,D,h=>by simp at D
 |x::xs,cs,0,D,h=>by
  grind [jl]
 |x::xs,cs,k+1,D,h=>by
  rw[jl]at h
  obtain⟨c,r,rfl,E,F⟩:=h
  obtain⟨H,I,e,J,K⟩:=jl.drop k (by simpa using D) F
  refine⟨H,I, ?_,J,by simpa using K⟩
  have:(k+1)*3=c.length+k*3:=by rw[E.len];omega
  grind [List.drop_append,Nat.add_sub_cancel_left,List.drop_eq_nil_of_le]
theorem aaa{xs:List Fm}{a:T}{E:List T}(I:iJ a xs.length E)(F:jl xs E)(k:Nat)(H:k<xs.length):
  ∃b D r,(∀kk,ng a (.i kk (k:Int)) 3=some (.vp (.i .i64 xs[k].op:: .i .i64 xs[k].num::b::r)))∧iJ b xs[k].args.length D∧jl xs[k].args D:=by
 obtain⟨c,r,e,J,O⟩:=jl.drop k H F
 obtain⟨b,D,rfl,K,N⟩:=J.cells
 refine⟨b,D,r,fun kk=> ?_,K,N⟩
 rw[I.ia (sz:=3) F.len H,e];rfl
mutual
def Fm.val(at_:List Int):Fm→Int
 | .mk op num args=>if op=1 then num else if op=6 then at_.getD num.toNat 0 else GU op (mU at_ args)
def mU(at_:List Int):List Fm→List Int
 | []=> []
 |x::xs=>x.val at_::mU at_ xs
end
theorem Fm.val_eq(at_:List Int)(x:Fm):x.val at_=if x.op=1 then x.num else if x.op=6 then at_.getD x.num.toNat 0 else GU x.op (mU at_ x.args):=by obtain⟨_,_,_⟩:=x;rw[Fm.val];rfl
theorem xf(at_:List Int): ∀xs,mU at_ xs=xs.map (Fm.val at_)
 | []=>rfl
 |x::xs=>by rw[mU,xf at_ xs];rfl
mutual
def H2(at_:List Int):Fm→Prop
 | .mk op num args=>(op=1∧bd num)∨(op=6∧0≤num∧num.toNat<at_.length∧bd (at_.getD num.toNat 0))∨(7≤op∧op≤22∧kS op args.length=true∧args.length≤pG∧Gq at_ args∧vOk op (mU at_ args))
def Gq(at_:List Int):List Fm→Prop
 | []=>True
 |x::xs=>H2 at_ x∧Gq at_ xs
end
theorem Kh(at_:List Int)(x:Fm):H2 at_ x↔((x.op=1∧bd x.num)∨(x.op=6∧0≤x.num∧x.num.toNat<at_.length∧bd (at_.getD x.num.toNat 0))∨(7≤x.op∧x.op≤22∧kS x.op x.args.length=true∧x.args.length≤pG∧Gq at_ x.args∧vOk x.op (mU at_ x.args))):=by obtain⟨_,_,_⟩:=x;rw[H2];rfl
theorem NB(at_:List Int): ∀{xs:List Fm},Gq at_ xs↔ ∀x∈xs,H2 at_ x
 | []=>by simp[Gq]
 |x::xs=>by simp_all[Gq,NB]
mutual
def Fm.sz:Fm→Nat
 | .mk _ _ args=>1+zl args
def zl:List Fm→Nat
 | []=>0
 |x::xs=>x.sz+zl xs
end
theorem Fm.sz_eq(x:Fm):x.sz=1+zl x.args:=by obtain⟨_,_,_⟩:=x;rw[Fm.sz];rfl
theorem Gr: ∀{xs:List Fm} {x:Fm},x∈xs→x.sz≤zl xs
 |y::xs,x,h=>by
  rw[zl]
  rcases List.mem_cons.1 h with rfl|h
  ·omega
  ·have:=Gr h;omega
theorem Fm.ind{P:Fm→Prop}(h: ∀x:Fm,(∀y∈x.args,P y)→P x)(x:Fm):P x:=by
 have: ∀n (x:Fm),x.sz≤n→P x:=by
  intro n
  induction n with
  |zero=>intro x r;rw[x.sz_eq]at r;omega
  |succ n ih=>
   intro x r
   refine h x fun y D=>ih y ?_
   have:=Gr D
   rw[x.sz_eq]at r;omega
 exact this _ x (Nat.le_refl _)
section
variable(at_:List Int)(oG:T)(kZ:iJ oG at_.length (ints at_))
def anb(f:Fm):Prop:= ∀(b:T) (D r:List T),iJ b f.args.length D→jl f.args D→H2 at_ f→be pE 95 [.vp (.i .i64 f.op:: .i .i64 f.num::b::r),oG] []=some (.i .i64 (f.val at_),[])
include kZ
theorem aw7{xs:List Fm}(ih: ∀y∈xs,anb at_ oG y){a:T}{E:List T}(F:iJ a xs.length E)(H:jl xs E)(I:Gq at_ xs)(k:Nat)(D:k<xs.length)(j:Int)(J:j=(k:Int)):
  ∃c,(∀kk,ng a (.i kk j) 3=some (.vp c))∧be pE 95 [.vp c,oG] []=some (.i .i64 (xs[k].val at_),[]):=by
 have _:=kZ
 obtain⟨b,K,r,N,O,U⟩:=aaa F H k D
 subst J
 exact⟨_,N,ih xs[k] (List.getElem_mem D) b K r O U ((NB at_).1 I _ (List.getElem_mem D))⟩
theorem aDv(op num:Int)(GJ:op=12∨op=13)(xs:List Fm)(ih: ∀y∈xs,anb at_ oG y)(a:T)(O r:List T)(J:iJ a xs.length O)(Z:jl xs O)(sE:Gq at_ xs)(mR:0<xs.length)(U:xs.length≤pG)(fr:Fr)(lh:iL iy)(sh:List iy)
  (E:an fr 0= .vp (.i .i64 op:: .i .i64 num::a::r)) (F:an fr 1=oG) (H:an fr 5= .i .i64 (a0 (mU at_ xs))) (I:an fr 6= .i .i64 1):
  qG 155 wD fr lh sh (.ext 1)∧
  (an (pb pE 155 wD fr lh sh) 5= .i .i64 (P8 op (a0 (mU at_ xs)) (mU at_ xs).tail)∧nh pE 155 wD fr lh sh=lh∧nB pE 155 wD fr lh sh=sh):=by
 refine jh (P:=fun fr je jk=>an fr 5= .i .i64 (P8 op (a0 (mU at_ xs)) (mU at_ xs).tail)∧je=lh∧jk=sh) (jx (fun k st=> ∃(fr:Fr) (m:Int),st=⟨fr,lh,sh⟩∧an fr 0= .vp (.i .i64 op:: .i .i64 num::a::r)∧an fr 1=oG∧an fr 5= .i .i64 m∧an fr 6= .i .i64 (k:Int)∧P8 op m ((mU at_ xs).drop k)=P8 op (a0 (mU at_ xs)) (mU at_ xs).tail) _ xs.length ?_ ?_ 1 _ mR ⟨fr,a0 (mU at_ xs),rfl,E,F,H,I,by rw[List.drop_one]⟩)
 ·rintro k _ hk ⟨fr,m,rfl,E,F,H,I,D⟩
  left
  have V:(k:Int)<xs.length:=by omega
  have W:=iZ (k:=k) (by omega)
  have X:(mU at_ xs).length=xs.length:=by rw[xf];simp
  have K:(mU at_ xs)[k]'(by omega)=xs[k].val at_:=by simp[xf]
  obtain⟨c,Y,N⟩:=aw7 at_ oG kZ ih J Z sE k hk (k:Int) rfl
  rw[List.drop_eq_getElem_cons (by omega),Gp _ _ _ _ GJ,K]at D
  generalize xs[k].val at_=v at D N
  rcases GJ with rfl|rfl
  ·rw[if_pos rfl,show min m v=(if v<m then v else m)by split <;> omega]at D
   simp only[qA,seval,wD,E,F,H,I,J.lenI,V,Y,W,N,EA,kZ.froz]
   refine⟨_,rfl,_,_,rfl, ?_, ?_, ?_, ?_,D⟩ <;> simp only[qA,seval,E,F]
  ·rw[if_neg (by decide),show max m v=(if v>m then v else m)by split <;> omega]at D
   simp only[qA,seval,wD,E,F,H,I,J.lenI,V,Y,W,N,EA,kZ.froz]
   refine⟨_,rfl,_,_,rfl, ?_, ?_, ?_, ?_,D⟩ <;> simp only[qA,seval,E,F]
 ·rintro _ ⟨fr,m,rfl,E,F,H,I,D⟩
  have X:(mU at_ xs).length=xs.length:=by rw[xf];simp
  rw[←X,List.drop_length,Kg]at D
  simp only[qA,seval,wD,E,I,J.lenI,Int.lt_irrefl]
  exact⟨_,_,oH,rfl,rfl,by simp only[qA,seval,H,D],rfl,rfl⟩
theorem JF(f:Fm):anb at_ oG f:=by
 induction f using Fm.ind with
 |h f ih=>
  intro b cb r hb V sE
  rw[iD acJ (by simp[Hb]),Fm.val_eq]
  rcases(Kh at_ f).1 sE with⟨h1,_⟩|⟨h6,hn1,hn2,_⟩|⟨h7,Vg,mL,Dj,aw8,hv⟩
  ·rw[if_pos h1]
   simp only[qA,seval,Hb,h1]
  ·rw[if_neg (by omega),if_pos h6]
   have iW:=fun kk=>tC kZ hn2 kk
   rw[Int.toNat_of_nonneg hn1]at iW
   have e:at_.getD f.num.toNat 0=at_[f.num.toNat]:=by simp[List.getD_eq_getElem?_getD,List.getElem?_eq_getElem hn2]
   rw[e]
   simp only[qA,seval,Hb,h6,iW]
  ·rw[if_neg (by omega),if_neg (by omega)]
   have N:mU at_ f.args=f.args.map (Fm.val at_):=xf at_ _
   have D: ∀(k:Nat) (W:k<f.args.length) (j:Int),j=(k:Int)→ ∃c,(∀kk,ng b (.i kk j) 3=some (.vp c))∧be pE 95 [.vp c,oG] []=some (.i .i64 (f.args[k].val at_),[]):=fun k W j hj=>aw7 at_ oG kZ (fun y hy=>ih y hy) hb V aw8 k W j hj
   have X:0<f.args.length→(f.op=12∨f.op=13)→Ar Hb.res Hb.eff (DC pE Hb.n Hb.code ⟨qx [.vp (.i .i64 f.op:: .i .i64 f.num::b::r),oG],.nil,[]⟩)=some (.i .i64 (P8 f.op (a0 (mU at_ f.args)) (mU at_ f.args).tail),[]):=by
    intro mR ho
    obtain⟨Y,F,Kf⟩:=D 0 mR 0 rfl
    have hL:=fun fr lh sh=>aDv at_ oG kZ f.op f.num ho f.args (fun y hy=>ih y hy) b cb r hb V aw8 mR Dj fr lh sh
    have H:a0 (mU at_ f.args)=f.args[0].val at_:=by rw[N];unfold a0;simp[List.getD_eq_getElem?_getD,List.getElem?_eq_getElem mR]
    rw[H]at hL ⊢
    rcases ho with ho|ho <;> rw[ho]at hL ⊢ <;> simp only[qA,seval,Hb,F,Kf,EA,kZ.froz,hL]
   have Z: ∀x y:Int,mU at_ f.args= [x,y]→(f.op=8∨f.op=9∨f.op=10∨f.op=11∨f.op=16∨f.op=17∨f.op=18∨f.op=20∨f.op=21∨f.op=22)→Ar Hb.res Hb.eff (DC pE Hb.n Hb.code ⟨qx [.vp (.i .i64 f.op:: .i .i64 f.num::b::r),oG],.nil,[]⟩)=some (.i .i64 (GU f.op [x,y]),[]):=by
    intro x y Ks ho
    have NW:f.args.length=2:=by have:=congrArg List.length Ks;rw[N]at this;simpa using this
    obtain⟨Y,F,Kf⟩:=D 0 (by omega) 0 rfl
    obtain⟨c1,I,PT⟩:=D 1 (by omega) 1 rfl
    have H:f.args[0].val at_=x:=by
     have:(mU at_ f.args)[0]? =some x:=by rw[Ks];rfl
     grind
    have e1:f.args[1].val at_=y:=by
     have:(mU at_ f.args)[1]? =some y:=by rw[Ks];rfl
     grind
    rw[H]at Kf
    rw[e1]at PT
    rw[Ks]at hv
    have hcb:=P9 f.op x y hv ho
    rcases ho with ho|ho|ho|ho|ho|ho|ho|ho|ho|ho <;> rw[ho]at hcb ⊢ <;> simp only[qA,seval,jw,iN,Hb,F,I,Kf,PT,EA,asf,kZ.froz,hcb,asE,asF]
   have O: ∀(k:Nat) (W:k<f.args.length),(mU at_ f.args)[k]? =some (f.args[k].val at_):=fun k W=>by rw[N];simp[List.getElem?_eq_getElem W]
   rcases su (show 1≤f.op by omega) Vg with h|h|h|h|h|h|h|h|h|h|h|h|h|h|h|h|h|h|h|h|h|h
   iterate 6 ·omega
   ·have EU:f.args.length=1:=by rw[h]at mL;simpa[kS]using mL
    obtain⟨x,E⟩:=PX (ts:=mU at_ f.args) (by rw[N];simpa using EU)
    obtain⟨Y,F,Kf⟩:=D 0 (by omega) 0 rfl
    have H:f.args[0].val at_=x:=by have:=O 0 (by omega);rw[E]at this;simpa using this.symm
    rw[H]at Kf
    rw[E]at hv ⊢
    have J:=hv.1 x (by simp)
    have ha:=Ka (a:=0) (by unfold bd;omega) (zk J)
    have hw:=J9 J
    rw[show(0:Int)+ -x= -x by omega,Is (zk J)]at ha
    rw[h]
    simp only[qA,seval,Hb,F,Kf,EA,kZ.froz,hw,ha,W2];rfl
   ·grind [kS,pI,mU]
   ·grind [kS,pI,mU]
   ·grind [kS,pI,mU]
   ·grind [kS,pI,mU]
   ·rw[X (by rw[h]at mL;simp[kS]at mL;omega) (by omega),h];rfl
   ·rw[X (by rw[h]at mL;simp[kS]at mL;omega) (by omega),h];rfl
   ·have U:f.args.length=3:=by rw[h]at mL;simpa[kS]using mL
    obtain⟨x,y,z,E⟩:=Nq (ts:=mU at_ f.args) (by rw[N];simpa using U)
    obtain⟨Y,F,Kf⟩:=D 0 (by omega) 0 rfl
    obtain⟨c1,I,PT⟩:=D 1 (by omega) 1 rfl
    obtain⟨c2,y9,K⟩:=D 2 (by omega) 2 rfl
    have H:f.args[0].val at_=x:=by have:=O 0 (by omega);rw[E]at this;simpa using this.symm
    have e1:f.args[1].val at_=y:=by have:=O 1 (by omega);rw[E]at this;simpa using this.symm
    have e2:f.args[2].val at_=z:=by have:=O 2 (by omega);rw[E]at this;simpa using this.symm
    rw[H]at Kf
    rw[e1]at PT
    rw[e2]at K
    rw[E,h,show GU 14 [x,y,z]=if x=0 then z else y from rfl]
    by_cases hx0:x=0 <;> simp only[qA,seval,Hb,F,I,y9,Kf,PT,K,EA,kZ.froz,hx0]
   ·have U:f.args.length=3:=by rw[h]at mL;simpa[kS]using mL
    obtain⟨x,y,z,E⟩:=Nq (ts:=mU at_ f.args) (by rw[N];simpa using U)
    obtain⟨Y,F,Kf⟩:=D 0 (by omega) 0 rfl
    obtain⟨c1,I,PT⟩:=D 1 (by omega) 1 rfl
    obtain⟨c2,y9,K⟩:=D 2 (by omega) 2 rfl
    have H:f.args[0].val at_=x:=by have:=O 0 (by omega);rw[E]at this;simpa using this.symm
    have e1:f.args[1].val at_=y:=by have:=O 1 (by omega);rw[E]at this;simpa using this.symm
    have e2:f.args[2].val at_=z:=by have:=O 2 (by omega);rw[E]at this;simpa using this.symm
    rw[H]at Kf
    rw[e1]at PT
    rw[e2]at K
    rw[E,h]
    have hi:=P6 x y z
    have ht:=A0 (lA x y z)
    simp only[qA,seval,jw,iN,Hb,F,I,y9,Kf,PT,K,EA,asf,kZ.froz,hi,ht,asC,asD,Qi,asB];rfl
   iterate 3
    ·obtain⟨x,y,Ks⟩:=pI (ts:=mU at_ f.args) (by rw[N];rw[h]at mL;simpa[kS]using mL)
     rw[Ks];exact Z x y Ks (by omega)
   ·have EU:f.args.length=1:=by rw[h]at mL;simpa[kS]using mL
    obtain⟨x,E⟩:=PX (ts:=mU at_ f.args) (by rw[N];simpa using EU)
    obtain⟨Y,F,Kf⟩:=D 0 (by omega) 0 rfl
    have H:f.args[0].val at_=x:=by have:=O 0 (by omega);rw[E]at this;simpa using this.symm
    rw[H]at Kf
    rw[E]at hv ⊢
    have J:=hv.2.1 (by omega) x (by simp)
    have hw:wr .i64 (1-x)=1-x:=by unfold bit at J;exact jE ⟨by omega,by omega⟩
    rw[h]
    simp only[qA,seval,Hb,F,Kf,EA,kZ.froz,hw];rfl
   iterate 3
    ·obtain⟨x,y,Ks⟩:=pI (ts:=mU at_ f.args) (by rw[N];rw[h]at mL;simpa[kS]using mL)
     rw[Ks];exact Z x y Ks (by omega)
end
mutual
def Ex.kX:Ex→Int
 | .mk op _ _ args=>if op=1 then 1 else if op=2 then 2 else if op=3 then 3 else if op=7∨op=8∨op=9∨op=12∨op=13 then a0 (kXL args)else if op=14 then a1 (kXL args)
   else if op=10 then max (a0 (kXL args)) (a1 (kXL args))else if op=11 then(if a1 (kXL args)=2 then 1 else a0 (kXL args))else 4
def kXL:List Ex→List Int
 | []=> []
 |x::xs=>x.kX::kXL xs
end
def FX(k n:Int):Prop:=((k=1∨k=2)∧bd n)∨(k=3∧0≤n∧n≤1439)∨(k=4∧bit n)
theorem abj{k n:Int}(h:FX k n):bd n:=by
 rcases h with⟨_,h⟩|⟨_,h1,h2⟩|⟨_,h⟩
 ·exact h
 ·unfold bd;omega
 ·exact ana h
theorem Ki{n:Int}(h:FX 4 n):bit n:=by
 rcases h with⟨h|h,_⟩|⟨h,_⟩|⟨_,h⟩
 ·omega
 ·omega
 ·omega
 ·exact h
theorem Cm{k n:Int}(h:k=1∨k=2)(r:bd n):FX k n:= .inl ⟨h,r⟩
def nc:List Nat→Int×Int:=fun _=>(0,6)
def FK(scope k:Int)(y:Ex):Prop:=y.wf=true∧y.ty nc scope=(k,0)
def FKs(scope:Int):List Int→List Ex→Prop
 | [],[]=>True
 |t::ts,y::r=>FK scope t y∧FKs scope ts r
 |_,_=>False
theorem FKs.wf{scope:Int}: ∀{ts:List Int} {r:List Ex},FKs scope ts r→zq r=true
 | [],[],_=>rfl
 |t::ts,y::r,h=>by rw[zq,h.1.1,FKs.wf h.2];rfl
theorem FKs.ty{scope:Int}: ∀{ts:List Int} {r:List Ex},FKs scope ts r→qI nc scope r= .ok ts
 | [],[],_=>by rw[qI]
 |t::ts,y::r,h=>by
  rw[qI,h.1.2,FKs.ty h.2];rfl
theorem FK.mk{scope k:Int}{op:Int}{D:List Ex}{ts:List Int}(E:1≤op)(F:op≤22)(H:op≠6)(I:kS op D.length=true)(r:FKs scope ts D)(K:qW op ts=k)(N:k≠0):FK scope k (.mk op 0 [] D):=by
 constructor
 ·rw[Ex.wf_eq,Bool.and_eq_true]
  refine⟨?_,r.wf⟩
  have J:0≤FE op:=by unfold FE;split <;> (try split) <;> decide
  simp only[tB,Bool.and_eq_true,decide_eq_true_eq]
  refine⟨E,F,I,⟨Int.le_refl _,J⟩, ?_⟩
  show(if op=6 then vA []else decide (([]:List Nat)= []))=true
  grind
 ·rw[Ex.ty_eq]
  show(if op=6 then _ else match qI nc scope D with| .error e=>(0,e)| .ok ts=>if qW op ts=0 then(0,9)else(qW op ts,0))=(k,0)
  rw[if_neg H,r.ty]
  grind
theorem FK.leaf{scope k op num:Int}(h:(op=1∧k=1∧0≤num∧num≤1099511627776)∨(op=2∧k=2∧0≤num∧num≤1099511627776)∨(op=3∧k=3∧0≤num∧num≤1439)∨(op=4∧k=4∧num=0)∨(op=5∧k=4∧num=0)):FK scope k (pc op num):=by
 have r:(pc op num).wf=tB op num [] 0:=by rw[Ex.wf_eq];simp[pc,Ex.op,Ex.num,Ex.name,Ex.args,zq]
 have D:op≠6→(pc op num).ty nc scope=if qW op []=0 then(0,9)else(qW op [],0):=fun E=>by
  grind [Ex.ty_eq,pc,Ex.op,Ex.args,qI]
 constructor
 ·rw[r]
  simp only[tB,Bool.and_eq_true,decide_eq_true_eq]
  rcases h with⟨rfl,rfl,h1,h2⟩|⟨rfl,rfl,h1,h2⟩|⟨rfl,rfl,h1,h2⟩|⟨rfl,rfl,rfl⟩|⟨rfl,rfl,rfl⟩
  ·exact⟨by decide,by decide,rfl,⟨h1,h2⟩,rfl⟩
  ·exact⟨by decide,by decide,rfl,⟨h1,h2⟩,rfl⟩
  ·exact⟨by decide,by decide,rfl,⟨h1,h2⟩,rfl⟩
  ·exact⟨by decide,by decide,rfl,⟨by decide,by decide⟩,rfl⟩
  ·exact⟨by decide,by decide,rfl,⟨by decide,by decide⟩,rfl⟩
 ·rcases h with⟨rfl,rfl,h1,h2⟩|⟨rfl,rfl,h1,h2⟩|⟨rfl,rfl,h1,h2⟩|⟨rfl,rfl,rfl⟩|⟨rfl,rfl,rfl⟩ <;> rw[D (by decide)] <;> rfl
theorem Kj{scope k n:Int}(h:FX k n):FK scope k (yb k n)∧isLit (yb k n)=true∧aeY (yb k n)=n:=by
 unfold yb
 rcases h with⟨hk,hb⟩|⟨rfl,h1,h2⟩|⟨rfl,hb⟩
 ·have D:k≠4:=by omega
  have E:k≠3:=by omega
  rw[if_neg D,if_neg E]
  unfold bd at hb
  by_cases r:n<0
  ·rw[if_pos r]
   rcases hk with rfl|rfl
   ·refine⟨FK.mk (ts:= [1]) (by decide) (by decide) (by decide) rfl ⟨FK.leaf (.inl ⟨rfl,rfl,by omega,by omega⟩),trivial⟩ rfl (by decide),rfl, ?_⟩
    show- -n=n;omega
   ·refine⟨FK.mk (ts:= [2]) (by decide) (by decide) (by decide) rfl ⟨FK.leaf (.inr (.inl ⟨rfl,rfl,by omega,by omega⟩)),trivial⟩ rfl (by decide),rfl, ?_⟩
    show- -n=n;omega
  ·rw[if_neg r]
   rcases hk with rfl|rfl
   ·exact⟨FK.leaf (.inl ⟨rfl,rfl,by omega,by omega⟩),rfl,rfl⟩
   ·exact⟨FK.leaf (.inr (.inl ⟨rfl,rfl,by omega,by omega⟩)),rfl,rfl⟩
 ·rw[if_neg (by decide),if_pos rfl]
  exact⟨FK.leaf (.inr (.inr (.inl ⟨rfl,rfl,h1,h2⟩))),rfl,rfl⟩
 ·rw[if_pos rfl]
  rcases hb with rfl|rfl
  ·exact⟨FK.leaf (.inr (.inr (.inr (.inr ⟨rfl,rfl,rfl⟩)))),rfl,rfl⟩
  ·exact⟨FK.leaf (.inr (.inr (.inr (.inl ⟨rfl,rfl,rfl⟩)))),rfl,rfl⟩
theorem RZ{cl:List Nat→Int×Int}{scope:Int}: ∀{xs:List Ex} {e:Int},qI cl scope xs= .error e→e≠0
 | [],e,h=>by grind [qI]
 |x::xs,e,h=>by
  rw[qI]at h
  split at h
  ·grind
  ·cases r:qI cl scope xs with
   |error D=>rw[r]at h;cases h;exact RZ r
   |ok us=>grind
def A1:List Int→List Int→Prop
 | [],[]=>True
 |t::ts,v::r=>FX t v∧A1 ts r
 |_,_=>False
theorem A1.len: ∀{ts r:List Int},A1 ts r→ts.length=r.length
 | [],[],_=>rfl
 |t::ts,v::r,h=>by rw[List.length_cons,List.length_cons,A1.len h.2]
theorem A1.bd: ∀{ts r:List Int},A1 ts r→ ∀v∈r,bd v
 | [],[],_=>by simp
 |t::ts,v::r,h=>by
  intro w hw
  rcases List.mem_cons.1 hw with rfl|hw
  ·exact abj h.1
  ·exact A1.bd h.2 w hw
theorem A1.all{k:Int}: ∀{ts r:List Int},A1 ts r→nF ts k=true→ ∀v∈r,FX k v
 | [],[],_,_=>by simp
 |t::ts,v::r,h,D=>by
  rw[rI,Bool.and_eq_true,decide_eq_true_eq]at D
  intro w hw
  rcases List.mem_cons.1 hw with rfl|hw
  ·rw[←D.1];exact h.1
  ·exact A1.all h.2 D.2 w hw
theorem Qa(op:Int)(h:op=12∨op=13): ∀(r:List Int) (m:Int),bd m→(∀v∈r,bd v)→bd (P8 op m r)
 | [],m,D,_=>by rw[Kg];exact D
 |v::r,m,D,E=>by
  rw[Gp _ _ _ _ h]
  refine Qa op h r _ ?_ (fun w F=>E w (by simp[F]))
  grind
theorem k12{ts:List Int}{k:Int}(h:(if nF ts 1=true then(1:Int)else if nF ts 2=true then 2 else 0)=k)(r:k≠0):k=1∨k=2:=by
 grind
theorem NC{op a b k:Int}(h:FF op a b=k)(r:k≠0):k=1∨k=2:=by
 grind [FF]
theorem Rw{op k:Int}{ts F:List Int}(O:A1 ts F)(h7:7≤op)(Vg:op≤22)(K:kS op ts.length=true)(H:qW op ts=k)(I:k≠0):vOk op F∧FX k (GU op F):=by
 have E:=O.bd
 have r:=O.len
 have J: ∀b:Bool,FX 4 (te b):=fun b=> .inr (.inr ⟨rfl,UR b⟩)
 rcases su (show 1≤op by omega) Vg with rfl|rfl|rfl|rfl|rfl|rfl|rfl|rfl|rfl|rfl|rfl|rfl|rfl|rfl|rfl|rfl|rfl|rfl|rfl|rfl|rfl|rfl
 iterate 6 ·omega
 ·have D:=k12 H I
  obtain⟨v,rfl⟩:=PX (ts:=F) (by rw[←r];simpa[kS]using K)
  exact⟨⟨E,fun h=>absurd h (by decide),fun h=>absurd h (by decide)⟩,Cm D (zk (E v (by simp)))⟩
 ·have D:=k12 H I
  obtain⟨v,w,rfl⟩:=pI (ts:=F) (by rw[←r];simpa[kS]using K)
  exact⟨⟨E,fun h=>absurd h (by decide),fun h=>absurd h (by decide)⟩,Cm D (xU _)⟩
 ·have D:=k12 H I
  obtain⟨v,w,rfl⟩:=pI (ts:=F) (by rw[←r];simpa[kS]using K)
  exact⟨⟨E,fun h=>absurd h (by decide),fun h=>absurd h (by decide)⟩,Cm D (xU _)⟩
 ·have D:=NC (op:=10) H I
  obtain⟨v,w,rfl⟩:=pI (ts:=F) (by rw[←r];simpa[kS]using K)
  exact⟨⟨E,fun h=>absurd h (by decide),fun h=>absurd h (by decide)⟩,Cm D (xU _)⟩
 ·have D:=NC (op:=11) H I
  obtain⟨v,w,rfl⟩:=pI (ts:=F) (by rw[←r];simpa[kS]using K)
  exact⟨⟨E,fun h=>absurd h (by decide),fun h=>absurd h (by decide)⟩,Cm D (aga _ _)⟩
 iterate 2
  ·have D:=k12 H I
   match F,E,r with
   | [],_,r=>rw[r]at K;simp[kS]at K
   |v::F,E,_=>
    refine⟨⟨E,fun h=>absurd h (by decide),fun h=>absurd h (by decide)⟩,Cm D ?_⟩
    first
     |exact Qa 12 (.inl rfl) F v (E v (by simp)) (fun w V=>E w (by simp[V]))
     |exact Qa 13 (.inr rfl) F v (E v (by simp)) (fun w V=>E w (by simp[V]))
 ·obtain⟨a,b,c,rfl⟩:=Nq (ts:=ts) (by simpa[kS]using K)
  obtain⟨x,y,z,rfl⟩:=Nq (ts:=F) (by rw[←r];rfl)
  obtain⟨Y,Z,h3,_⟩:=O
  have C4:(if a=4∧b=c then b else 0)=k:=H
  split at C4
  ·rename_i W
   obtain⟨rfl,rfl⟩:=W
   subst C4
   have NA:=Ki Y
   refine⟨⟨E,fun h=>absurd h (by decide),fun _=>NA⟩, ?_⟩
   show FX b (if x=0 then z else y)
   split
   ·exact h3
   ·exact Z
  ·exact absurd C4.symm I
 ·have C4:(if nF ts 3=true then(4:Int)else 0)=k:=H
  split at C4
  ·subst C4
   exact⟨⟨E,fun h=>absurd h (by decide),fun h=>absurd h (by decide)⟩,J _⟩
  ·exact absurd C4.symm I
 iterate 2
  ·have C4:(if(a0 ts=1∨a0 ts=2)∧a0 ts=a1 ts then(4:Int)else 0)=k:=H
   split at C4
   ·subst C4
    exact⟨⟨E,fun h=>absurd h (by decide),fun h=>absurd h (by decide)⟩,J _⟩
   ·exact absurd C4.symm I
 ·have C4:(if a0 ts=a1 ts then(4:Int)else 0)=k:=H
  split at C4
  ·subst C4
   exact⟨⟨E,fun h=>absurd h (by decide),fun h=>absurd h (by decide)⟩,J _⟩
  ·exact absurd C4.symm I
 ·have C4:(if nF ts 4=true then(4:Int)else 0)=k:=H
  split at C4
  ·rename_i X
   subst C4
   have N:=fun v U=>Ki (O.all X v U)
   obtain⟨v,rfl⟩:=PX (ts:=F) (by rw[←r];simpa[kS]using K)
   have U:=N v (by simp)
   refine⟨⟨E,fun _=>N,fun h=>absurd h (by decide)⟩,.inr (.inr ⟨rfl, ?_⟩)⟩
   show bit (1-v)
   unfold bit at *; omega
  ·exact absurd C4.symm I
 iterate 3
  ·have C4:(if nF ts 4=true then(4:Int)else 0)=k:=H
   split at C4
   ·rename_i X
    subst C4
    have N:=fun v U=>Ki (O.all X v U)
    obtain⟨v,w,rfl⟩:=pI (ts:=F) (by rw[←r];simpa[kS]using K)
    have U:=N v (by simp)
    have V:=N w (by simp)
    refine⟨⟨E,fun _=>N,fun h=>absurd h (by decide)⟩,.inr (.inr ⟨rfl, ?_⟩)⟩
    first
     |(show bit (min v w);unfold bit at *; omega)
     |(show bit (max v w);unfold bit at *; omega)
     |(show bit (max (1-v) w);unfold bit at *; omega)
   ·exact absurd C4.symm I
end Go.Proofs.YtjniffjppoklpaaGreat
