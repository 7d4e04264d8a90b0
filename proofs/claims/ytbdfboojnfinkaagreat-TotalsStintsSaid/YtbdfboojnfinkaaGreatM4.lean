/- Walks of functions of the program and of the reference, and their plain laws, part 4. Conditions: the theorems' own. -/
import Derived.Test.YtbdfboojnfinkaaGreatM3
import Derived.KernelRfl
set_option maxRecDepth 100000
set_option linter.unusedSimpArgs false
set_option linter.unusedVariables false
set_option maxHeartbeats 16000000
namespace Go.Proofs.YtbdfboojnfinkaaGreat
open Go Go.Ev
def bit(n:Int):Prop:=n=0∨n=1
theorem agO{n:Int}(h:bit n):bd n:=by unfold bit at h;unfold bd;omega
theorem Qj(b:Bool):bit (uE b):=by cases b <;> simp[uE,bit]
theorem LS(c f t:Int):hZ pE 122 [.i .i64 c,.i .i64 f,.i .i64 t] []=some (.b (kC c f t),[]):=by
 rw[im R8 (by simp[N5])]
 unfold kC
 by_cases E:f≤t
 ·by_cases h:f≤c <;> by_cases D:c<t <;> simp only[qA,seval,N5,E,h,D]
 ·by_cases h:f≤c <;> by_cases D:c<t <;> simp only[qA,seval,N5,E,h,D,or_true,or_false,or_self]
theorem LU(c f t:Int):hZ pE 176 [.i .i64 c,.i .i64 f,.i .i64 t] []=some (.b (kC c f t),[]):=by
 have h:hZ pE 128 [.i .i64 c,.i .i64 f,.i .i64 t] []=some (.b (kC c f t),[]):=by
  rw[im Sb (by simp[Fp])]
  unfold kC
  by_cases F:f≤t
  ·by_cases D:f≤c <;> by_cases E:c<t <;> simp only[qA,seval,Fp,F,D,E]
  ·by_cases D:f≤c <;> by_cases E:c<t <;> simp only[qA,seval,Fp,F,D,E,or_true,or_false,or_self]
 rw[im Ss (by simp[RA])]
 simp only[qA,seval,RA,h,Sc]
theorem NH(b:Bool):hZ pE 171 [.b b] []=some (.i .i64 (uE b),[]):=by
 rw[im Sl (by simp[Rz])]
 cases b <;> simp only[qA,seval,Rz,uE]
theorem yw(b:Bool):hZ pE 121 [.b b] []=some (.i .i64 (uE b),[]):=by
 rw[im R7 (by simp[Re])]
 cases b <;> simp only[qA,seval,Re,uE]
def LV(op:Int):Int→List Int→Int:=if op=12 then afr else afs
theorem Db(op m v:Int)(D:List Int)(h:op=12∨op=13):LV op m (v::D)=LV op (if op=12 then min m v else max m v) D:=by
 unfold LV
 rcases h with rfl|rfl <;> rfl
theorem GQ(op m:Int):LV op m []=m:=by unfold LV;split <;> rfl
theorem awl(op num:Int)(DB:op=12∨op=13)(h:List Int)(Y:0<h.length)(a:T)(I:IsSl a h.length (ints h))(K:h.length≤oh)(fr:Fr)(lh:iz ib)(sh:List ib)
  (O:an fr 0= .i .i64 op) (N:an fr 2=a) (U:an fr 7= .i .i64 (a0 h)) (V:an fr 8= .i .i64 1):
  Lp pE 176 w9 fr lh sh (.ext 1) fun f l s=>an f 7= .i .i64 (LV op (a0 h) h.tail)∧l=lh∧s=sh:=by
 refine px N8 (fun k f l s=> ∃m,an f 7= .i .i64 m∧an f 8= .i .i64 ((k+1:Nat):Int)∧LV op m (h.drop (k+1))=LV op (a0 h) h.tail∧l=lh∧s=sh) (h.length-1) ⟨_,U,V,by simp,rfl,rfl⟩ ?_ ?_
 ·rintro k f _ _ Z F ⟨m,J,H,D,rfl,rfl⟩
  have E:k+1<h.length:=by omega
  have W:((k+1:Nat):Int)<h.length:=by omega
  have X:=iG (k:=k+1) (by omega)
  rw[List.drop_eq_getElem_cons E,Db _ _ _ _ DB]at D
  rcases DB with rfl|rfl <;> simp only[qB,seval,gd,w9,F,O,N,J,H,I.lenI,W,rG I E,X,pK,bq1,bq2,bq3,bq4] <;> clear F <;> grind
 ·rintro f _ _ F ⟨m,J,H,D,rfl,rfl⟩
  rw[show h.length-1+1=h.length by omega]at D H
  rw[List.drop_length,GQ]at D
  simp only[qB,seval,gd,w9,F,N,J,H,I.lenI,Int.lt_irrefl,D]
def vOk(op:Int)(h:List Int):Prop:=(∀v∈h,bd v)∧((op=19∨op=20∨op=21∨op=22)→ ∀v∈h,bit v)∧(op=14→bit (a0 h))
theorem EP(op num:Int)(D:List Int)(a:T)(E:IsSl a D.length (ints D))(X:D.length≤oh)(Y:7≤op)(Z:op≤22)(F:j5 op D.length=true)(hv:vOk op D):hZ pE 134 [.i .i64 op,.i .i64 num,a] []=some (.i .i64 (DL op D),[]):=by
 rw[im Sd (by simp[ug])]
 obtain⟨K,JF,N⟩:=hv
 have O: ∀x H,D=x::H→(op=12∨op=13)→xL ug.res ug.eff (DC pE ug.n ug.code ⟨oX [.i .i64 op,.i .i64 num,a],.nil,[]⟩)=some (.i .i64 (LV op (a0 D) D.tail),[]):=by
  rintro x H rfl V
  have W:=fun fr lh sh=>awl op num V (x::H) (by simp) a E X fr lh sh
  obtain⟨ex,rfl⟩:=qC E
  have hz:0<H.length+1:=Nat.succ_pos _
  have e0:a0 (x::H)=x:=rfl
  rw[e0]at W ⊢
  rcases V with rfl|rfl <;> simp only[qA,seval,lu,ug,hz,W]
 have ve:1≤op:=by omega
 rcases qz ve Z with rfl|rfl|rfl|rfl|rfl|rfl|rfl|rfl|rfl|rfl|rfl|rfl|rfl|rfl|rfl|rfl|rfl|rfl|rfl|rfl|rfl|rfl
 all_goals first
  |exact absurd Y (by decide)
  |(obtain⟨x,y,rfl⟩:=rI (by simpa[j5]using F);obtain⟨ex,rfl⟩:=qC E;have hx:=K x (by simp);have I:=K y (by simp);simp only[qA,seval,lu,iY,iC,ug,ints,GM hx I,GM hx (wL I),Z8 hx I,Z9 hx I,GK I,NH,abx,amh,ami,amj,amk,aml,abv,abw];rfl)
  |(match D,F with
     |x::ts,_=>exact O x ts rfl (by simp))
  |skip
 ·obtain⟨x,rfl⟩:=LJ (by simpa[j5]using F)
  obtain⟨ex,rfl⟩:=qC E
  have hx:=K x (by simp)
  have h:=GM (a:=0) (by unfold bd;omega) (wL hx)
  have J:=GK hx
  rw[show(0:Int)+ -x= -x by omega,E3 (wL hx)]at h
  simp only[qA,seval,lu,ug,ints,J,h,abx];rfl
 ·obtain⟨x,y,z,rfl⟩:=Jt (by simpa[j5]using F)
  obtain⟨ex,rfl⟩:=qC E
  have e:DL 14 [x,y,z]=if x=0 then z else y:=rfl
  rw[e]
  rcases N rfl with hx|hx <;> (change x=_ at hx;subst hx;simp only[qA,seval,lu,ug,ints])
 ·obtain⟨x,y,z,rfl⟩:=Jt (by simpa[j5]using F)
  obtain⟨ex,rfl⟩:=qC E
  simp only[qA,seval,lu,iY,iC,ug,ints,LU,NH,amm,amn,abv,abw];rfl
 ·obtain⟨x,rfl⟩:=LJ (by simpa[j5]using F)
  obtain⟨ex,rfl⟩:=qC E
  have U:=JF (by simp) x (by simp)
  have J:wr .i64 (1-x)=1-x:=by unfold bit at U;exact jw ⟨by omega,by omega⟩
  simp only[qA,seval,lu,ug,ints,J];rfl
 all_goals
  obtain⟨x,y,rfl⟩:=rI (by simpa[j5]using F)
  obtain⟨ex,rfl⟩:=qC E
  have U:=JF (by simp) x (by simp)
  have J:wr .i64 (1-x)=1-x:=by unfold bit at U;exact jw ⟨by omega,by omega⟩
  have e1:DL 20 [x,y]=min x y:=rfl
  have e2:DL 21 [x,y]=max x y:=rfl
  have e3:DL 22 [x,y]=max (1-x) y:=rfl
  simp only[qB,seval,lu,iY,iC,ug,ints,J,e1,e2,e3]
  grind
theorem LW(op a b:Int)(N:vOk op [a,b])(O:op=8∨op=9∨op=10∨op=11∨op=16∨op=17∨op=18∨op=20∨op=21∨op=22):hZ pE 124 [.i .i64 op,.i .i64 a,.i .i64 b] []=some (.i .i64 (DL op [a,b]),[]):=by
 rw[im Sa (by simp[w8])]
 obtain⟨J,JF,_⟩:=N
 have I:=J a (by simp)
 have F:=J b (by simp)
 have D:(op=19∨op=20∨op=21∨op=22)→bit a∧bit b:=fun h=>⟨JF h a (by simp),JF h b (by simp)⟩
 clear J JF
 rcases O with rfl|rfl|rfl|rfl|rfl|rfl|rfl|rfl|rfl|rfl
 ·have h:=GL I F
  simp only[qA,seval,w8,h,R9];rfl
 ·have h:=GL I (wL F)
  have K:=GK F
  simp only[qA,seval,w8,h,K,R9];rfl
 ·have h:=NG I F
  simp only[qA,seval,w8,h,abp];rfl
 ·have h:=aab I F
  simp only[qA,seval,w8,h,amd];rfl
 ·have h:=yw (decide (a<b))
  simp only[qA,seval,w8,h,L6];rfl
 ·have h:=yw (decide (a≤b))
  simp only[qA,seval,w8,h,L6];rfl
 ·have h:=yw (decide (a=b))
  simp only[qA,seval,w8,h,L6];rfl
 ·obtain⟨E,H⟩:=D (by simp)
  have h:=Zc E H
  simp only[qA,seval,w8,h];rfl
 ·obtain⟨E,H⟩:=D (by simp)
  have h:=Ur E H
  simp only[qA,seval,w8,h];rfl
 ·obtain⟨E,H⟩:=D (by simp)
  have K:wr .i64 (1-a)=1-a:=by unfold bit at E;exact jw ⟨by omega,by omega⟩
  have h:=Ur (a:=1-a) (b:=b) (by unfold bit at E;omega) H
  simp only[qA,seval,w8,K,h];rfl
inductive Fm where
 |mk (op num:Int) (args:List Fm)
def Fm.op:Fm→Int| .mk o _ _=>o
def Fm.num:Fm→Int| .mk _ n _=>n
def Fm.args:Fm→List Fm| .mk _ _ a=>a
mutual
def og:Fm→List T→Prop
 | .mk op num args,cs=> ∃a h,cs= [.i .i64 op,.i .i64 num,a]∧IsSl a args.length h∧iT args h
def iT:List Fm→List T→Prop
 | [],cs=>cs= []
 |x::xs,cs=> ∃c r,cs=c++r∧og x c∧iT xs r
end
theorem og.cells{x:Fm}{cs:List T}(h:og x cs): ∃a D,cs= [.i .i64 x.op,.i .i64 x.num,a]∧IsSl a x.args.length D∧iT x.args D:=by
 obtain⟨o,n,a⟩:=x
 rw[og]at h
 exact h
theorem og.of{x:Fm}{a:T}{h:List T}(D:IsSl a x.args.length h)(E:iT x.args h):og x [.i .i64 x.op,.i .i64 x.num,a]:=by
 obtain⟨o,n,l⟩:=x
 rw[og]
 exact⟨a,h,rfl,D,E⟩
theorem og.len{x:Fm}{cs:List T}(h:og x cs):cs.length=3:=by
 obtain⟨a,D,rfl,_⟩:=h.cells;rfl
theorem iT.nil:iT [] []:=by rw[iT]
theorem iT.cons{x:Fm}{xs:List Fm}{c r:List T}(h:og x c)(D:iT xs r):iT (x::xs) (c++r):=by
 grind [iT]
theorem iT.append: ∀{xs h:List Fm} {c r:List T},iT xs c→iT h r→iT (xs++h) (c++r)
 | [],h,c,r,D,E=>by grind [iT]
 |x::xs,h,c,r,D,E=>by
  rw[iT]at D
  obtain⟨I,J,rfl,F,H⟩:=D
  rw[List.append_assoc]
  exact iT.cons F (iT.append H E)
theorem iT.one{x:Fm}{c:List T}(h:og x c):iT [x] c:=by
 have:=iT.cons h iT.nil
 grind
theorem iT.len: ∀{xs:List Fm} {cs:List T},iT xs cs→cs.length=xs.length*3
 | [],cs,h=>by grind [iT]
 |x::xs,cs,h=>by
  rw[iT]at h
  obtain⟨c,r,rfl,D,E⟩:=h
  rw[List.length_append,D.len,E.len,List.length_cons];omega
theorem iT.drop: ∀{xs:List Fm} {cs:List T} (k:Nat) (D:k<xs.length),iT xs cs→ ∃c r,cs.drop (k*3)=c++r∧og xs[k] c∧iT (xs.drop (k+1)) r
 | [],cs,k,D,h=>by simp at D
 |x::xs,cs,0,D,h=>by
  grind [iT]
 |x::xs,cs,k+1,D,h=>by
  rw[iT]at h
  obtain⟨c,r,rfl,E,F⟩:=h
  obtain⟨H,I,e,J,K⟩:=iT.drop k (by simpa using D) F
  refine⟨H,I, ?_,J,by simpa using K⟩
  have:(k+1)*3=c.length+k*3:=by rw[E.len];omega
  grind [List.drop_append,Nat.add_sub_cancel_left,List.drop_eq_nil_of_le]
theorem Vl{xs:List Fm}{a:T}{D:List T}(H:IsSl a xs.length D)(E:iT xs D)(k:Nat)(F:k<xs.length):
  ∃b h r,(∀kk,pv a (.i kk (k:Int)) 3=some (.vp (.i .i64 xs[k].op:: .i .i64 xs[k].num::b::r)))∧IsSl b xs[k].args.length h∧iT xs[k].args h:=by
 obtain⟨c,r,e,I,N⟩:=iT.drop k F E
 obtain⟨b,h,rfl,J,K⟩:=I.cells
 refine⟨b,h,r,fun kk=> ?_,J,K⟩
 rw[H.ia (sz:=3) E.len F,e];rfl
mutual
def Fm.val(at_:List Int):Fm→Int
 | .mk op num args=>if op=1 then num else if op=6 then at_.getD num.toNat 0 else DL op (lO at_ args)
def lO(at_:List Int):List Fm→List Int
 | []=> []
 |x::xs=>x.val at_::lO at_ xs
end
theorem Fm.val_eq(at_:List Int)(x:Fm):x.val at_=if x.op=1 then x.num else if x.op=6 then at_.getD x.num.toNat 0 else DL x.op (lO at_ x.args):=by obtain⟨_,_,_⟩:=x;rw[Fm.val];rfl
theorem uP(at_:List Int): ∀xs,lO at_ xs=xs.map (Fm.val at_)
 | []=>rfl
 |x::xs=>by rw[lO,uP at_ xs];rfl
mutual
def Kc(at_:List Int):Fm→Prop
 | .mk op num args=>(op=1∧bd num)∨(op=6∧0≤num∧num.toNat<at_.length∧bd (at_.getD num.toNat 0))∨(7≤op∧op≤22∧j5 op args.length=true∧args.length≤oh∧Dc at_ args∧vOk op (lO at_ args))
def Dc(at_:List Int):List Fm→Prop
 | []=>True
 |x::xs=>Kc at_ x∧Dc at_ xs
end
theorem GR(at_:List Int)(x:Fm):Kc at_ x↔((x.op=1∧bd x.num)∨(x.op=6∧0≤x.num∧x.num.toNat<at_.length∧bd (at_.getD x.num.toNat 0))∨(7≤x.op∧x.op≤22∧j5 x.op x.args.length=true∧x.args.length≤oh∧Dc at_ x.args∧vOk x.op (lO at_ x.args))):=by obtain⟨_,_,_⟩:=x;rw[Kc];rfl
theorem JG(at_:List Int): ∀{xs:List Fm},Dc at_ xs↔ ∀x∈xs,Kc at_ x
 | []=>by simp[Dc]
 |x::xs=>by simp_all[Dc,JG]
mutual
def Fm.sz:Fm→Nat
 | .mk _ _ args=>1+wM args
def wM:List Fm→Nat
 | []=>0
 |x::xs=>x.sz+wM xs
end
theorem Fm.sz_eq(x:Fm):x.sz=1+wM x.args:=by obtain⟨_,_,_⟩:=x;rw[Fm.sz];rfl
theorem Dd: ∀{xs:List Fm} {x:Fm},x∈xs→x.sz≤wM xs
 |y::xs,x,h=>by
  rw[wM]
  rcases List.mem_cons.1 h with rfl|h
  ·omega
  ·have:=Dd h;omega
theorem Fm.ind{P:Fm→Prop}(h: ∀x:Fm,(∀y∈x.args,P y)→P x)(x:Fm):P x:=by
 have: ∀n (x:Fm),x.sz≤n→P x:=by
  intro n
  induction n with
  |zero=>intro x D;rw[x.sz_eq]at D;omega
  |succ n ih=>
   intro x D
   refine h x fun y E=>ih y ?_
   have:=Dd E
   rw[x.sz_eq]at D;omega
 exact this _ x (Nat.le_refl _)
section
variable(at_:List Int)(rM:T)(hat:IsSl rM at_.length (ints at_))
def agP(f:Fm):Prop:= ∀(b:T) (h r:List T),IsSl b f.args.length h→iT f.args h→Kc at_ f→hZ pE 70 [.vp (.i .i64 f.op:: .i .i64 f.num::b::r),rM] []=some (.i .i64 (f.val at_),[])
include hat
theorem apY{xs:List Fm}(ih: ∀y∈xs,agP at_ rM y){a:T}{D:List T}(E:IsSl a xs.length D)(F:iT xs D)(H:Dc at_ xs)(k:Nat)(h:k<xs.length)(j:Int)(I:j=(k:Int)):
  ∃c,(∀kk,pv a (.i kk j) 3=some (.vp c))∧hZ pE 70 [.vp c,rM] []=some (.i .i64 (xs[k].val at_),[]):=by
 have _:=hat
 obtain⟨b,J,r,K,N,O⟩:=Vl E F k h
 subst I
 exact⟨_,K,ih xs[k] (List.getElem_mem h) b J r N O ((JG at_).1 H _ (List.getElem_mem h))⟩
theorem awn(op num:Int)(DB:op=12∨op=13)(xs:List Fm)(ih: ∀y∈xs,agP at_ rM y)(a:T)(N r:List T)(I:IsSl a xs.length N)(Y:iT xs N)(Z:Dc at_ xs)(lM:0<xs.length)(O:xs.length≤oh)(fr:Fr)(lh:iz ib)(sh:List ib)
  (D:an fr 0= .vp (.i .i64 op:: .i .i64 num::a::r)) (E:an fr 1=rM) (F:an fr 5= .i .i64 (a0 (lO at_ xs))) (H:an fr 6= .i .i64 1):
  rD 155 ue fr lh sh (.ext 1)∧
  (an (pw pE 155 ue fr lh sh) 5= .i .i64 (LV op (a0 (lO at_ xs)) (lO at_ xs).tail)∧lZ pE 155 ue fr lh sh=lh∧ng pE 155 ue fr lh sh=sh):=by
 refine jc (P:=fun fr iN jb=>an fr 5= .i .i64 (LV op (a0 (lO at_ xs)) (lO at_ xs).tail)∧iN=lh∧jb=sh) (jm (fun k st=> ∃(fr:Fr) (m:Int),st=⟨fr,lh,sh⟩∧an fr 0= .vp (.i .i64 op:: .i .i64 num::a::r)∧an fr 1=rM∧an fr 5= .i .i64 m∧an fr 6= .i .i64 (k:Int)∧LV op m ((lO at_ xs).drop k)=LV op (a0 (lO at_ xs)) (lO at_ xs).tail) _ xs.length ?_ ?_ 1 _ lM ⟨fr,a0 (lO at_ xs),rfl,D,E,F,H,by rw[List.drop_one]⟩)
 ·rintro k _ hk ⟨fr,m,rfl,D,E,F,H,h⟩
  left
  have U:(k:Int)<xs.length:=by omega
  have V:=iG (k:=k) (by omega)
  have W:(lO at_ xs).length=xs.length:=by rw[uP];simp
  have J:(lO at_ xs)[k]'(by omega)=xs[k].val at_:=by simp[uP]
  obtain⟨c,X,K⟩:=apY at_ rM hat ih I Y Z k hk (k:Int) rfl
  rw[List.drop_eq_getElem_cons (by omega),Db _ _ _ _ DB,J]at h
  generalize xs[k].val at_=v at h K
  rcases DB with rfl|rfl
  ·rw[if_pos rfl,show min m v=(if v<m then v else m)by split <;> omega]at h
   simp only[qA,seval,ue,D,E,F,H,I.lenI,U,X,V,K,Ft,hat.froz]
   refine⟨_,rfl,_,_,rfl, ?_, ?_, ?_, ?_,h⟩ <;> simp only[qA,seval,D,E]
  ·rw[if_neg (by decide),show max m v=(if v>m then v else m)by split <;> omega]at h
   simp only[qA,seval,ue,D,E,F,H,I.lenI,U,X,V,K,Ft,hat.froz]
   refine⟨_,rfl,_,_,rfl, ?_, ?_, ?_, ?_,h⟩ <;> simp only[qA,seval,D,E]
 ·rintro _ ⟨fr,m,rfl,D,E,F,H,h⟩
  have W:(lO at_ xs).length=xs.length:=by rw[uP];simp
  rw[←W,List.drop_length,GQ]at h
  simp only[qA,seval,ue,D,H,I.lenI,Int.lt_irrefl]
  exact⟨_,_,qH,rfl,rfl,by simp only[qA,seval,F,h],rfl,rfl⟩
theorem Vm(f:Fm):agP at_ rM f:=by
 induction f using Fm.ind with
 |h f ih=>
  intro b cb r hb Ge zC
  rw[im Xe (by simp[D5]),Fm.val_eq]
  rcases(GR at_ f).1 zC with⟨h1,_⟩|⟨h6,FQ,KG,_⟩|⟨h7,ER,lD,C3,apZ,hv⟩
  ·rw[if_pos h1]
   simp only[qA,seval,D5,h1]
  ·rw[if_neg (by omega),if_pos h6]
   have iS:=fun kk=>rG hat KG kk
   rw[Int.toNat_of_nonneg FQ]at iS
   have e:at_.getD f.num.toNat 0=at_[f.num.toNat]:=by simp[List.getD_eq_getElem?_getD,List.getElem?_eq_getElem KG]
   rw[e]
   simp only[qA,seval,D5,h6,iS]
  ·rw[if_neg (by omega),if_neg (by omega)]
   have N:lO at_ f.args=f.args.map (Fm.val at_):=uP at_ _
   have D: ∀(k:Nat) (V:k<f.args.length) (j:Int),j=(k:Int)→ ∃c,(∀kk,pv b (.i kk j) 3=some (.vp c))∧hZ pE 70 [.vp c,rM] []=some (.i .i64 (f.args[k].val at_),[]):=fun k V j hj=>apY at_ rM hat (fun y hy=>ih y hy) hb Ge apZ k V j hj
   have W:0<f.args.length→(f.op=12∨f.op=13)→xL D5.res D5.eff (DC pE D5.n D5.code ⟨oX [.vp (.i .i64 f.op:: .i .i64 f.num::b::r),rM],.nil,[]⟩)=some (.i .i64 (LV f.op (a0 (lO at_ f.args)) (lO at_ f.args).tail),[]):=by
    intro lM ho
    obtain⟨X,H,E⟩:=D 0 lM 0 rfl
    have hL:=fun fr lh sh=>awn at_ rM hat f.op f.num ho f.args (fun y hy=>ih y hy) b cb r hb Ge apZ lM C3 fr lh sh
    have I:a0 (lO at_ f.args)=f.args[0].val at_:=by rw[N];unfold a0;simp[List.getD_eq_getElem?_getD,List.getElem?_eq_getElem lM]
    rw[I]at hL ⊢
    rcases ho with ho|ho <;> rw[ho]at hL ⊢ <;> simp only[qA,seval,D5,H,E,Ft,hat.froz,hL]
   have Y: ∀x y:Int,lO at_ f.args= [x,y]→(f.op=8∨f.op=9∨f.op=10∨f.op=11∨f.op=16∨f.op=17∨f.op=18∨f.op=20∨f.op=21∨f.op=22)→xL D5.res D5.eff (DC pE D5.n D5.code ⟨oX [.vp (.i .i64 f.op:: .i .i64 f.num::b::r),rM],.nil,[]⟩)=some (.i .i64 (DL f.op [x,y]),[]):=by
    intro x y G8 ho
    have Qu:f.args.length=2:=by have:=congrArg List.length G8;rw[N]at this;simpa using this
    obtain⟨X,H,E⟩:=D 0 (by omega) 0 rfl
    obtain⟨c1,V3,Qi⟩:=D 1 (by omega) 1 rfl
    have I:f.args[0].val at_=x:=by
     have:(lO at_ f.args)[0]? =some x:=by rw[G8];rfl
     grind
    have Z:f.args[1].val at_=y:=by
     have:(lO at_ f.args)[1]? =some y:=by rw[G8];rfl
     grind
    rw[I]at E
    rw[Z]at Qi
    rw[G8]at hv
    have hcb:=LW f.op x y hv ho
    rcases ho with ho|ho|ho|ho|ho|ho|ho|ho|ho|ho <;> rw[ho]at hcb ⊢ <;> simp only[qA,seval,iY,iC,D5,H,V3,E,Qi,Ft,alj,hat.froz,hcb,alR,alS]
   have O: ∀(k:Nat) (V:k<f.args.length),(lO at_ f.args)[k]? =some (f.args[k].val at_):=fun k V=>by rw[N];simp[List.getElem?_eq_getElem V]
   rcases qz (show 1≤f.op by omega) ER with h|h|h|h|h|h|h|h|h|h|h|h|h|h|h|h|h|h|h|h|h|h
   iterate 6 ·omega
   ·have J1:f.args.length=1:=by rw[h]at lD;simpa[j5]using lD
    obtain⟨x,F⟩:=LJ (ts:=lO at_ f.args) (by rw[N];simpa using J1)
    obtain⟨X,H,E⟩:=D 0 (by omega) 0 rfl
    have I:f.args[0].val at_=x:=by have:=O 0 (by omega);rw[F]at this;simpa using this.symm
    rw[I]at E
    rw[F]at hv ⊢
    have J:=hv.1 x (by simp)
    have ha:=GL (a:=0) (by unfold bd;omega) (wL J)
    have hw:=GK J
    rw[show(0:Int)+ -x= -x by omega,E3 (wL J)]at ha
    rw[h]
    simp only[qA,seval,D5,H,E,Ft,hat.froz,hw,ha,R9];rfl
   ·grind [j5,rI,lO]
   ·grind [j5,rI,lO]
   ·grind [j5,rI,lO]
   ·grind [j5,rI,lO]
   ·rw[W (by rw[h]at lD;simp[j5]at lD;omega) (by omega),h];rfl
   ·rw[W (by rw[h]at lD;simp[j5]at lD;omega) (by omega),h];rfl
   ·have U:f.args.length=3:=by rw[h]at lD;simpa[j5]using lD
    obtain⟨x,y,z,F⟩:=Jt (ts:=lO at_ f.args) (by rw[N];simpa using U)
    obtain⟨X,H,E⟩:=D 0 (by omega) 0 rfl
    obtain⟨c1,V3,Qi⟩:=D 1 (by omega) 1 rfl
    obtain⟨c2,PS,K⟩:=D 2 (by omega) 2 rfl
    have I:f.args[0].val at_=x:=by have:=O 0 (by omega);rw[F]at this;simpa using this.symm
    have Z:f.args[1].val at_=y:=by have:=O 1 (by omega);rw[F]at this;simpa using this.symm
    have e2:f.args[2].val at_=z:=by have:=O 2 (by omega);rw[F]at this;simpa using this.symm
    rw[I]at E
    rw[Z]at Qi
    rw[e2]at K
    rw[F,h,show DL 14 [x,y,z]=if x=0 then z else y from rfl]
    by_cases hx0:x=0 <;> simp only[qA,seval,D5,H,V3,PS,E,Qi,K,Ft,hat.froz,hx0]
   ·have U:f.args.length=3:=by rw[h]at lD;simpa[j5]using lD
    obtain⟨x,y,z,F⟩:=Jt (ts:=lO at_ f.args) (by rw[N];simpa using U)
    obtain⟨X,H,E⟩:=D 0 (by omega) 0 rfl
    obtain⟨c1,V3,Qi⟩:=D 1 (by omega) 1 rfl
    obtain⟨c2,PS,K⟩:=D 2 (by omega) 2 rfl
    have I:f.args[0].val at_=x:=by have:=O 0 (by omega);rw[F]at this;simpa using this.symm
    have Z:f.args[1].val at_=y:=by have:=O 1 (by omega);rw[F]at this;simpa using this.symm
    have e2:f.args[2].val at_=z:=by have:=O 2 (by omega);rw[F]at this;simpa using this.symm
    rw[I]at E
    rw[Z]at Qi
    rw[e2]at K
    rw[F,h]
    have hi:=LS x y z
    have ht:=yw (kC x y z)
    simp only[qA,seval,iY,iC,D5,H,V3,PS,E,Qi,K,Ft,alj,hat.froz,hi,ht,alP,alQ,L6,alO];rfl
   iterate 3
    ·obtain⟨x,y,G8⟩:=rI (ts:=lO at_ f.args) (by rw[N];rw[h]at lD;simpa[j5]using lD)
     rw[G8];exact Y x y G8 (by omega)
   ·have J1:f.args.length=1:=by rw[h]at lD;simpa[j5]using lD
    obtain⟨x,F⟩:=LJ (ts:=lO at_ f.args) (by rw[N];simpa using J1)
    obtain⟨X,H,E⟩:=D 0 (by omega) 0 rfl
    have I:f.args[0].val at_=x:=by have:=O 0 (by omega);rw[F]at this;simpa using this.symm
    rw[I]at E
    rw[F]at hv ⊢
    have J:=hv.2.1 (by omega) x (by simp)
    have hw:wr .i64 (1-x)=1-x:=by unfold bit at J;exact jw ⟨by omega,by omega⟩
    rw[h]
    simp only[qA,seval,D5,H,E,Ft,hat.froz,hw];rfl
   iterate 3
    ·obtain⟨x,y,G8⟩:=rI (ts:=lO at_ f.args) (by rw[N];rw[h]at lD;simpa[j5]using lD)
     rw[G8];exact Y x y G8 (by omega)
end
mutual
def Ex.kX:Ex→Int
 | .mk op _ _ args=>if op=1 then 1 else if op=2 then 2 else if op=3 then 3 else if op=7∨op=8∨op=9∨op=12∨op=13 then a0 (kXL args)else if op=14 then a1 (kXL args)
   else if op=10 then max (a0 (kXL args)) (a1 (kXL args))else if op=11 then(if a1 (kXL args)=2 then 1 else a0 (kXL args))else 4
def kXL:List Ex→List Int
 | []=> []
 |x::xs=>x.kX::kXL xs
end
def CX(k n:Int):Prop:=((k=1∨k=2)∧bd n)∨(k=3∧0≤n∧n≤1439)∨(k=4∧bit n)
theorem V4{k n:Int}(h:CX k n):bd n:=by
 rcases h with⟨_,h⟩|⟨_,h1,h2⟩|⟨_,h⟩
 ·exact h
 ·unfold bd;omega
 ·exact agO h
theorem GS{n:Int}(h:CX 4 n):bit n:=by
 rcases h with⟨h|h,_⟩|⟨h,_⟩|⟨_,h⟩
 ·omega
 ·omega
 ·omega
 ·exact h
theorem zV{k n:Int}(h:k=1∨k=2)(D:bd n):CX k n:= .inl ⟨h,D⟩
def nc:List Nat→Int×Int:=fun _=>(0,6)
def FK(scope k:Int)(y:Ex):Prop:=y.wf=true∧y.ty nc scope=(k,0)
def FKs(scope:Int):List Int→List Ex→Prop
 | [],[]=>True
 |t::ts,y::h=>FK scope t y∧FKs scope ts h
 |_,_=>False
theorem FKs.wf{scope:Int}: ∀{ts:List Int} {D:List Ex},FKs scope ts D→wP D=true
 | [],[],_=>rfl
 |t::ts,y::D,h=>by rw[wP,h.1.1,FKs.wf h.2];rfl
theorem FKs.ty{scope:Int}: ∀{ts:List Int} {D:List Ex},FKs scope ts D→pc nc scope D= .ok ts
 | [],[],_=>by rw[pc]
 |t::ts,y::D,h=>by
  rw[pc,h.1.2,FKs.ty h.2];rfl
theorem FK.mk{scope k:Int}{op:Int}{h:List Ex}{ts:List Int}(D:1≤op)(E:op≤22)(F:op≠6)(H:j5 op h.length=true)(WI:FKs scope ts h)(J:py op ts=k)(K:k≠0):FK scope k (.mk op 0 [] h):=by
 constructor
 ·rw[Ex.wf_eq,Bool.and_eq_true]
  refine⟨?_,WI.wf⟩
  have I:0≤CE op:=by unfold CE;split <;> (try split) <;> decide
  simp only[rF,Bool.and_eq_true,decide_eq_true_eq]
  refine⟨D,E,H,⟨Int.le_refl _,I⟩, ?_⟩
  show(if op=6 then tl []else decide (([]:List Nat)= []))=true
  grind
 ·rw[Ex.ty_eq]
  show(if op=6 then _ else match pc nc scope h with| .error e=>(0,e)| .ok ts=>if py op ts=0 then(0,9)else(py op ts,0))=(k,0)
  rw[if_neg F,WI.ty]
  grind
theorem FK.leaf{scope k op num:Int}(h:(op=1∧k=1∧0≤num∧num≤1099511627776)∨(op=2∧k=2∧0≤num∧num≤1099511627776)∨(op=3∧k=3∧0≤num∧num≤1439)∨(op=4∧k=4∧num=0)∨(op=5∧k=4∧num=0)):FK scope k (nP op num):=by
 have D:(nP op num).wf=rF op num [] 0:=by rw[Ex.wf_eq];simp[nP,Ex.op,Ex.num,Ex.name,Ex.args,wP]
 have E:op≠6→(nP op num).ty nc scope=if py op []=0 then(0,9)else(py op [],0):=fun F=>by
  grind [Ex.ty_eq,nP,Ex.op,Ex.args,pc]
 constructor
 ·rw[D]
  simp only[rF,Bool.and_eq_true,decide_eq_true_eq]
  rcases h with⟨rfl,rfl,h1,h2⟩|⟨rfl,rfl,h1,h2⟩|⟨rfl,rfl,h1,h2⟩|⟨rfl,rfl,rfl⟩|⟨rfl,rfl,rfl⟩
  ·exact⟨by decide,by decide,rfl,⟨h1,h2⟩,rfl⟩
  ·exact⟨by decide,by decide,rfl,⟨h1,h2⟩,rfl⟩
  ·exact⟨by decide,by decide,rfl,⟨h1,h2⟩,rfl⟩
  ·exact⟨by decide,by decide,rfl,⟨by decide,by decide⟩,rfl⟩
  ·exact⟨by decide,by decide,rfl,⟨by decide,by decide⟩,rfl⟩
 ·rcases h with⟨rfl,rfl,h1,h2⟩|⟨rfl,rfl,h1,h2⟩|⟨rfl,rfl,h1,h2⟩|⟨rfl,rfl,rfl⟩|⟨rfl,rfl,rfl⟩ <;> rw[E (by decide)] <;> rfl
theorem GU{scope k n:Int}(h:CX k n):FK scope k (vP k n)∧isLit (vP k n)=true∧Zm (vP k n)=n:=by
 unfold vP
 rcases h with⟨hk,hb⟩|⟨rfl,h1,h2⟩|⟨rfl,hb⟩
 ·have E:k≠4:=by omega
  have F:k≠3:=by omega
  rw[if_neg E,if_neg F]
  unfold bd at hb
  by_cases D:n<0
  ·rw[if_pos D]
   rcases hk with rfl|rfl
   ·refine⟨FK.mk (ts:= [1]) (by decide) (by decide) (by decide) rfl ⟨FK.leaf (.inl ⟨rfl,rfl,by omega,by omega⟩),trivial⟩ rfl (by decide),rfl, ?_⟩
    show- -n=n;omega
   ·refine⟨FK.mk (ts:= [2]) (by decide) (by decide) (by decide) rfl ⟨FK.leaf (.inr (.inl ⟨rfl,rfl,by omega,by omega⟩)),trivial⟩ rfl (by decide),rfl, ?_⟩
    show- -n=n;omega
  ·rw[if_neg D]
   rcases hk with rfl|rfl
   ·exact⟨FK.leaf (.inl ⟨rfl,rfl,by omega,by omega⟩),rfl,rfl⟩
   ·exact⟨FK.leaf (.inr (.inl ⟨rfl,rfl,by omega,by omega⟩)),rfl,rfl⟩
 ·rw[if_neg (by decide),if_pos rfl]
  exact⟨FK.leaf (.inr (.inr (.inl ⟨rfl,rfl,h1,h2⟩))),rfl,rfl⟩
 ·rw[if_pos rfl]
  rcases hb with rfl|rfl
  ·exact⟨FK.leaf (.inr (.inr (.inr (.inr ⟨rfl,rfl,rfl⟩)))),rfl,rfl⟩
  ·exact⟨FK.leaf (.inr (.inr (.inr (.inl ⟨rfl,rfl,rfl⟩)))),rfl,rfl⟩
theorem NI{cl:List Nat→Int×Int}{scope:Int}: ∀{xs:List Ex} {e:Int},pc cl scope xs= .error e→e≠0
 | [],e,h=>by grind [pc]
 |x::xs,e,h=>by
  rw[pc]at h
  split at h
  ·grind
  ·cases D:pc cl scope xs with
   |error E=>rw[D]at h;cases h;exact NI D
   |ok us=>grind
def yx:List Int→List Int→Prop
 | [],[]=>True
 |t::ts,v::h=>CX t v∧yx ts h
 |_,_=>False
theorem yx.len: ∀{ts D:List Int},yx ts D→ts.length=D.length
 | [],[],_=>rfl
 |t::ts,v::D,h=>by rw[List.length_cons,List.length_cons,yx.len h.2]
theorem yx.bd: ∀{ts D:List Int},yx ts D→ ∀v∈D,bd v
 | [],[],_=>by simp
 |t::ts,v::D,h=>by
  intro w hw
  rcases List.mem_cons.1 hw with rfl|hw
  ·exact V4 h.1
  ·exact yx.bd h.2 w hw
theorem yx.all{k:Int}: ∀{ts D:List Int},yx ts D→mi ts k=true→ ∀v∈D,CX k v
 | [],[],_,_=>by simp
 |t::ts,v::D,h,E=>by
  rw[pZ,Bool.and_eq_true,decide_eq_true_eq]at E
  intro w hw
  rcases List.mem_cons.1 hw with rfl|hw
  ·rw[←E.1];exact h.1
  ·exact yx.all h.2 E.2 w hw
theorem LX(op:Int)(h:op=12∨op=13): ∀(D:List Int) (m:Int),bd m→(∀v∈D,bd v)→bd (LV op m D)
 | [],m,E,_=>by rw[GQ];exact E
 |v::D,m,E,F=>by
  rw[Db _ _ _ _ h]
  refine LX op h D _ ?_ (fun w H=>F w (by simp[H]))
  grind
theorem k12{ts:List Int}{k:Int}(h:(if mi ts 1=true then(1:Int)else if mi ts 2=true then 2 else 0)=k)(D:k≠0):k=1∨k=2:=by
 grind
theorem JH{op a b k:Int}(h:CF op a b=k)(D:k≠0):k=1∨k=2:=by
 grind [CF]
theorem Nq{op k:Int}{ts F:List Int}(U:yx ts F)(h7:7≤op)(ER:op≤22)(N:j5 op ts.length=true)(H:py op ts=k)(I:k≠0):vOk op F∧CX k (DL op F):=by
 have E:=U.bd
 have D:=U.len
 have J: ∀b:Bool,CX 4 (uE b):=fun b=> .inr (.inr ⟨rfl,Qj b⟩)
 rcases qz (show 1≤op by omega) ER with rfl|rfl|rfl|rfl|rfl|rfl|rfl|rfl|rfl|rfl|rfl|rfl|rfl|rfl|rfl|rfl|rfl|rfl|rfl|rfl|rfl|rfl
 iterate 6 ·omega
 ·have ES:=k12 H I
  obtain⟨v,rfl⟩:=LJ (ts:=F) (by rw[←D];simpa[j5]using N)
  exact⟨⟨E,fun h=>absurd h (by decide),fun h=>absurd h (by decide)⟩,zV ES (wL (E v (by simp)))⟩
 ·have ES:=k12 H I
  obtain⟨v,w,rfl⟩:=rI (ts:=F) (by rw[←D];simpa[j5]using N)
  exact⟨⟨E,fun h=>absurd h (by decide),fun h=>absurd h (by decide)⟩,zV ES (vK _)⟩
 ·have ES:=k12 H I
  obtain⟨v,w,rfl⟩:=rI (ts:=F) (by rw[←D];simpa[j5]using N)
  exact⟨⟨E,fun h=>absurd h (by decide),fun h=>absurd h (by decide)⟩,zV ES (vK _)⟩
 ·have ES:=JH (op:=10) H I
  obtain⟨v,w,rfl⟩:=rI (ts:=F) (by rw[←D];simpa[j5]using N)
  exact⟨⟨E,fun h=>absurd h (by decide),fun h=>absurd h (by decide)⟩,zV ES (vK _)⟩
 ·have ES:=JH (op:=11) H I
  obtain⟨v,w,rfl⟩:=rI (ts:=F) (by rw[←D];simpa[j5]using N)
  exact⟨⟨E,fun h=>absurd h (by decide),fun h=>absurd h (by decide)⟩,zV ES (aac _ _)⟩
 iterate 2
  ·have ES:=k12 H I
   match F,E,D with
   | [],_,D=>rw[D]at N;simp[j5]at N
   |v::F,E,_=>
    refine⟨⟨E,fun h=>absurd h (by decide),fun h=>absurd h (by decide)⟩,zV ES ?_⟩
    first
     |exact LX 12 (.inl rfl) F v (E v (by simp)) (fun w W=>E w (by simp[W]))
     |exact LX 13 (.inr rfl) F v (E v (by simp)) (fun w W=>E w (by simp[W]))
 ·obtain⟨a,b,c,rfl⟩:=Jt (ts:=ts) (by simpa[j5]using N)
  obtain⟨x,y,z,rfl⟩:=Jt (ts:=F) (by rw[←D];rfl)
  obtain⟨Y,Z,h3,_⟩:=U
  have AB:(if a=4∧b=c then b else 0)=k:=H
  split at AB
  ·rename_i X
   obtain⟨rfl,rfl⟩:=X
   subst AB
   have JF:=GS Y
   refine⟨⟨E,fun h=>absurd h (by decide),fun _=>JF⟩, ?_⟩
   show CX b (if x=0 then z else y)
   split
   ·exact h3
   ·exact Z
  ·exact absurd AB.symm I
 ·have AB:(if mi ts 3=true then(4:Int)else 0)=k:=H
  split at AB
  ·subst AB
   exact⟨⟨E,fun h=>absurd h (by decide),fun h=>absurd h (by decide)⟩,J _⟩
  ·exact absurd AB.symm I
 iterate 2
  ·have AB:(if(a0 ts=1∨a0 ts=2)∧a0 ts=a1 ts then(4:Int)else 0)=k:=H
   split at AB
   ·subst AB
    exact⟨⟨E,fun h=>absurd h (by decide),fun h=>absurd h (by decide)⟩,J _⟩
   ·exact absurd AB.symm I
 ·have AB:(if a0 ts=a1 ts then(4:Int)else 0)=k:=H
  split at AB
  ·subst AB
   exact⟨⟨E,fun h=>absurd h (by decide),fun h=>absurd h (by decide)⟩,J _⟩
  ·exact absurd AB.symm I
 ·have AB:(if mi ts 4=true then(4:Int)else 0)=k:=H
  split at AB
  ·rename_i K
   subst AB
   have O:=fun v V=>GS (U.all K v V)
   obtain⟨v,rfl⟩:=LJ (ts:=F) (by rw[←D];simpa[j5]using N)
   have V:=O v (by simp)
   refine⟨⟨E,fun _=>O,fun h=>absurd h (by decide)⟩,.inr (.inr ⟨rfl, ?_⟩)⟩
   show bit (1-v)
   unfold bit at *; omega
  ·exact absurd AB.symm I
 iterate 3
  ·have AB:(if mi ts 4=true then(4:Int)else 0)=k:=H
   split at AB
   ·rename_i K
    subst AB
    have O:=fun v V=>GS (U.all K v V)
    obtain⟨v,w,rfl⟩:=rI (ts:=F) (by rw[←D];simpa[j5]using N)
    have V:=O v (by simp)
    have W:=O w (by simp)
    refine⟨⟨E,fun _=>O,fun h=>absurd h (by decide)⟩,.inr (.inr ⟨rfl, ?_⟩)⟩
    first
     |(show bit (min v w);unfold bit at *; omega)
     |(show bit (max v w);unfold bit at *; omega)
     |(show bit (max (1-v) w);unfold bit at *; omega)
   ·exact absurd AB.symm I
end Go.Proofs.YtbdfboojnfinkaaGreat
