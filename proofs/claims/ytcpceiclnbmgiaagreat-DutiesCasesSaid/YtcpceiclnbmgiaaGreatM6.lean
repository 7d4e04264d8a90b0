/- Walks of functions of the program and of the reference, and their plain laws, part 6. Conditions: the theorems' own. -/
import Derived.Test.YtcpceiclnbmgiaaGreatGS
import Derived.Test.YtcpceiclnbmgiaaGreatM5
import Derived.KernelRfl
set_option maxRecDepth 100000
set_option linter.unusedSimpArgs false
set_option linter.unusedVariables false
set_option maxHeartbeats 16000000
namespace Go.Proofs.YtcpceiclnbmgiaaGreat
open Go Go.Ev
section
variable(at_:List Int)(iP:T)(dO:IsSl iP at_.length (ints at_))
def aoy(f:Fm):Prop:= ∀(b:T) (D r:List T),IsSl b f.args.length D→bg f.args D→Ep at_ f→ae pE 72 [.vp (.i .i64 f.op:: .i .i64 f.num::b::r),iP] []=some (.i .i64 (f.val at_),[])
include dO
theorem az2{xs:List Fm}(ih: ∀y∈xs,aoy at_ iP y){a:T}{D:List T}(F:IsSl a xs.length D)(hx:bg xs D)(H:CP at_ xs)(k:Nat)(hk:k<xs.length)(j:Int)(I:j=(k:Int)):
  ∃c,(∀kk,dV a (.i kk j) 3=some (.vp c))∧ae pE 72 [.vp c,iP] []=some (.i .i64 (xs[k].val at_),[]):=by
 have _:=dO
 obtain⟨b,J,r,K,h1,h2⟩:=YA F hx k hk
 subst I
 exact⟨_,K,ih xs[k] (List.getElem_mem hk) b J r h1 h2 ((KB at_).1 H _ (List.getElem_mem hk))⟩
theorem aHV(op num:Int)(Bg:op=12∨op=13)(xs:List Fm)(ih: ∀y∈xs,aoy at_ iP y)(a:T)(J r:List T)(F:IsSl a xs.length J)(hx:bg xs J)(W:CP at_ xs)(X:0<xs.length)(K:xs.length≤kP)(fr:Fr)(lh:aB ah)(sh:List ah)
  (h0:aa fr 0= .vp (.i .i64 op:: .i .i64 num::a::r)) (h1:aa fr 1=iP) (h5:aa fr 5= .i .i64 (a0 (fB at_ xs))) (h6:aa fr 6= .i .i64 1):
  mI 155 qC fr lh sh (.ext 1)∧
  (aa (kR pE 155 qC fr lh sh) 5= .i .i64 (M5 op (a0 (fB at_ xs)) (fB at_ xs).tail)∧iy pE 155 qC fr lh sh=lh∧iF pE 155 qC fr lh sh=sh):=by
 refine bF (P:=fun fr Y Z=>aa fr 5= .i .i64 (M5 op (a0 (fB at_ xs)) (fB at_ xs).tail)∧Y=lh∧Z=sh) (cu (fun k st=> ∃(fr:Fr) (m:Int),st=⟨fr,lh,sh⟩∧aa fr 0= .vp (.i .i64 op:: .i .i64 num::a::r)∧aa fr 1=iP∧aa fr 5= .i .i64 m∧aa fr 6= .i .i64 (k:Int)∧M5 op m ((fB at_ xs).drop k)=M5 op (a0 (fB at_ xs)) (fB at_ xs).tail) _ xs.length ?_ ?_ 1 _ X ⟨fr,a0 (fB at_ xs),rfl,h0,h1,h5,h6,by rw[List.drop_one]⟩)
 ·rintro k _ hk ⟨fr,m,rfl,h0,h1,h5,h6,D⟩
  left
  have N:(k:Int)<xs.length:=zO
  have O:=bj (k:=k) zO
  have U:(fB at_ xs).length=xs.length:=by rw[rE];simp
  have H:(fB at_ xs)[k]' zO=xs[k].val at_:=by simp[rE]
  obtain⟨c,V,I⟩:=az2 at_ iP dO ih F hx W k hk (k:Int) rfl
  rw[List.drop_eq_getElem_cons zO,CN _ _ _ _ Bg,H]at D
  generalize xs[k].val at_=v at D I
  rcases Bg with rfl|rfl
  ·rw[if_pos rfl,show min m v=(if v<m then v else m)by split <;> omega]at D
   simp only[qA,seval,qC,h0,h1,h5,h6,F.lenI,N,V,O,I,AQ,dO.froz]
   refine⟨_,rfl,_,_,rfl, ?_, ?_, ?_, ?_,D⟩ <;> simp only[qA,seval,h0,h1]
  ·rw[if_neg yv,show max m v=(if v>m then v else m)by split <;> omega]at D
   simp only[qA,seval,qC,h0,h1,h5,h6,F.lenI,N,V,O,I,AQ,dO.froz]
   refine⟨_,rfl,_,_,rfl, ?_, ?_, ?_, ?_,D⟩ <;> simp only[qA,seval,h0,h1]
 ·rintro _ ⟨fr,m,rfl,h0,h1,h5,h6,D⟩
  have U:(fB at_ xs).length=xs.length:=by rw[rE];simp
  rw[←U,List.drop_length,Hm]at D
  simp only[qA,seval,qC,h0,h6,F.lenI,Int.lt_irrefl]
  exact⟨_,_,k9,rfl,rfl,by simp only[qA,seval,h5,D],rfl,rfl⟩
theorem GI(f:Fm):aoy at_ iP f:=by
 induction f using Fm.ind with
 |h f ih=>
  intro b cb r hb V mg
  rw[an acn (by simp[DB]),Fm.val_eq]
  rcases(Hn at_ f).1 mg with⟨h1,_⟩|⟨h6,De,Df,_⟩|⟨h7,HG,fM,Ds,az3,hv⟩
  ·rw[if_pos h1]
   simp only[qA,seval,DB,h1]
  ·rw[if_neg zO,if_pos h6]
   have aQ:=fun kk=>Ci dO Df kk
   rw[Int.toNat_of_nonneg De]at aQ
   have e:at_.getD f.num.toNat 0=at_[f.num.toNat]:=by simp[List.getD_eq_getElem?_getD,List.getElem?_eq_getElem Df]
   rw[e]
   simp only[qA,seval,DB,h6,aQ]
  ·rw[if_neg zO,if_neg zO]
   have N:fB at_ f.args=f.args.map (Fm.val at_):=rE at_ _
   have D: ∀(k:Nat) (hk:k<f.args.length) (j:Int),j=(k:Int)→ ∃c,(∀kk,dV b (.i kk j) 3=some (.vp c))∧ae pE 72 [.vp c,iP] []=some (.i .i64 (f.args[k].val at_),[]):=fun k hk j hj=>az2 at_ iP dO (fun y hy=>ih y hy) hb V az3 k hk j hj
   have W:0<f.args.length→(f.op=12∨f.op=13)→uV DB.res DB.eff (DC pE DB.n DB.code ⟨lb [.vp (.i .i64 f.op:: .i .i64 f.num::b::r),iP],.nil,[]⟩)=some (.i .i64 (M5 f.op (a0 (fB at_ f.args)) (fB at_ f.args).tail),[]):=by
    intro fe ho
    obtain⟨X,F,EI⟩:=D 0 fe 0 rfl
    have hL:=fun fr lh sh=>aHV at_ iP dO f.op f.num ho f.args (fun y hy=>ih y hy) b cb r hb V az3 fe Ds fr lh sh
    have H:a0 (fB at_ f.args)=f.args[0].val at_:=by rw[N];unfold a0;simp[List.getD_eq_getElem?_getD,List.getElem?_eq_getElem fe]
    rw[H]at hL ⊢
    rcases ho with ho|ho <;> rw[ho]at hL ⊢ <;> simp only[qA,seval,DB,F,EI,AQ,dO.froz,hL]
   have Y: ∀x y:Int,fB at_ f.args= [x,y]→(f.op=8∨f.op=9∨f.op=10∨f.op=11∨f.op=16∨f.op=17∨f.op=18∨f.op=20∨f.op=21∨f.op=22)→uV DB.res DB.eff (DC pE DB.n DB.code ⟨lb [.vp (.i .i64 f.op:: .i .i64 f.num::b::r),iP],.nil,[]⟩)=some (.i .i64 (Gg f.op [x,y]),[]):=by
    intro x y Hu ho
    have KH:f.args.length=2:=by have:=congrArg List.length Hu;rw[N]at this;simpa using this
    obtain⟨X,F,EI⟩:=D 0 zO 0 rfl
    obtain⟨c1,I,Aj⟩:=D 1 zO 1 rfl
    have H:f.args[0].val at_=x:=by
     have:(fB at_ f.args)[0]? =some x:=by rw[Hu];rfl
     grind
    have e1:f.args[1].val at_=y:=by
     have:(fB at_ f.args)[1]? =some y:=by rw[Hu];rfl
     grind
    rw[H]at EI
    rw[e1]at Aj
    rw[Hu]at hv
    have Z:=M6 f.op x y hv ho
    rcases ho with ho|ho|ho|ho|ho|ho|ho|ho|ho|ho <;> rw[ho]at Z ⊢ <;> simp only[qA,seval,bp,aJ,DB,F,I,EI,Aj,AQ,auC,dO.froz,Z,avc,avd]
   have O: ∀(k:Nat) (hk:k<f.args.length),(fB at_ f.args)[k]? =some (f.args[k].val at_):=fun k hk=>by rw[N];simp[List.getElem?_eq_getElem hk]
   rcases vY (show 1≤f.op by omega) HG with h|h|h|h|h|h|h|h|h|h|h|h|h|h|h|h|h|h|h|h|h|h
   iterate 6 ·omega
   ·have A8:f.args.length=1:=by rw[h]at fM;simpa[eo]using fM
    obtain⟨x,hx⟩:=MU (ts:=fB at_ f.args) (by rw[N];simpa using A8)
    obtain⟨X,F,EI⟩:=D 0 zO 0 rfl
    have H:f.args[0].val at_=x:=by have:=O 0 zO;rw[hx]at this;simpa using this.symm
    rw[H]at EI
    rw[hx]at hv ⊢
    have J:=hv.1 x xv
    have ha:=Hh (a:=0) (by unfold bd;omega) (tW J)
    have hw:=Hg J
    rw[show(0:Int)+ -x= -x by omega,ER (tW J)]at ha
    rw[h]
    simp only[qA,seval,DB,F,EI,AQ,dO.froz,hw,ha,UJ];rfl
   ·grind [eo,oK,fB]
   ·grind [eo,oK,fB]
   ·grind [eo,oK,fB]
   ·grind [eo,oK,fB]
   ·rw[W (by rw[h]at fM;simp[eo]at fM;omega) zO,h];rfl
   ·rw[W (by rw[h]at fM;simp[eo]at fM;omega) zO,h];rfl
   ·have U:f.args.length=3:=by rw[h]at fM;simpa[eo]using fM
    obtain⟨x,y,z,hx⟩:=MV (ts:=fB at_ f.args) (by rw[N];simpa using U)
    obtain⟨X,F,EI⟩:=D 0 zO 0 rfl
    obtain⟨c1,I,Aj⟩:=D 1 zO 1 rfl
    obtain⟨c2,tN,K⟩:=D 2 zO 2 rfl
    have H:f.args[0].val at_=x:=by have:=O 0 zO;rw[hx]at this;simpa using this.symm
    have e1:f.args[1].val at_=y:=by have:=O 1 zO;rw[hx]at this;simpa using this.symm
    have e2:f.args[2].val at_=z:=by have:=O 2 zO;rw[hx]at this;simpa using this.symm
    rw[H]at EI
    rw[e1]at Aj
    rw[e2]at K
    rw[hx,h,show Gg 14 [x,y,z]=if x=0 then z else y from rfl]
    by_cases hx0:x=0 <;> simp only[qA,seval,DB,F,I,tN,EI,Aj,K,AQ,dO.froz,hx0]
   ·have U:f.args.length=3:=by rw[h]at fM;simpa[eo]using fM
    obtain⟨x,y,z,hx⟩:=MV (ts:=fB at_ f.args) (by rw[N];simpa using U)
    obtain⟨X,F,EI⟩:=D 0 zO 0 rfl
    obtain⟨c1,I,Aj⟩:=D 1 zO 1 rfl
    obtain⟨c2,tN,K⟩:=D 2 zO 2 rfl
    have H:f.args[0].val at_=x:=by have:=O 0 zO;rw[hx]at this;simpa using this.symm
    have e1:f.args[1].val at_=y:=by have:=O 1 zO;rw[hx]at this;simpa using this.symm
    have e2:f.args[2].val at_=z:=by have:=O 2 zO;rw[hx]at this;simpa using this.symm
    rw[H]at EI
    rw[e1]at Aj
    rw[e2]at K
    rw[hx,h]
    have hi:=M0 x y z
    have ht:=wa (dQ x y z)
    simp only[qA,seval,bp,aJ,DB,F,I,tN,EI,Aj,K,AQ,auC,dO.froz,hi,ht,ava,avb,Nb,au9];rfl
   iterate 3
    ·obtain⟨x,y,Hu⟩:=oK (ts:=fB at_ f.args) (by rw[N];rw[h]at fM;simpa[eo]using fM)
     rw[Hu];exact Y x y Hu zO
   ·have A8:f.args.length=1:=by rw[h]at fM;simpa[eo]using fM
    obtain⟨x,hx⟩:=MU (ts:=fB at_ f.args) (by rw[N];simpa using A8)
    obtain⟨X,F,EI⟩:=D 0 zO 0 rfl
    have H:f.args[0].val at_=x:=by have:=O 0 zO;rw[hx]at this;simpa using this.symm
    rw[H]at EI
    rw[hx]at hv ⊢
    have J:=hv.2.1 zO x xv
    have hw:wr .i64 (1-x)=1-x:=by unfold bit at J;exact bo ⟨by omega,by omega⟩
    rw[h]
    simp only[qA,seval,DB,F,EI,AQ,dO.froz,hw];rfl
   iterate 3
    ·obtain⟨x,y,Hu⟩:=oK (ts:=fB at_ f.args) (by rw[N];rw[h]at fM;simpa[eo]using fM)
     rw[Hu];exact Y x y Hu zO
end
mutual
def Ex.kX:Ex→Int
 | .mk op _ _ args=>if op=1 then 1 else if op=2 then 2 else if op=3 then 3 else if op=7∨op=8∨op=9∨op=12∨op=13 then a0 (kXL args)else if op=14 then a1 (kXL args)
   else if op=10 then max (a0 (kXL args)) (a1 (kXL args))else if op=11 then(if a1 (kXL args)=2 then 1 else a0 (kXL args))else 4
def kXL:List Ex→List Int
 | []=> []
 |x::xs=>x.kX::kXL xs
end
def Cf(k n:Int):Prop:=((k=1∨k=2)∧bd n)∨(k=3∧0≤n∧n≤1439)∨(k=4∧bit n)
theorem aa8{k n:Int}(h:Cf k n):bd n:=by
 rcases h with⟨_,h⟩|⟨_,h1,h2⟩|⟨_,h⟩
 ·exact h
 ·unfold bd;omega
 ·exact aox h
theorem Ho{n:Int}(h:Cf 4 n):bit n:=by
 rcases h with⟨h|h,_⟩|⟨h,_⟩|⟨_,h⟩
 ·omega
 ·omega
 ·omega
 ·exact h
theorem xH{k n:Int}(h:k=1∨k=2)(r:bd n):Cf k n:= .inl ⟨h,r⟩
def nc:List Nat→Int×Int:=fun _=>(0,6)
def FK(scope k:Int)(y:Ex):Prop:=y.wf=true∧y.ty nc scope=(k,0)
theorem FK.node{scope k:Int}{y:Ex}(h:FK scope k y):1≤y.op∧y.op≤22∧eo y.op y.args.length=true∧(0≤y.num∧y.num≤D8 y.op)∧(if y.op=6 then Gb y.name=true else y.name= [])∧Gc y.args=true:=by
 have:=h.1
 simp_all[Ex.wf_eq,Bool.and_eq_true,qT]
def Td(scope:Int):List Int→List Ex→Prop
 | [],[]=>True
 |t::ts,y::r=>FK scope t y∧Td scope ts r
 |_,_=>False
theorem Td.len{scope:Int}: ∀{ts:List Int} {r:List Ex},Td scope ts r→ts.length=r.length
 | [],[],_=>rfl
 |t::ts,y::r,h=>by rw[List.length_cons,List.length_cons,Td.len h.2]
theorem Td.wf{scope:Int}: ∀{ts:List Int} {r:List Ex},Td scope ts r→Gc r=true
 | [],[],_=>rfl
 |t::ts,y::r,h=>by rw[Gc,h.1.1,Td.wf h.2];rfl
theorem Td.ty{scope:Int}: ∀{ts:List Int} {r:List Ex},Td scope ts r→lz nc scope r= .ok ts
 | [],[],_=>by rw[lz]
 |t::ts,y::r,h=>by
  rw[lz,h.1.2,Td.ty h.2];rfl
theorem FK.mk{scope k:Int}{op:Int}{D:List Ex}{ts:List Int}(h1:1≤op)(h2:op≤22)(h6:op≠6)(F:eo op D.length=true)(r:Td scope ts D)(hr:mc op ts=k)(hk:k≠0):FK scope k (.mk op 0 [] D):=by
 constructor
 ·rw[Ex.wf_eq,Bool.and_eq_true]
  refine⟨?_,r.wf⟩
  have H:0≤D8 op:=by unfold D8;split <;> (try split) <;> decide
  simp only[qT,Bool.and_eq_true,decide_eq_true_eq]
  refine⟨h1,h2,F,⟨Int.le_refl _,H⟩, ?_⟩
  show(if op=6 then Gb []else decide (([]:List Nat)= []))=true
  grind
 ·rw[Ex.ty_eq]
  show(if op=6 then _ else match lz nc scope D with| .error e=>(0,e)| .ok ts=>if mc op ts=0 then(0,9)else(mc op ts,0))=(k,0)
  rw[if_neg h6,r.ty]
  grind
theorem FK.leaf{scope k op num:Int}(h:(op=1∧k=1∧0≤num∧num≤1099511627776)∨(op=2∧k=2∧0≤num∧num≤1099511627776)∨(op=3∧k=3∧0≤num∧num≤1439)∨(op=4∧k=4∧num=0)∨(op=5∧k=4∧num=0)):FK scope k (iU op num):=by
 have r:(iU op num).wf=qT op num [] 0:=by rw[Ex.wf_eq];simp[iU,Ex.op,Ex.num,Ex.name,Ex.args,Gc]
 have D:op≠6→(iU op num).ty nc scope=if mc op []=0 then(0,9)else(mc op [],0):=fun h6=>by
  grind [Ex.ty_eq,iU,Ex.op,Ex.args,lz]
 constructor
 ·rw[r]
  simp only[qT,Bool.and_eq_true,decide_eq_true_eq]
  rcases h with⟨rfl,rfl,h1,h2⟩|⟨rfl,rfl,h1,h2⟩|⟨rfl,rfl,h1,h2⟩|⟨rfl,rfl,rfl⟩|⟨rfl,rfl,rfl⟩
  ·exact⟨by decide,by decide,rfl,⟨h1,h2⟩,rfl⟩
  ·exact⟨by decide,by decide,rfl,⟨h1,h2⟩,rfl⟩
  ·exact⟨by decide,by decide,rfl,⟨h1,h2⟩,rfl⟩
  ·exact⟨by decide,by decide,rfl,⟨by decide,by decide⟩,rfl⟩
  ·exact⟨by decide,by decide,rfl,⟨by decide,by decide⟩,rfl⟩
 ·rcases h with⟨rfl,rfl,h1,h2⟩|⟨rfl,rfl,h1,h2⟩|⟨rfl,rfl,h1,h2⟩|⟨rfl,rfl,rfl⟩|⟨rfl,rfl,rfl⟩ <;> rw[D yv] <;> rfl
theorem Hp{scope k n:Int}(h:Cf k n):FK scope k (sD k n)∧isLit (sD k n)=true∧ae4 (sD k n)=n:=by
 unfold sD
 rcases h with⟨hk,hb⟩|⟨rfl,h1,h2⟩|⟨rfl,hb⟩
 ·have h4:k≠4:=zO
  have h3:k≠3:=zO
  rw[if_neg h4,if_neg h3]
  unfold bd at hb
  by_cases h0:n<0
  ·rw[if_pos h0]
   rcases hk with rfl|rfl
   ·refine⟨FK.mk (ts:= [1]) yv yv yv rfl ⟨FK.leaf (.inl ⟨rfl,rfl,by omega,by omega⟩),trivial⟩ rfl yv,rfl, ?_⟩
    show- -n=n;omega
   ·refine⟨FK.mk (ts:= [2]) yv yv yv rfl ⟨FK.leaf (.inr (.inl ⟨rfl,rfl,by omega,by omega⟩)),trivial⟩ rfl yv,rfl, ?_⟩
    show- -n=n;omega
  ·rw[if_neg h0]
   rcases hk with rfl|rfl
   ·exact⟨FK.leaf (.inl ⟨rfl,rfl,by omega,by omega⟩),rfl,rfl⟩
   ·exact⟨FK.leaf (.inr (.inl ⟨rfl,rfl,by omega,by omega⟩)),rfl,rfl⟩
 ·rw[if_neg yv,if_pos rfl]
  exact⟨FK.leaf (.inr (.inr (.inl ⟨rfl,rfl,h1,h2⟩))),rfl,rfl⟩
 ·rw[if_pos rfl]
  rcases hb with rfl|rfl
  ·exact⟨FK.leaf (.inr (.inr (.inr (.inr ⟨rfl,rfl,rfl⟩)))),rfl,rfl⟩
  ·exact⟨FK.leaf (.inr (.inr (.inr (.inl ⟨rfl,rfl,rfl⟩)))),rfl,rfl⟩
theorem Hq{cl:List Nat→Int×Int}{scope:Int}: ∀{xs:List Ex} {e:Int},lz cl scope xs= .error e→e≠0
 | [],e,h=>by grind [lz]
 |x::xs,e,h=>by
  rw[lz]at h
  split at h
  ·grind
  ·cases hx:lz cl scope xs with
   |error r=>rw[hx]at h;cases h;exact Hq hx
   |ok us=>grind
theorem FK.arg{scope k:Int}{y:Ex}(h:FK scope k y)(h6:y.op≠6): ∃ts,Td scope ts y.args∧mc y.op ts=k∧k≠0:=by
 obtain⟨h1,h2,I,Du,J,F⟩:=h.node
 have r:=h.2
 rw[Ex.ty_eq,if_neg h6]at r
 cases hr:lz nc scope y.args with
 |error e=>
  rw[hr]at r
  have D:((0:Int),e)=(k,0):=r
  injection D with _ h0
  exact absurd h0 (Hq hr)
 |ok ts=>
  rw[hr]at r
  have D:(if mc y.op ts=0 then((0:Int),(9:Int))else(mc y.op ts,0))=(k,0):=r
  split at D
  ·cases D
  ·rename_i H
   have e1:mc y.op ts=k:=by injection D
   refine⟨ts, ?_,e1,by rw[←e1];exact H⟩
   clear r D e1 H I Du J h1 h2 h
   generalize y.args=ys at hr F
   induction ys generalizing ts with
   |nil=>rw[lz]at hr;cases hr;trivial
   |cons z K ih=>
    rw[Gc,Bool.and_eq_true]at F
    rw[lz]at hr
    split at hr
    ·cases hr
    ·rename_i h0
     cases hx:lz nc scope K with
     |error e=>rw[hx]at hr;cases hr
     |ok us=>
      rw[hx]at hr;cases hr
      refine⟨⟨F.1, ?_⟩,ih us hx F.2⟩
      have e2:(z.ty nc scope).2=0:=by simpa using h0
      rw[←e2]
def wb:List Int→List Int→Prop
 | [],[]=>True
 |t::ts,v::r=>Cf t v∧wb ts r
 |_,_=>False
theorem wb.len: ∀{ts r:List Int},wb ts r→ts.length=r.length
 | [],[],_=>rfl
 |t::ts,v::r,h=>by rw[List.length_cons,List.length_cons,wb.len h.2]
theorem wb.bd: ∀{ts r:List Int},wb ts r→ ∀v∈r,bd v
 | [],[],_=>by simp
 |t::ts,v::r,h=>by
  intro w hw
  rcases List.mem_cons.1 hw with rfl|hw
  ·exact aa8 h.1
  ·exact wb.bd h.2 w hw
theorem wb.all{k:Int}: ∀{ts r:List Int},wb ts r→jk ts k=true→ ∀v∈r,Cf k v
 | [],[],_,_=>by simp
 |t::ts,v::r,h,D=>by
  rw[oL,Bool.and_eq_true,decide_eq_true_eq]at D
  intro w hw
  rcases List.mem_cons.1 hw with rfl|hw
  ·rw[←D.1];exact h.1
  ·exact wb.all h.2 D.2 w hw
theorem M7(op:Int)(h:op=12∨op=13): ∀(r:List Int) (m:Int),bd m→(∀v∈r,bd v)→bd (M5 op m r)
 | [],m,D,_=>by rw[Hm];exact D
 |v::r,m,D,F=>by
  rw[CN _ _ _ _ h]
  refine M7 op h r _ ?_ (fun w H=>F w (by simp[H]))
  grind
theorem k12{ts:List Int}{k:Int}(h:(if jk ts 1=true then(1:Int)else if jk ts 2=true then 2 else 0)=k)(hk:k≠0):k=1∨k=2:=by
 grind
theorem KC{op a b k:Int}(h:Jb op a b=k)(hk:k≠0):k=1∨k=2:=by
 grind [Jb]
theorem Zs{op k:Int}{ts I:List Int}(O:wb ts I)(Y:7≤op)(HG:op≤22)(K:eo op ts.length=true)(hr:mc op ts=k)(hk:k≠0):vOk op I∧Cf k (Gg op I):=by
 have H:=O.bd
 have r:=O.len
 have J: ∀b:Bool,Cf 4 (nq b):=fun b=> .inr (.inr ⟨rfl,SJ b⟩)
 rcases vY (show 1≤op by omega) HG with rfl|rfl|rfl|rfl|rfl|rfl|rfl|rfl|rfl|rfl|rfl|rfl|rfl|rfl|rfl|rfl|rfl|rfl|rfl|rfl|rfl|rfl
 iterate 6 ·omega
 ·have D:=k12 hr hk
  obtain⟨v,rfl⟩:=MU (ts:=I) (by rw[←r];simpa[eo]using K)
  exact⟨⟨H,fun h=>absurd h yv,fun h=>absurd h yv⟩,xH D (tW (H v xv))⟩
 ·have D:=k12 hr hk
  obtain⟨v,w,rfl⟩:=oK (ts:=I) (by rw[←r];simpa[eo]using K)
  exact⟨⟨H,fun h=>absurd h yv,fun h=>absurd h yv⟩,xH D (sw _)⟩
 ·have D:=k12 hr hk
  obtain⟨v,w,rfl⟩:=oK (ts:=I) (by rw[←r];simpa[eo]using K)
  exact⟨⟨H,fun h=>absurd h yv,fun h=>absurd h yv⟩,xH D (sw _)⟩
 ·have D:=KC (op:=10) hr hk
  obtain⟨v,w,rfl⟩:=oK (ts:=I) (by rw[←r];simpa[eo]using K)
  exact⟨⟨H,fun h=>absurd h yv,fun h=>absurd h yv⟩,xH D (sw _)⟩
 ·have D:=KC (op:=11) hr hk
  obtain⟨v,w,rfl⟩:=oK (ts:=I) (by rw[←r];simpa[eo]using K)
  exact⟨⟨H,fun h=>absurd h yv,fun h=>absurd h yv⟩,xH D (agu _ _)⟩
 iterate 2
  ·have D:=k12 hr hk
   match I,H,r with
   | [],_,r=>rw[r]at K;simp[eo]at K
   |v::I,H,_=>
    refine⟨⟨H,fun h=>absurd h yv,fun h=>absurd h yv⟩,xH D ?_⟩
    first
     |exact M7 12 (.inl rfl) I v (H v xv) (fun w V=>H w (by simp[V]))
     |exact M7 13 (.inr rfl) I v (H v xv) (fun w V=>H w (by simp[V]))
 ·obtain⟨a,b,c,rfl⟩:=MV (ts:=ts) (by simpa[eo]using K)
  obtain⟨x,y,z,rfl⟩:=MV (ts:=I) (by rw[←r];rfl)
  obtain⟨h1,h2,h3,_⟩:=O
  have F:(if a=4∧b=c then b else 0)=k:=hr
  split at F
  ·rename_i W
   obtain⟨rfl,rfl⟩:=W
   subst F
   have KA:=Ho h1
   refine⟨⟨H,fun h=>absurd h yv,fun _=>KA⟩, ?_⟩
   show Cf b (if x=0 then z else y)
   split
   ·exact h3
   ·exact h2
  ·exact absurd F.symm hk
 ·have F:(if jk ts 3=true then(4:Int)else 0)=k:=hr
  split at F
  ·subst F
   exact⟨⟨H,fun h=>absurd h yv,fun h=>absurd h yv⟩,J _⟩
  ·exact absurd F.symm hk
 iterate 2
  ·have F:(if(a0 ts=1∨a0 ts=2)∧a0 ts=a1 ts then(4:Int)else 0)=k:=hr
   split at F
   ·subst F
    exact⟨⟨H,fun h=>absurd h yv,fun h=>absurd h yv⟩,J _⟩
   ·exact absurd F.symm hk
 ·have F:(if a0 ts=a1 ts then(4:Int)else 0)=k:=hr
  split at F
  ·subst F
   exact⟨⟨H,fun h=>absurd h yv,fun h=>absurd h yv⟩,J _⟩
  ·exact absurd F.symm hk
 ·have F:(if jk ts 4=true then(4:Int)else 0)=k:=hr
  split at F
  ·rename_i X
   subst F
   have N:=fun v U=>Ho (O.all X v U)
   obtain⟨v,rfl⟩:=MU (ts:=I) (by rw[←r];simpa[eo]using K)
   have U:=N v xv
   refine⟨⟨H,fun _=>N,fun h=>absurd h yv⟩,.inr (.inr ⟨rfl, ?_⟩)⟩
   show bit (1-v)
   unfold bit at *; omega
  ·exact absurd F.symm hk
 iterate 3
  ·have F:(if jk ts 4=true then(4:Int)else 0)=k:=hr
   split at F
   ·rename_i X
    subst F
    have N:=fun v U=>Ho (O.all X v U)
    obtain⟨v,w,rfl⟩:=oK (ts:=I) (by rw[←r];simpa[eo]using K)
    have U:=N v xv
    have V:=N w xv
    refine⟨⟨H,fun _=>N,fun h=>absurd h yv⟩,.inr (.inr ⟨rfl, ?_⟩)⟩
    first
     |(show bit (min v w);unfold bit at *; omega)
     |(show bit (max v w);unfold bit at *; omega)
     |(show bit (max (1-v) w);unfold bit at *; omega)
   ·exact absurd F.symm hk
theorem FK.not{scope k:Int}{y:Ex}(h:FK scope k y)(H:y.op=19):k=4∧FK scope 4 (y.args.headD (iU 0 0)):=by
 obtain⟨_,_,I,_⟩:=h.node
 obtain⟨ts,D,hr,hk⟩:=h.arg zO
 have r:y.args.length=1:=by rw[H]at I;simpa[eo]using I
 rw[H]at hr
 have J:(if jk ts 4=true then(4:Int)else 0)=k:=hr
 split at J
 ·rename_i F
  refine⟨J.symm, ?_⟩
  generalize y.args=l at D r
  match l,ts,D,r,F with
  | [z],[t],D,_,F=>
    rw[oL,Bool.and_eq_true,decide_eq_true_eq]at F
    rw[←F.1];exact D.1
 ·grind
theorem Ex.fold_eq(cl:List Nat→Int×Int)(cx:List Nat→Ex)(scope:Int)(x:Ex):x.fold cl cx scope=
  if x.op=6 then(if dZ scope x.name≠0 then x else cx x.name)
  else if x.args.isEmpty then x
  else if(nv cl cx scope x.args).all isLit then sD (x.ty cl scope).1 (Gg x.op ((nv cl cx scope x.args).map ae4))
  else ayc x.op (nv cl cx scope x.args):=by obtain⟨_,_,_,_⟩:=x;rw[Ex.fold];rfl
theorem vO{cl:List Nat→Int×Int}{scope k:Int}{x:Ex}(r:x.ty cl scope=(k,0))(h6:x.op≠6): ∃ts,lz cl scope x.args= .ok ts∧mc x.op ts=k∧k≠0:=by
 rw[Ex.ty_eq,if_neg h6]at r
 cases hr:lz cl scope x.args with
 |error e=>
  rw[hr]at r
  have D:((0:Int),e)=(k,0):=r
  injection D with _ h0
  exact absurd h0 (Hq hr)
 |ok ts=>
  grind
theorem oN{cl:List Nat→Int×Int}{scope:Int}{x:Ex}{xs:List Ex}{ts:List Int}(h:lz cl scope (x::xs)= .ok ts): ∃t us,ts=t::us∧x.ty cl scope=(t,0)∧lz cl scope xs= .ok us:=by
 grind [lz]
theorem vM{x:Ex}(h:x.wf=true):1≤x.op∧x.op≤22∧eo x.op x.args.length=true∧(0≤x.num∧x.num≤D8 x.op)∧(if x.op=6 then Gb x.name=true else x.name= [])∧Gc x.args=true:=by
 simp_all[Ex.wf_eq,Bool.and_eq_true,qT]
theorem aoA{op:Int}{n:Nat}(h1:1≤op)(r:eo op n=true)(D:n≠0):7≤op:=by
 grind [eo]
theorem agw{op:Int}{n:Nat}(h2:op≤22)(r:eo op n=true)(D:n=0):op≤6:=by
 grind [eo]
mutual
def Ex.val0(r:List Nat→Int):Ex→Int
 | .mk op num name args=>if op=6 then r name else if op=1∨op=2∨op=3 then num else if op=4 then 1 else if op=5 then 0 else Gg op (gm r args)
def gm(r:List Nat→Int):List Ex→List Int
 | []=> []
 |x::xs=>x.val0 r::gm r xs
end
theorem Ex.val0_eq(r:List Nat→Int)(x:Ex):x.val0 r=if x.op=6 then r x.name else if x.op=1∨x.op=2∨x.op=3 then x.num else if x.op=4 then 1 else if x.op=5 then 0 else Gg x.op (gm r x.args):=by obtain⟨_,_,_,_⟩:=x;rw[Ex.val0];rfl
theorem xo(r:List Nat→Int): ∀xs,gm r xs=xs.map (Ex.val0 r)
 | []=>rfl
 |x::xs=>by rw[gm,xo r xs];rfl
def cxv(cl:List Nat→Int×Int)(r:List Nat→Int)(s:List Nat):Ex:=sD (cl s).1 (r s)
def Mt(cl:List Nat→Int×Int)(r:List Nat→Int):Prop:= ∀s t,cl s=(t,0)→Cf t (r s)
theorem aba{cl:List Nat→Int×Int}{scope:Int}{x:Ex}{k:Int}(Ae:x.wf=true)(r:x.ty cl scope=(k,0))(h6:x.op≠6)(D:x.args= []):x=sD k (if x.op=1∨x.op=2∨x.op=3 then x.num else if x.op=4 then 1 else 0)∧Cf k (if x.op=1∨x.op=2∨x.op=3 then x.num else if x.op=4 then 1 else 0)∧x.op≤5:=by
 obtain⟨h1,h2,I,Du,H,J⟩:=vM Ae
 have h5:x.op≤6:=agw h2 I (by rw[D];rfl)
 rw[Ex.ty_eq,if_neg h6,D,lz]at r
 rw[if_neg h6]at H
 obtain⟨op,num,name,args⟩:=x
 simp only[Ex.op,Ex.num,Ex.name,Ex.args]at*
 subst H D
 have F:op=1∨op=2∨op=3∨op=4∨op=5:=zO
 rcases F with rfl|rfl|rfl|rfl|rfl
 all_goals
  simp[mc]at r
  subst r
  simp[D8]at Du
 ·refine⟨?_,.inl ⟨.inl rfl, ?_⟩,by decide⟩
  ·simp[sD,iU];omega
  ·simp[bd];omega
 ·refine⟨?_,.inl ⟨.inr rfl, ?_⟩,by decide⟩
  ·simp[sD,iU];omega
  ·simp[bd];omega
 ·refine⟨?_,.inr (.inl ⟨rfl, ?_⟩),by decide⟩
  ·simp[sD,iU]
  ·simpa using Du
 ·refine⟨?_,.inr (.inr ⟨rfl,.inr rfl⟩),by decide⟩
  simp[sD,iU];omega
 ·refine⟨?_,.inr (.inr ⟨rfl,.inl rfl⟩),by decide⟩
  simp[sD,iU];omega
theorem KD{cl:List Nat→Int×Int}{r:List Nat→Int}(hc:Mt cl r)(scope:Int)(U: ∀s,dZ scope s=0)(x:Ex): ∀k,x.wf=true→x.ty cl scope=(k,0)→x.fold cl (cxv cl r) scope=sD k (x.val0 r)∧Cf k (x.val0 r):=by
 induction x using Ex.ind with
 |h x ih=>
  intro k Ae D
  obtain⟨h1,h2,J,Du,X,I⟩:=vM Ae
  rw[Ex.fold_eq,Ex.val0_eq]
  by_cases h6:x.op=6
  ·rw[if_pos h6,if_pos h6]
   rw[Ex.ty_eq,if_pos h6,if_neg (by simp[U])]at D
   rw[if_neg (by simp[U])]
   exact⟨by unfold cxv;rw[D],hc _ _ D⟩
  rw[if_neg h6,if_neg h6]
  by_cases K:x.args.isEmpty=true
  ·grind [aba]
  ·rw[if_neg K]
   have V:x.args.length≠0:=by
    intro h;exact K (by simp[List.length_eq_zero_iff.1 h])
   have Y:=aoA h1 J V
   obtain⟨ts,F,hr,hk⟩:=vO D h6
   have N:wb ts (gm r x.args)∧(nv cl (cxv cl r) scope x.args).all isLit=true∧(nv cl (cxv cl r) scope x.args).map ae4=gm r x.args:=by
    clear D J V K hr Ae Du X
    generalize x.args=xs at ih F I
    induction xs generalizing ts with
    |nil=>rw[lz]at F;cases F;exact⟨trivial,rfl,rfl⟩
    |cons z zs O=>
     obtain⟨t,us,rfl,e1,e2⟩:=oN F
     rw[Gc,Bool.and_eq_true]at I
     obtain⟨Z,W⟩:=ih z xv t I.1 e1
     obtain⟨g1,g2,g3⟩:=O us (fun y hy=>ih y (by simp[hy])) e2 I.2
     rw[nv,gm,Z]
     obtain⟨_,q1,q2⟩:=Hp (scope:=scope) W
     refine⟨⟨W,g1⟩, ?_, ?_⟩
     ·rw[List.all_cons,q1,g2];rfl
     ·rw[List.map_cons,q2,g3]
   obtain⟨i1,i2,i3⟩:=N
   have H:ts.length=x.args.length:=vP F
   rw[if_pos i2,i3,D,if_neg zO,if_neg zO,if_neg zO]
   exact⟨rfl,(Zs i1 Y h2 (by rw[H];exact J) hr hk).2⟩
def vxk(l:Cs)(Hy:List Int)(s:List Nat):Int:=match fL l s with
 |none=>0
 |some i=>Hy.getD i 0
def sV(l:Cs):Nat→List Int
 |0=> []
 |n+1=>sV l n++ [if(Gf (l.take n) (jC l n) (l.getD n ([],.mk 0 0 [] [])).2).2=0 then(l.getD n ([],.mk 0 0 [] [])).2.val0 (vxk (l.take n) (sV l n))else 0]
theorem lK(l:Cs): ∀n,(sV l n).length=n
 |0=>rfl
 |n+1=>by rw[sV,List.length_append,lK l n];rfl
theorem abb(l:Cs){n:Nat}(h:n<l.length):sV l (n+1)=sV l n++ [if(Gf (l.take n) (jC l n) l[n].2).2=0 then l[n].2.val0 (vxk (l.take n) (sV l n))else 0]:=by
 rw[sV,List.getD_eq_getElem?_getD,List.getElem?_eq_getElem h];rfl
theorem PG(l:Cs)(n:Nat): ∀k,∃r,sV l (n+k)=sV l n++r
 |0=>⟨[],by simp⟩
 |k+1=>by
  obtain⟨r,h⟩:=PG l n k
  grind [Nat.add_assoc,sV]
theorem PH(l:Cs){n i:Nat}(D:n≤l.length)(hi:i<n):(sV l n).getD i 0=(sV l l.length).getD i 0:=by
 obtain⟨r,h⟩:=PG l n (l.length-n)
 grind [lK,hi]
def CL(l:Cs)(n:Nat):List Nat→Int×Int:=clk (l.take n) (jC l n)
def VX(l:Cs)(n:Nat):List Nat→Int:=vxk (l.take n) (sV l n)
def Gq(l:Cs):List Nat→Int×Int:=clk l (jC l l.length)
def gf(l:Cs):List Nat→Int:=vxk l (sV l l.length)
theorem xh(l:Cs):CL l l.length=Gq l:=by grind [CL,Gq]
theorem Zp(l:Cs):VX l l.length=gf l:=by grind [VX,gf]
theorem vN{l:Cs}{n:Nat}(J:n≤l.length){s:List Nat}{t:Int}(h:CL l n s=(t,0)): ∃i,∃hi:i<l.length,i<n∧fL l s=some i∧bW l[i].2=0∧l[i].2.ty (CL l i) 0=(t,0)∧Gq l s=(t,0)∧VX l n s=l[i].2.val0 (VX l i)∧gf l s=l[i].2.val0 (VX l i)∧sE l i=(t,0):=by
 unfold CL clk at h
 rw[xz]at h
 cases D:fL l s with
 |none=>grind
 |some i=>
  rw[D]at h
  simp only at h
  by_cases hi:i<n
  ·rw[if_pos hi]at h
   simp only at h
   have H:i<l.length:=PA D
   rw[CJ l J hi]at h
   have r:sE l i=(t,0):=h
   have I:=r
   rw[Gl l H]at r
   have C9:=r
   unfold Gf at r
   by_cases F:bW l[i].2≠0
   ·rw[if_pos F]at r;injection r with _ r;exact absurd r F
   ·rw[if_neg F]at r
    have K:(sV l l.length).getD i 0=l[i].2.val0 (VX l i):=by
     rw[←PH l (n:=i+1) zO zO,abb l H,List.getD_eq_getElem?_getD,List.getElem?_append_right (by rw[lK];omega),lK,Nat.sub_self,C9]
     rfl
    refine⟨i,H,hi,rfl,by simpa using F,r, ?_, ?_, ?_,I⟩
    ·unfold Gq clk;rw[D];exact h
    ·unfold VX vxk
     rw[xz,D]
     simp only[if_pos hi]
     rw[PH l J hi,K];rfl
    ·unfold gf vxk;rw[D];exact K
  ·grind
theorem kE(s:List Nat):dZ 0 s=0:=by unfold dZ;rfl
theorem ajH(l:Cs): ∀n,n≤l.length→Mt (CL l n) (VX l n):=by
 intro n
 induction n using Nat.strongRecOn with
 |ind n ih=>
  intro r s t hs
  obtain⟨i,H,hi,_,D,F,_,e,_⟩:=vN r hs
  rw[e]
  exact(KD (ih i hi zO) 0 (fun s=>kE s) l[i].2 t (iX D) F).2
theorem GG(l:Cs):Mt (Gq l) (gf l):=by
 have:=ajH l l.length (Nat.le_refl _)
 rwa [xh,Zp]at this
theorem fold_congr{cl Gj:List Nat→Int×Int}{cx r:List Nat→Ex}(scope:Int)(hc: ∀s t,cl s=(t,0)→Gj s=(t,0)∧r s=cx s)(x:Ex): ∀k,x.ty cl scope=(k,0)→x.ty Gj scope=(k,0)∧x.fold Gj r scope=x.fold cl cx scope:=by
 induction x using Ex.ind with
 |h x ih=>
  intro k H
  by_cases h6:x.op=6
  ·grind [Ex.ty_eq,Ex.fold_eq]
  ·obtain⟨ts,D,hr,hk⟩:=vO H h6
   have U:lz Gj scope x.args= .ok ts∧nv Gj r scope x.args=nv cl cx scope x.args:=by
    clear H hr
    generalize x.args=xs at ih D
    induction xs generalizing ts with
    |nil=>rw[lz]at D;cases D;exact⟨rfl,rfl⟩
    |cons z V F=>
     obtain⟨t,us,rfl,e1,e2⟩:=oN D
     obtain⟨I,J⟩:=ih z xv t e1
     obtain⟨K,N⟩:=F us (fun y O=>ih y (by simp[O])) e2
     rw[lz,nv,nv,I,K,J,N]
     exact⟨rfl,rfl⟩
   grind [Ex.ty_eq,Ex.fold_eq]
theorem az8{l:Cs}{n:Nat}(r:n≤l.length): ∀s t,CL l n s=(t,0)→Gq l s=(t,0)∧cxv (Gq l) (gf l) s=cxv (CL l n) (VX l n) s:=fun s t hs=>by
 grind [cxv,vN]
def abc(l:Cs)(scope:Int)(x:Ex):Ex:=x.fold (Gq l) (cxv (Gq l) (gf l)) scope
theorem KE{l:Cs}{s:List Nat}{t:Int}(h:Gq l s=(t,0)): ∃i,∃hi:i<l.length,fL l s=some i∧bW l[i].2=0∧l[i].2.ty (CL l i) 0=(t,0)∧l[i].2.ty (Gq l) 0=(t,0)∧abc l 0 l[i].2=sD t (gf l s)∧Cf t (gf l s)∧sE l i=(t,0)∧gf l s=(sV l l.length).getD i 0:=by
 have F:=h
 rw[←xh]at F
 obtain⟨i,r,hi,H,I,D,N,e1,e2,e3⟩:=vN (Nat.le_refl _) F
 obtain⟨J,K⟩:=fold_congr 0 (az8 (Nat.le_of_lt r)) l[i].2 t D
 refine⟨i,r,H,I,D,J, ?_,GG l s t h,e3, ?_⟩
 ·unfold abc
  rw[K,(KD (ajH l i (Nat.le_of_lt r)) 0 (fun s=>kE s) l[i].2 t (iX I) D).1,e2]
 ·unfold gf vxk;rw[H]
end Go.Proofs.YtcpceiclnbmgiaaGreat
