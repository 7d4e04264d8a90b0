/- Walks of functions of the program and of the reference, and their plain laws, part 3. Conditions: the theorems' own. -/
import Derived.Test.YtcpceiclnbmgiaaGreatM2
import Derived.KernelRfl
set_option maxRecDepth 100000
set_option linter.unusedSimpArgs false
set_option linter.unusedVariables false
set_option maxHeartbeats 16000000
namespace Go.Proofs.YtcpceiclnbmgiaaGreat
open Go Go.Ev
theorem vw(l:Cs): ∀n,(pQ l n).length=n
 |0=>rfl
 |n+1=>by rw[pQ,List.length_append,vw l n];rfl
theorem SW(l:Cs){n:Nat}(h:n<l.length):pQ l (n+1)=pQ l n++ [Nl (l.take n) (pQ l n) l[n].2]:=by
 rw[pQ];simp[List.getD_eq_getElem?_getD,List.getElem?_eq_getElem h]
def smC(l:Cs):Prop:= ∀c∈l,0≤c.2.nodes∧c.2.sm
theorem YS(a:List Int)(x:Int):ints (a++ [x])=ints a++ [.i .i64 x]:=by simp[ints]
section
variable(l:Cs)(lT:T)(cl:List T)(hl:IsSl lT l.length cl)(mJ:mh l cl)(hlen:l.length≤qK)(wu:smC l)
include hl mJ hlen wu
end
theorem EV{α:Type}: ∀(A R:List α) (j:Nat) (i:List α),splice (A++R) (A.length+j) i=A++splice R j i
 | [],R,j,i=>by simp
 |a::A,R,j,i=>by
  rw[List.cons_append,List.length_cons,show A.length+1+j=(A.length+j)+1 by omega,splice,EV A R j i];rfl
theorem B0{α:Type}: ∀(z R i:List α),i.length=z.length→splice (z++R) 0 i=i++R
 | [],R,[],_=>by cases R <;> rfl
 |c::z,R,v::i,h=>by simp_all[List.cons_append,splice,B0]
theorem EW{α:Type}(A z R i:List α)(k:Nat)(hk:A.length=k)(h:i.length=z.length):splice (A++(z++R)) k i=(A++i)++R:=by
 have:=EV A (z++R) 0 i
 simp_all[Nat.add_zero,B0,List.append_assoc]
theorem Bj{α:Type}(z:List α)(n:Nat):repl z (n+1)=z++repl z n:=rfl
theorem EX{α:Type}(z:List α): ∀n,(repl z n).length=n*z.length
 |0=>by simp[repl]
 |n+1=>by rw[Bj,List.length_append,EX z n,Nat.succ_mul,Nat.add_comm]
def jt(l:Cs):Nat→List (List Nat×Nat)
 |0=> []
 |n+1=>match iJ (jt l n) (l.getD n ([],.mk 0 0 [] [])).1 with
  |none=>jt l n++ [((l.getD n ([],.mk 0 0 [] [])).1,n)]
  |some _=>jt l n
theorem Bk(l:Cs){n:Nat}(h:n<l.length):jt l (n+1)=match iJ (jt l n) l[n].1 with
  |none=>jt l n++ [(l[n].1,n)]
  |some _=>jt l n:=by
 rw[jt];simp[List.getD_eq_getElem?_getD,List.getElem?_eq_getElem h]
theorem G6(s:List Nat)(c:List Nat×Ex): ∀l:Cs,pd (l++ [c]) s=match pd l s with|some i=>some i|none=>if c.1=s then some l.length else none
 | []=>by simp[pd]
 |d::l=>by
  rw[List.cons_append,pd,pd,G6 s c l]
  grind
theorem wh(l:Cs)(s:List Nat): ∀n,n≤l.length→iJ (jt l n) s=pd (l.take n) s
 |0,_=>by simp[jt,iJ,pd]
 |n+1,h=>by
  have i:n<l.length:=by omega
  rw[Bk l i,List.take_succ_eq_append_getElem i,G6]
  have ih:=wh l s n (by omega)
  have r:=wh l l[n].1 n (by omega)
  grind [qI,List.length_take,Nat.min_eq_left,hi]
def sK(s:List Nat):T:= .s s
def nK(n:Nat):T:= .i .i64 (n:Int)
def iV(n:Int):T:= .i .i64 n
theorem FQ(a b:List Nat):uP (.one .str) (sK a) (sK b)=some (decide (a=b)):=asI
theorem adz(a b:Nat):uP (.one .int) (nK a) (nK b)=some (decide (a=b)):=by
 grind [nK,asJ]
def xW(lT:T)(m:List (List Nat×Nat))(kn:List (Nat×Int)):List b8:=
 [⟨1,.map (m.map fun p=>sK p.1) (m.map fun p=>nK p.2) false⟩,⟨1,.map (kn.map fun p=>nK p.1) (kn.map fun p=>iV p.2) false⟩,⟨1,.cells [lT,.mp .S 0 1,.mp .S 1 1] 0 true⟩]
section
variable(lT:T)(m:List (List Nat×Nat))(kn:List (Nat×Int))
theorem ch0:iz (xW lT m kn) 0=⟨1,.map (m.map fun p=>sK p.1) (m.map fun p=>nK p.2) false⟩:=nr rfl
theorem ch1:iz (xW lT m kn) 1=⟨1,.map (kn.map fun p=>nK p.1) (kn.map fun p=>iV p.2) false⟩:=nr rfl
theorem ch2:iz (xW lT m kn) 2=⟨1,.cells [lT,.mp .S 0 1,.mp .S 1 1] 0 true⟩:=nr rfl
theorem aBa(i:List (List Nat×Nat)):iH (xW lT m kn) 0 ⟨1,.map (i.map fun p=>sK p.1) (i.map fun p=>nK p.2) false⟩=xW lT i kn:=nr rfl
theorem aBb(i:List (Nat×Int)):iH (xW lT m kn) 1 ⟨1,.map (i.map fun p=>nK p.1) (i.map fun p=>iV p.2) false⟩=xW lT m i:=nr rfl
theorem auE:xW lT [] []= [⟨1,.map [] [] false⟩,⟨1,.map [] [] false⟩,⟨1,.cells [lT,.mp .S 0 1,.mp .S 1 1] 0 true⟩]:=nr rfl
end
def TD(r:Option Nat):T:=match r with|some v=> .tup [nK v,.b true]|none=> .tup [.i .i64 0,.b false]
theorem lkS(m:List (List Nat×Nat))(s:List Nat):nI (.one .str) (m.map fun p=>sK p.1) (m.map fun p=>nK p.2) (.s s) (.i .i64 0) true=some (TD (iJ m s)):=by
 have:=aiV (kT:=sK) (vT:=nK) FQ (fun _=>rfl) m s (.i .i64 0)
 rw[show(T.s s)=sK s from rfl,this];unfold TD;cases iJ m s <;> rfl
section
variable(l:Cs)(lT:T)(cl:List T)(hl:IsSl lT l.length cl)(mJ:mh l cl)(hlen:l.length≤qK)
include hl mJ hlen
theorem aBc(fr:Fr)(lh:iq b8)(sh:List b8)(W:sh=xW lT [] [])
  (F:an fr 3= .ptr .S 2 1 0) (H:an fr 13=lT) (D:an fr 14= .i .i64 (l.length:Int)) (I:an fr 15= .i .i64 0):
  wS 41 xj fr lh sh (.ext 0)∧
  (oH pE 41 xj fr lh sh=xW lT (jt l l.length) []):=by
 refine jJ (P:=fun Z iR X=>X=xW lT (jt l l.length) [])
  (j6 (fun k st=> ∃(fr:Fr) (K:iq b8),st=⟨fr,K,xW lT (jt l k) []⟩∧an fr 3= .ptr .S 2 1 0∧an fr 13=lT∧an fr 14= .i .i64 (l.length:Int)∧an fr 15= .i .i64 (k:Int)) _ l.length ?_ ?_ 0 _ (Nat.zero_le _) ⟨fr,lh,by rw[W];rfl,F,H,D,I⟩)
 ·rintro k _ hk ⟨fr,K,rfl,F,H,D,I⟩
  left
  have O:(k:Int)<l.length:=by omega
  have U:=ji (k:=k) (by omega)
  obtain⟨b,cb,r,V,m9,sx,hb⟩:=oE hl mJ k hk
  have J:=lkS (jt l k) l[k].1
  rw[Bk l hk]
  cases N:iJ (jt l k) l[k].1 with
  |some i=>
   rw[N]at J
   unfold TD at J
   simp only[qA,seval,jI,iE,j3,xj,F,H,D,I,O,V,U,ch2,ch0,jF,J]
   refine⟨_,rfl,_,_,rfl, ?_, ?_, ?_, ?_⟩ <;> simp only[qA,seval,F,H,D]
  |none=>
   rw[N]at J
   unfold TD at J
   have Y:qN (.one .str) (.s l[k].1) (.i .i64 (k:Int)) ((jt l k).map fun p=>sK p.1) ((jt l k).map fun p=>nK p.2)=_:=zq (kT:=sK) (vT:=nK) FQ (jt l k) l[k].1 k N
   simp only[qA,seval,jI,iE,j3,xj,F,H,D,I,O,V,U,ch2,ch0,jF,J,BN,Y,aBa]
   refine⟨_,rfl,_,_,rfl, ?_, ?_, ?_, ?_⟩ <;> simp only[qA,seval,F,H,D]
 ·rintro _ ⟨fr,K,rfl,F,H,D,I⟩
  simp only[qA,seval,xj,D,I,Int.lt_irrefl]
  grind
theorem akQ:be pE 89 [lT] []=some (.ptr .S 2 1 0,xW lT (jt l l.length) []):=by
 have i:=fun fr lh sh=>aBc l lT cl hl mJ hlen fr lh sh
 rw[auE]at i
 rw[il aqn (by simp[c89])]
 simp only[qA,seval,jl,j3,c89,TY,hl.lenI,hl.cells,hl.noTup,hl.kept1,i]
end
theorem LK(l:Cs)(n:Nat): ∀k,∃r,pQ l (n+k)=pQ l n++r
 |0=>⟨[],by simp⟩
 |k+1=>by
  obtain⟨r,h⟩:=LK l n k
  grind [Nat.add_assoc,pQ]
theorem EY(l:Cs){n i:Nat}(D:n≤l.length)(hi:i<n):(pQ l n).getD i (0,6)=(pQ l l.length).getD i (0,6):=by
 obtain⟨r,h⟩:=LK l n (l.length-n)
 grind [vw,hi]
def wI(l:Cs)(i:Nat):Int×Int:=(pQ l l.length).getD i (0,6)
theorem Ql(l:Cs){i:Nat}(hi:i<l.length):wI l i=Nl (l.take i) (pQ l i) l[i].2:=by
 unfold wI
 rw[←EY l (n:=i+1) (by omega) (by omega),SW l hi,List.getD_eq_getElem?_getD,List.getElem?_append_right (by rw[vw];omega),vw,Nat.sub_self]
 rfl
theorem akR{cl:List Nat→Int×Int}(mJ: ∀s,(cl s).2≠0→(cl s).1=0)(scope:Int)(x:Ex)(h:(x.ty cl scope).2≠0):(x.ty cl scope).1=0:=by
 grind [Ex.ty_eq]
theorem adA(l:Cs)(IY:List (Int×Int))(h: ∀t∈IY,t.2≠0→t.1=0)(s:List Nat):(clk l IY s).2≠0→(clk l IY s).1=0:=by
 grind [clk]
theorem EZ(l:Cs): ∀n,∀t∈pQ l n,t.2≠0→t.1=0
 |0=>by simp[pQ]
 |n+1=>by
  intro t ht
  rw[pQ]at ht
  rcases List.mem_append.1 ht with ht|ht
  ·exact EZ l n t ht
  ·rw[List.mem_singleton]at ht
   subst ht
   unfold Nl
   split
   ·intro _;rfl
   ·exact akR (adA _ _ (EZ l n)) _ _
section
variable(l:Cs)(lT:T)(cl:List T)(hl:IsSl lT l.length cl)(mJ:mh l cl)(hlen:l.length≤qK)(wu:smC l)
def zU(kn:List (Nat×Int)):Prop:= ∀i t,iJ kn i=some t→i<l.length∧wI l i=(t,0)
def akS(j:Nat):Prop:= ∀kn,zU l kn→ ∃r,be pE 91 [.ptr .S 2 1 0,.i .i64 (j:Int)] (xW lT (jt l l.length) kn)=some (.tup [.i .i64 (wI l j).1,.i .i64 (wI l j).2],xW lT (jt l l.length) r)∧zU l r∧ ∀i,j<i→iJ r i=iJ kn i
def IA(n:Nat):List Nat→Int×Int:=clk (l.take n) (pQ l n)
def auG(n:Nat)(scope:Int)(y:Ex):Prop:= ∀kn,zU l kn→ ∀cs:List T,mY y cs→y.nodes≤100000→y.wf=true→ ∃r,be pE 184 [.ptr .S 2 1 0,.i .i64 scope,.i .i64 (n:Int),.agg cs] (xW lT (jt l l.length) kn)=some (.tup [.i .i64 (y.ty (IA l n) scope).1,.i .i64 (y.ty (IA l n) scope).2],xW lT (jt l l.length) r)∧zU l r∧ ∀i,n≤i→iJ r i=iJ kn i
include hl
theorem aBd(n:Nat)(scope:Int)(xs:List Ex)(ih: ∀y∈xs,auG l lT n scope y)(a:T)(cc:List T)(ha:IsSl a xs.length cc)(hx:ku xs cc)(hn:jQ xs≤100000)(Bf:B9 xs=true)(kn:List (Nat×Int))(qn:zU l kn)(r:Except Int (List Int))(hr:r=sw (IA l n) scope xs)(o:Out)(ho:o=aj1 r)(g:Nat)(c7:b8)(fr:Fr)(lh:iq b8)(sh:List b8)(lU:sh=xW lT (jt l l.length) kn)
  (I:an fr 0= .ptr .S 2 1 0) (J:an fr 1= .i .i64 scope) (K:an fr 2= .i .i64 (n:Int)) (U:an fr 14= .isl .L 57 g 0 xs.length 1) (GY:an fr 59=a) (Fp:an fr 60= .i .i64 (xs.length:Int)) (GZ:an fr 61= .i .i64 0) (LL:b7 lh 57=⟨g,.cells (repl [.i .i64 0] xs.length) 0 false⟩) (N:b7 lh 7=c7):
  wS 89 oa fr lh sh o∧
  ((∀e,r= .error e→an (tO pE 89 oa fr lh sh) 8= .i .i64 0∧an (tO pE 89 oa fr lh sh) 9= .i .i64 e)∧(∀ts,r= .ok ts→b7 (n5 pE 89 oa fr lh sh) 57=⟨g,.cells (ints ts) 0 false⟩)∧
    b7 (n5 pE 89 oa fr lh sh) 7=c7∧ ∃H,oH pE 89 oa fr lh sh=xW lT (jt l l.length) H∧zU l H∧ ∀i,n≤i→iJ H i=iJ kn i):=by
 have _:=hl
 refine jJ (P:=fun jO iR iT=>(∀e,r= .error e→an jO 8= .i .i64 0∧an jO 9= .i .i64 e)∧(∀ts,r= .ok ts→b7 iR 57=⟨g,.cells (ints ts) 0 false⟩)∧b7 iR 7=c7∧ ∃H,iT=xW lT (jt l l.length) H∧zU l H∧ ∀i,n≤i→iJ H i=iJ kn i)
  (j6 (fun k st=> ∃(fr:Fr) (V:iq b8) (ts:List Int) (K2:List (Nat×Int)),st=⟨fr,V,xW lT (jt l l.length) K2⟩∧an fr 0= .ptr .S 2 1 0∧an fr 1= .i .i64 scope∧an fr 2= .i .i64 (n:Int)∧an fr 14= .isl .L 57 g 0 xs.length 1∧an fr 59=a∧an fr 60= .i .i64 (xs.length:Int)∧an fr 61= .i .i64 (k:Int)∧b7 V 7=c7∧
    b7 V 57=⟨g,.cells (ints ts++repl [.i .i64 0] (xs.length-k)) 0 false⟩∧ts.length=k∧r=NR ts (sw (IA l n) scope (xs.drop k))∧zU l K2∧ ∀i,n≤i→iJ K2 i=iJ kn i) _ xs.length ?_ ?_ 0 _ (Nat.zero_le _) ⟨fr,lh,[],kn,by rw[lU],I,J,K,U,GY,Fp,GZ,N,by rw[LL];rfl,rfl,by rw[hr,List.drop_zero];cases sw (IA l n) scope xs <;> rfl,qn,fun _ _=>rfl⟩)
 ·rintro k _ D ⟨fr,V,ts,K2,rfl,I,J,K,U,GY,Fp,GZ,N,LL,yS,Ab,Oc,LM⟩
  have iX:(k:Int)<xs.length:=by omega
  have O3:=mn xs
  have hyk:=pb (List.getElem_mem D)
  have hw:=ji (k:=k) (oy (by omega))
  obtain⟨b,cb,rr,jg,m9,sx,hb⟩:=si ha hx k D
  obtain⟨Pp,O,W,X⟩:=ih xs[k] (List.getElem_mem D) K2 Oc _ hb (by omega) (HV.1 Bf _ (List.getElem_mem D))
  rw[YB D]at Ab
  by_cases F:(xs[k].ty (IA l n) scope).2=0
  ·left
   rw[if_neg (by simp[F]),SQ]at Ab
   generalize xs[k].ty (IA l n) scope=q at O F Ab
   obtain⟨Y,q2⟩:=q
   simp only at O F Ab
   subst F
   have IV:(ints ts++repl [T.i .i64 0] (xs.length-k)).length=xs.length:=by rw[List.length_append,kO,EX,yS];simp;omega
   have hsp:splice (ints ts++repl [T.i .i64 0] (xs.length-k)) k [.i .i64 Y]=ints (ts++ [Y])++repl [T.i .i64 0] (xs.length-(k+1)):=by
    rw[show xs.length-k=(xs.length-(k+1))+1 by omega,Bj,EW (ints ts) [T.i .i64 0] _ [T.i .i64 Y] k (by rw[kO];exact yS) rfl,YS]
   have akT:k+1≤xs.length:=by omega
   simp only[qA,seval,j3,oa,I,J,K,U,GY,Fp,GZ,LL,iX,jg,hw,O,UX,m9.kept1,D,IV,hsp,akT]
   refine⟨_,rfl,_,_,ts++ [Y],Pp,rfl, ?_, ?_, ?_, ?_, ?_, ?_, ?_, ?_, ?_,by simp[yS],Ab,W,fun i hi=>by rw[X i hi,LM i hi]⟩
   all_goals first|(simp only[qA,seval,I,J,K,U,GY,Fp,N];done)|skip
  ·right
   rw[if_pos (by simp[F])]at Ab
   generalize xs[k].ty (IA l n) scope=q at O F Ab
   obtain⟨Y,q2⟩:=q
   simp only at O F Ab
   simp only[qA,seval,j3,oa,I,J,K,GY,Fp,GZ,iX,jg,O,UX,m9.kept1,F]
   refine⟨_,_,UE,rfl,by rw[ho,Ab];rfl,fun e Z=> ?_,fun t ht=>(by rw[Ab]at ht;cases ht),by simp only[qA,seval,N],Pp,rfl,W,fun i hi=>by rw[X i hi,LM i hi]⟩
   rw[Ab]at Z
   cases Z
   exact⟨by simp only[qA,seval],by simp only[qA,seval]⟩
 ·rintro _ ⟨fr,V,ts,K2,rfl,I,J,K,U,GY,Fp,GZ,N,LL,yS,Ab,Oc,LM⟩
  rw[List.drop_length,sw,NR,List.append_nil]at Ab
  rw[Nat.sub_self,show repl [T.i .i64 0] 0= []from rfl,List.append_nil]at LL
  simp only[qA,seval,oa,Fp,GZ,Int.lt_irrefl]
  refine⟨_,_,uO,rfl,by rw[ho,Ab];rfl,fun e Z=>(by rw[Ab]at Z;cases Z),fun t ht=> ?_,N,K2,rfl,Oc,LM⟩
  grind
include mJ hlen
theorem akU(n:Nat)(Ki:n≤l.length)(hc: ∀j,j<n→akS l lT j)(scope:Int)(x:Ex):auG l lT n scope x:=by
 have _:=hlen
 have _:=mJ
 induction x using Ex.ind with
 |h x ih=>
  intro kn qn cs hx hn Bf
  obtain⟨a,cc,rfl,ha,KT⟩:=hx.cells
  rw[il afa (by simp[Dp]),Ex.ty_eq]
  have hnd:=x.nodes_eq
  rw[Ex.wf_eq,Bool.and_eq_true]at Bf
  obtain⟨xU,Kj⟩:=Bf
  have W:=KQ scope x.name
  have MI:=mn x.args
  have Cd:x.args.length≤qK:=oy (by omega)
  simp only[tU,Bool.and_eq_true,decide_eq_true_eq]at xU
  obtain⟨aBe,aBf,nq,_,_⟩:=xU
  by_cases O:x.op=6
  ·rw[if_pos O]
   unfold Ef at W
   by_cases U:l6 scope x.name=0
   ·rw[if_neg (by simp[U])]
    rw[if_pos U,U]at W
    have V:=lkS (jt l l.length) x.name
    rw[wh l x.name l.length (Nat.le_refl _),List.take_length]at V
    have Bz:IA l n x.name=match pd l x.name with|some i=>if i<n then wI l i else(0,6)|none=>(0,6):=by
     unfold IA clk
     rw[Bg]
     cases hi:pd l x.name with
     |none=>rfl
     |some i=>
      simp only
      by_cases Y:i<n
      ·rw[if_pos Y,if_pos Y];exact EY l Ki Y
      ·grind
    rw[Bz]
    cases hi:pd l x.name with
    |none=>
     rw[hi]at V
     unfold TD at V
     simp only[qA,seval,Dp,O,W,UI,ch2,ch0,jF,V]
     grind
    |some i=>
     rw[hi]at V
     rw[show TD (some i)= .tup [.i .i64 (i:Int),.b true]from rfl]at V
     by_cases Y:i<n
     ·obtain⟨r,im,oJ,adD⟩:=hc i Y kn qn
      have Z:(i:Int)<n:=by omega
      simp only[Y,if_true]
      simp only[qA,seval,j3,Dp,O,W,UI,ch2,ch0,jF,V,Z,im,aqq]
      grind
     ·have Z: ¬(i:Int)<n:=by omega
      simp only[Y,if_false]
      simp only[qA,seval,Dp,O,W,UI,ch2,ch0,jF,V,Z]
      grind
   ·rw[if_pos U]
    rw[if_neg U]at W
    simp only[qA,seval,Dp,O,W,UI]
    grind
  ·rw[if_neg O]
   have hL:=fun c7 fr lh sh F H I J K GY Fp GZ LL N=>aBd l lT cl hl n scope x.args (fun y hy=>ih y hy) a cc ha KT (by omega) Kj kn qn _ rfl _ rfl 1 c7 fr lh sh F H I J K GY Fp GZ LL N
   have hmk:x.args.length*8≤roomy∧x.args.length≤roomy:=by unfold qK at Cd;unfold roomy;omega
   have hS:=fun c7 fr lh sh F H I J K GY Fp GZ LL N=>(hL c7 fr lh sh F H I J K GY Fp GZ LL N).2.2.2.2
   cases hr:sw (IA l n) scope x.args with
   |error e=>
    have D:=fun c7 fr lh sh F H I J K GY Fp GZ LL N=>And.intro (hL c7 fr lh sh F H I J K GY Fp GZ LL N).1 ((hL c7 fr lh sh F H I J K GY Fp GZ LL N).2.1 e hr)
    simp only[hr,aj1]at D
    simp only[qA,seval,Dp,O,ha.lenI,hmk,D]
    generalize hX:oH _ _ _ _ _ _=X
    obtain⟨r,e1,e2,e3⟩: ∃r,X=xW lT (jt l l.length) r∧zU l r∧ ∀i,n≤i→iJ r i=iJ kn i:=by
     rw[←hX]
     refine hS _ _ _ _ rfl ?_ ?_ ?_ ?_ ?_ ?_ ?_ ?_ rfl <;> simp only[qA,seval]
    grind
   |ok ts=>
    have Qm:=CQ hr
    have D:=fun c7 fr lh sh F H I J K GY Fp GZ LL N=>And.intro (hL c7 fr lh sh F H I J K GY Fp GZ LL N).1 (hL c7 fr lh sh F H I J K GY Fp GZ LL N).2.2.2.1
    have hF:=fun c7 fr lh sh F H I J K GY Fp GZ LL N=>(hL c7 fr lh sh F H I J K GY Fp GZ LL N).2.2.1 ts hr
    have rj:(ints ts).length=x.args.length:=by rw[kO,Qm]
    have hit:List.take x.args.length (ints ts)=ints ts:=List.take_of_length_le (by omega)
    simp only[hr,aj1]at D
    have FB:=NQ x.op ts (.sl (ints ts) x.args.length false) (Or.inr ⟨false,by rw[Qm]⟩) (by rw[Qm];exact Cd) aBe aBf O (by rw[Qm];exact nq)
    by_cases U:tV x.op ts=0
    ·rw[U]at FB
     simp only[qA,seval,Dp,Ga,O,ha.lenI,hmk,D ⟨1,.cells [.i .i64 x.op,.i .i64 x.num,.s x.name,a] 0 true⟩,hF ⟨1,.cells [.i .i64 x.op,.i .i64 x.num,.s x.name,a] 0 true⟩,FB,afq,U,rj,hit]
     generalize hX:oH _ _ _ _ _ _=X
     obtain⟨r,e1,e2,e3⟩: ∃r,X=xW lT (jt l l.length) r∧zU l r∧ ∀i,n≤i→iJ r i=iJ kn i:=by
      rw[←hX]
      refine hS _ _ _ _ rfl ?_ ?_ ?_ ?_ ?_ ?_ ?_ ?_ rfl <;> simp only[qA,seval]
     grind
    ·simp only[qA,seval,Dp,Ga,O,ha.lenI,hmk,D ⟨1,.cells [.i .i64 x.op,.i .i64 x.num,.s x.name,a] 0 true⟩,hF ⟨1,.cells [.i .i64 x.op,.i .i64 x.num,.s x.name,a] 0 true⟩,FB,afq,U,rj,hit]
     generalize hX:oH _ _ _ _ _ _=X
     obtain⟨r,e1,e2,e3⟩: ∃r,X=xW lT (jt l l.length) r∧zU l r∧ ∀i,n≤i→iJ r i=iJ kn i:=by
      rw[←hX]
      refine hS _ _ _ _ rfl ?_ ?_ ?_ ?_ ?_ ?_ ?_ ?_ rfl <;> simp only[qA,seval]
     grind
end
theorem oz{x:Ex}(i:jy x=0):x.wf=true:=by
 unfold jy at i
 by_cases B4:big x
 ·rw[if_pos B4]at i;cases i
 ·rw[if_neg B4]at i
  cases hx:x.wf with
  |true=>rfl
  |false=>rw[hx]at i;cases i
section
variable(l:Cs)(lT:T)(cl:List T)(hl:IsSl lT l.length cl)(mJ:mh l cl)(hlen:l.length≤qK)(wu:smC l)
include hl mJ hlen
def SX(n:Nat)(scope:Int)(x:Ex):Int×Int:=if jy x≠0 then(0,jy x)else x.ty (IA l n) scope
theorem YT(n:Nat)(Ki:n≤l.length)(hc: ∀j,j<n→akS l lT j)(scope:Int)(x:Ex)(cs:List T)(hx:mY x cs)(J:0≤x.nodes)(hs:x.sm)(kn:List (Nat×Int))(I:zU l kn):
  ∃F,be pE 146 [.ptr .S 2 1 0,.i .i64 scope,.i .i64 (n:Int),.agg cs] (xW lT (jt l l.length) kn)=some (.tup [.i .i64 (SX l n scope x).1,.i .i64 (SX l n scope x).2],xW lT (jt l l.length) F)∧zU l F∧ ∀i,n≤i→iJ F i=iJ kn i:=by
 have r:=fun z fr lh sh=>tf (z:=z) (fr:=fr) (lh:=lh) (sh:=sh) x cs hx J hs
 have H:=fun h=>akU l lT cl hl mJ hlen n Ki hc scope x kn I cs hx h
 obtain⟨a,V,rfl,K,KT⟩:=hx.cells
 rw[il aeM (by simp[QV])]
 unfold SX
 by_cases D:jy x=0
 ·rw[if_neg (by simp[D])]
  obtain⟨F,N,O,U⟩:=H (by have:=Yx D;omega) (oz D)
  rw[D]at r
  simp only[qA,seval,j3,QV,r,N,UX,K.kept1]
  exact⟨F,rfl,O,U⟩
 ·rw[if_pos D]
  generalize jy x=e at r D ⊢
  simp only[qA,seval,QV,r,D]
  exact⟨kn,rfl,I,fun _ _=>rfl⟩
include wu
theorem YU: ∀j,j<l.length→akS l lT j:=by
 intro j
 induction j using Nat.strongRecOn with
 |ind j ih=>
  intro K kn U
  obtain⟨b,cb,r,W,X,sx,hb⟩:=oE hl mJ j K
  obtain⟨FW,V⟩:=wu l[j] (List.getElem_mem K)
  obtain⟨H,I,Y,F⟩:=YT l lT cl hl mJ hlen j (by omega) (fun i hi=>ih i hi (by omega)) 0 l[j].2 _ hb FW V kn U
  have FE:wI l j=SX l j 0 l[j].2:=by rw[Ql l K];rfl
  rw[←FE]at I
  have D:(wI l j).2≠0→(wI l j).1=0:=by
   unfold wI
   rw[List.getD_eq_getElem?_getD,List.getElem?_eq_getElem (by rw[vw];exact K)]
   exact EZ l _ _ (List.getElem_mem _)
  have J:nI (.one .int) (kn.map fun p=>nK p.1) (kn.map fun p=>iV p.2) (.i .i64 (j:Int)) (.i .i64 0) true=_:=aiV (kT:=nK) (vT:=iV) adz (fun _=>rfl) kn j (.i .i64 0)
  rw[il aqp (by simp[c91])]
  cases N:iJ kn j with
  |some t=>
   obtain⟨_,ht⟩:=U j t N
   rw[N]at J
   simp only[show iV t= .i .i64 t from rfl]at J
   rw[ht]
   simp only[qA,seval,c91,ch2,ch1,jF,J]
   exact⟨kn,rfl,U,fun _ _=>rfl⟩
  |none=>
   rw[N]at J
   generalize he:wI l j=q at I D ⊢
   obtain⟨Z,q2⟩:=q
   simp only at I D ⊢
   by_cases O:q2=0
   ·subst O
    have xU:iJ H j=none:=by rw[F j (Nat.le_refl _),N]
    have oj:qN (.one .int) (.i .i64 (j:Int)) (.i .i64 Z) (H.map fun p=>nK p.1) (H.map fun p=>iV p.2)=_:=zq (kT:=nK) (vT:=iV) adz H j Z xU
    simp only[qA,seval,j3,c91,ch2,ch1,jF,J,W,X.kept1,I,JZ,afS,oj,aBb]
    refine⟨_,rfl, ?_, ?_⟩
    ·intro i t hi
     rw[qI]at hi
     cases Cu:iJ H i with
     |some u=>rw[Cu]at hi;cases hi;exact Y i _ Cu
     |none=>
      rw[Cu]at hi
      simp only at hi
      split at hi
      ·rename_i e;subst e;cases hi;exact⟨K,he⟩
      ·cases hi
    ·intro i hi
     rw[qI,F i (by omega)]
     cases iJ kn i with
     |some u=>rfl
     |none=>simp only;rw[if_neg (by omega)]
   ·rw[D O]
    rw[D O]at I
    simp only[qA,seval,j3,c91,ch2,ch1,jF,J,W,X.kept1,I,JZ,O]
    exact⟨H,rfl,Y,fun i hi=>F i (by omega)⟩
end
def bd(n:Int):Prop:= -1099511627776≤n∧n≤1099511627776
theorem ti{x y:Bool}:uP (.one .bool) (.b x) (.b y)=some (x==y):=rfl
theorem wi(n:Int):bd (jD n):=by unfold bd jD;omega
theorem SY{n:Int}(h:bd n):jD n=n:=by unfold bd at h;unfold jD;omega
theorem SZ(n:Int):(if(if n<1099511627776 then n else(1099511627776:Int))> -1099511627776 then(if n<1099511627776 then n else(1099511627776:Int))else-1099511627776)=jD n:=by
 unfold jD;split <;> split <;> omega
theorem Bl(n:Int):be pE 109 [.i .i64 n] []=some (.i .i64 (jD n),[]):=by
 rw[il aeh (by simp[T2]),←SZ]
 simp only[qA,seval,T2]
theorem akX{a b:Int}(i:bd a)(r:bd b):wr .i64 (a+b)=a+b:=by unfold bd at *; exact js ⟨by omega,by omega⟩
theorem YV{a:Int}(i:bd a):wr .i64 (0-a)= -a:=by unfold bd at *; rw[js ⟨by omega,by omega⟩];omega
theorem IB{a:Int}(i:bd a):bd (-a):=by unfold bd at *; omega
theorem IC{a b:Int}(I:bd a)(J:bd b):be pE 112 [.i .i64 a,.i .i64 b] []=some (.i .i64 (jD (a+b)),[]):=by
 have D:=akX I J
 have hc:=Bl (a+b)
 clear I J
 rw[il aei (by simp[JO])]
 by_cases F:0≤a
 ·have DM: ¬a<0:=by omega
  by_cases r:0≤b
  ·have H: ¬a+b<0:=by omega
   simp only[qA,seval,JO,D,hc,JV,F,DM,r,H]
  ·simp only[qA,seval,JO,D,hc,JV,F,DM,r]
 ·have DM:a<0:=by omega
  by_cases r:b<0
  ·have H: ¬0≤a+b:=by omega
   simp only[qA,seval,JO,D,hc,JV,F,DM,r,H]
  ·simp only[qA,seval,JO,D,hc,JV,F,DM,r]
theorem akY{a:Int}(h:bd a)(i: ¬a<0):wr .u64 a=(a.natAbs:Int):=by unfold bd at h;rw[wR ⟨by omega,by omega⟩];omega
theorem auJ(n:Int):IntKind.wrap .u64 n=n%18446744073709551616:=by
 unfold IntKind.wrap
 have i:(IntKind.u64).bits=64:=rfl
 simp only[i]
 rw[if_neg (by simp[IntKind.signed])]
 rfl
theorem ID(n:Int):wr .u64 n=n%18446744073709551616:=by
 show(if(0:Int)≤n∧n≤18446744073709551615 then n else IntKind.wrap .u64 n)=_
 rw[auJ]
 split <;> omega
theorem adG{a:Int}(h:bd a)(i:a<0):wr .u64 (0-wr .u64 a)=(a.natAbs:Int):=by
 unfold bd at h
 rw[ID,ID];omega
theorem Qn{a:Int}(h:bd a):be pE 200 [.i .i64 a] []=some (.i .u64 (a.natAbs:Int),[]):=by
 rw[il afc (by simp[Q4])]
 by_cases r:a<0
 ·have D:=adG h r
  simp only[qA,seval,Q4,r,D]
 ·have D:=akY h r
  simp only[qA,seval,Q4,r,D]
theorem auK(P Q R S:Int)(i:0≤P)(r:0≤Q)(D:0≤R)(F:0≤S):
  S+(Q+P/4294967296)/4294967296+((Q+P/4294967296)%4294967296+R)/4294967296=(S*18446744073709551616+(Q+R)*4294967296+P)/18446744073709551616:=by
 omega
theorem IE{a b A B:Int}(r:0≤a)(i:0≤b)(D:a≤A)(F:b≤B):0≤a*b∧a*b≤A*B:=
 ⟨Int.mul_nonneg r i,Int.mul_le_mul D F i (by omega)⟩
theorem YW(X Y:Nat)(hX:X≤1099511627776)(hY:Y≤1099511627776):be pE 199 [.i .u64 (X:Int),.i .u64 (Y:Int)] []=some (.tup [.i .u64 ((X:Int)*Y/18446744073709551616),.i .u64 ((X:Int)*Y%18446744073709551616)],[]):=by
 obtain⟨x1,DG⟩: ∃x1,x1=(X:Int)/4294967296:=⟨_,rfl⟩
 obtain⟨x0,ZK⟩: ∃x0,x0=(X:Int)%4294967296:=⟨_,rfl⟩
 obtain⟨r,OO⟩: ∃r,r=(Y:Int)/4294967296:=⟨_,rfl⟩
 obtain⟨D,W⟩: ∃D,D=(Y:Int)%4294967296:=⟨_,rfl⟩
 have hX':(X:Int)=x1*4294967296+x0:=by omega
 have hY':(Y:Int)=r*4294967296+D:=by omega
 have F:0≤x1∧x1≤256:=by omega
 have H:0≤x0∧x0≤4294967295:=by omega
 have I:0≤r∧r≤256:=by omega
 have J:0≤D∧D≤4294967295:=by omega
 have IU:(X:Int)*Y=x1*r*18446744073709551616+(x1*D+x0*r)*4294967296+x0*D:=by
  grind
 have N:=IE H.1 J.1 H.2 J.2
 have O:=IE F.1 J.1 F.2 J.2
 have U:=IE H.1 I.1 H.2 I.2
 have V:=IE F.1 I.1 F.2 I.2
 have w0:wr .u64 (x0*D)=x0*D:=wR ⟨N.1,Int.le_trans N.2 (by decide)⟩
 have w1:wr .u64 (x1*D)=x1*D:=wR ⟨O.1,Int.le_trans O.2 (by decide)⟩
 have w2:wr .u64 (x0*r)=x0*r:=wR ⟨U.1,Int.le_trans U.2 (by decide)⟩
 have w3:wr .u64 (x1*r)=x1*r:=wR ⟨V.1,Int.le_trans V.2 (by decide)⟩
 have K:=auK (x0*D) (x1*D) (x0*r) (x1*r) N.1 O.1 U.1 V.1
 rw[←IU]at K
 have Z:=ID ((X:Int)*Y)
 rw[il afb (by simp[Uw]),←K]
 generalize hP:x0*D=P at N w0
 generalize hQ:x1*D=Q at O w1
 generalize hR:x0*r=R at U w2
 generalize hS:x1*r=S at V w3
 have w4:wr .u64 (Q+P/4294967296)=Q+P/4294967296:=wR ⟨by omega,by omega⟩
 have w5:wr .u64 ((Q+P/4294967296)%4294967296+R)=(Q+P/4294967296)%4294967296+R:=wR ⟨by omega,by omega⟩
 have w6:wr .u64 (S+(Q+P/4294967296)/4294967296)=S+(Q+P/4294967296)/4294967296:=wR ⟨by omega,by omega⟩
 have w7:wr .u64 (S+(Q+P/4294967296)/4294967296+((Q+P/4294967296)%4294967296+R)/4294967296)=S+(Q+P/4294967296)/4294967296+((Q+P/4294967296)%4294967296+R)/4294967296:=wR ⟨by omega,by omega⟩
 simp only[qA,seval,Uw,acq,acr,←ZK,←DG,←W,←OO,hP,hQ,hR,hS,w0,w1,w2,w3,w4,w5,w6,w7,Z]
theorem Od{a:Int}(h:bd a):a.natAbs≤1099511627776:=by grind [bd]
theorem adH(a b:Int):(a.natAbs:Int)*(b.natAbs:Int)=((a*b).natAbs:Int):=by rw[Int.natAbs_mul];omega
theorem YX{a b:Int}(h:(a<0∧ ¬b<0)∨(¬a<0∧b<0)):a*b≤0:=by
 rcases h with⟨h1,h2⟩|⟨h1,h2⟩
 ·exact Int.mul_nonpos_of_nonpos_of_nonneg (by omega) (by omega)
 ·exact Int.mul_nonpos_of_nonneg_of_nonpos (by omega) (by omega)
theorem S0{a b:Int}(h:(a<0∧b<0)∨(¬a<0∧ ¬b<0)):0≤a*b:=by
 rcases h with⟨h1,h2⟩|⟨h1,h2⟩
 ·exact Int.mul_nonneg_of_nonpos_of_nonpos (by omega) (by omega)
 ·simp_all[Int.mul_nonneg]
theorem Qo{a b:Int}(W:bd a)(X:bd b):be pE 162 [.i .i64 a,.i .i64 b] []=some (.i .i64 (jD (a*b)),[]):=by
 have I:=Qn W
 have J:=Qn X
 have F:=YW a.natAbs b.natAbs (Od W) (Od X)
 rw[adH]at F
 have hs:= @YX a b
 have O:= @S0 a b
 rw[il aeN (by simp[wk])]
 generalize hx:a*b=x at*
 generalize Y:(x.natAbs:Int)/18446744073709551616=q1 at F
 generalize Z:(x.natAbs:Int)%18446744073709551616=q2 at F
 have N:(if q1≠0 then(1099511627776:Int)else if 1099511627776<q2 then 1099511627776 else q2)=min (x.natAbs:Int) 1099511627776:=by
  grind
 by_cases H:q1=0
 ·by_cases K:(1099511627776:Int)<q2
  ·rw[if_neg (by simp[H]),if_pos K]at N
   by_cases D:a<0
   ·by_cases r:b<0
    ·have:=O (.inl ⟨D,r⟩)
     have e:jD x=1099511627776:=by unfold jD;omega
     simp only[qA,seval,wk,I,J,F,ur,uq,H,K,D,r,ti,e];rfl
    ·have:=hs (.inl ⟨D,r⟩)
     have e:jD x= -1099511627776:=by unfold jD;omega
     simp only[qA,seval,wk,I,J,F,ur,uq,H,K,D,r,ti,e];rfl
   ·by_cases r:b<0
    ·have:=hs (.inr ⟨D,r⟩)
     have e:jD x= -1099511627776:=by unfold jD;omega
     simp only[qA,seval,wk,I,J,F,ur,uq,H,K,D,r,ti,e];rfl
    ·have:=O (.inr ⟨D,r⟩)
     have e:jD x=1099511627776:=by unfold jD;omega
     simp only[qA,seval,wk,I,J,F,ur,uq,H,K,D,r,ti,e];rfl
  ·rw[if_neg (by simp[H]),if_neg K]at N
   have U:wr .i64 q2=q2:=js ⟨by omega,by omega⟩
   have V:wr .i64 (0-q2)= -q2:=by rw[js ⟨by omega,by omega⟩];omega
   by_cases D:a<0
   ·by_cases r:b<0
    ·have:=O (.inl ⟨D,r⟩)
     have e:jD x=q2:=by unfold jD;omega
     simp only[qA,seval,wk,I,J,F,ur,uq,H,K,D,r,ti,U,V,e];rfl
    ·have:=hs (.inl ⟨D,r⟩)
     have e:jD x= -q2:=by unfold jD;omega
     simp only[qA,seval,wk,I,J,F,ur,uq,H,K,D,r,ti,U,V,e];rfl
   ·by_cases r:b<0
    ·have:=hs (.inr ⟨D,r⟩)
     have e:jD x= -q2:=by unfold jD;omega
     simp only[qA,seval,wk,I,J,F,ur,uq,H,K,D,r,ti,U,V,e];rfl
    ·have:=O (.inr ⟨D,r⟩)
     have e:jD x=q2:=by unfold jD;omega
     simp only[qA,seval,wk,I,J,F,ur,uq,H,K,D,r,ti,U,V,e];rfl
 ·rw[if_pos H]at N
  by_cases D:a<0
  ·by_cases r:b<0
   ·have:=O (.inl ⟨D,r⟩)
    have e:jD x=1099511627776:=by unfold jD;omega
    simp only[qA,seval,wk,I,J,F,ur,uq,H,D,r,ti,e];rfl
   ·have:=hs (.inl ⟨D,r⟩)
    have e:jD x= -1099511627776:=by unfold jD;omega
    simp only[qA,seval,wk,I,J,F,ur,uq,H,D,r,ti,e];rfl
  ·by_cases r:b<0
   ·have:=hs (.inr ⟨D,r⟩)
    have e:jD x= -1099511627776:=by unfold jD;omega
    simp only[qA,seval,wk,I,J,F,ur,uq,H,D,r,ti,e];rfl
   ·have:=O (.inr ⟨D,r⟩)
    have e:jD x=1099511627776:=by unfold jD;omega
    simp only[qA,seval,wk,I,J,F,ur,uq,H,D,r,ti,e];rfl
theorem YY{a b:Int}(h:b≠0):Ev.bin .quo (.i .i64 a) (.i .i64 b)=some (.i .i64 (wr .i64 (a.tdiv b))):=by
 simp only[Ev.bin,if_true,sE,if_neg h]
theorem YZ{a b:Int}(h:b≠0):Ev.bin .rem (.i .i64 a) (.i .i64 b)=some (.i .i64 (a.tmod b)):=by
 simp only[Ev.bin,if_true,sE,if_neg h]
theorem bq5:((true==true) != true)=false:=nr rfl
theorem bq6:((false==false) != true)=false:=nr rfl
theorem bq7:((true==false) != true)=true:=nr rfl
theorem bq8:((false==true) != true)=true:=nr rfl
theorem adI:bd (-1):=by unfold bd;omega
theorem adJ{a b:Int}(H:bd a)(U:bd b):be pE 163 [.i .i64 a,.i .i64 b] []=some (.i .i64 (Xe a b),[]):=by
 have J:=Qo H adI
 rw[il aeP (by simp[Mv])]
 unfold Xe
 by_cases D:b=0
 ·subst D
  simp only[qA,seval,Mv]
 rw[if_neg D]
 by_cases I:b= -1
 ·subst I
  have e:a.fdiv (-1)=a* -1:=by
   have:=Int.fdiv_neg (a:=a) (b:=1) (by decide)
   rw[if_pos (Int.one_dvd a),Int.fdiv_one]at this
   rw[this];omega
  rw[e]
  simp only[qA,seval,Mv,J,aeO]
 have V:= @Int.fdiv_eq_tdiv a b
 have W:= @Int.dvd_iff_tmod_eq_zero b a
 have K:=Int.natAbs_tdiv_le_natAbs a b
 have N:=Od H
 have F:Ev.bin .quo (.i .i64 a) (.i .i64 b)=some (.i .i64 (a.tdiv b)):=by
  rw[YY D,js ⟨by omega,by omega⟩]
 have B1:=YZ (a:=a) D
 have G5:=Bl (a.tdiv b)
 have FY:=Bl (a.tdiv b-1)
 have O:wr .i64 (a.tdiv b-1)=a.tdiv b-1:=js ⟨by omega,by omega⟩
 generalize a.tdiv b=q at*
 generalize a.tmod b=r at*
 have X:b<0→b.sign= -1:=Int.sign_eq_neg_one_of_neg
 have Y:0<b→b.sign=1:=Int.sign_eq_one_of_pos
 simp only[qB,seval,Mv,D,I,F,B1,G5,FY,JV,ti,bq5,bq6,bq7,bq8,O]
 clear G5 FY F B1
 grind (splits:=30)
theorem adL(a b:Int):bd (Xe a b):=by
 unfold Xe
 split
 ·unfold bd;omega
 ·exact wi _
end Go.Proofs.YtcpceiclnbmgiaaGreat
