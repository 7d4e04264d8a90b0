/- Walks of functions of the program and of the reference, and their plain laws, part 3. Conditions: the theorems' own. -/
import Derived.Test.YtcpceiclnbmgiaaGreatM2
import Derived.KernelRfl
set_option maxRecDepth 100000
set_option linter.unusedSimpArgs false
set_option linter.unusedVariables false
set_option maxHeartbeats 16000000
namespace Go.Proofs.YtcpceiclnbmgiaaGreat
open Go Go.Ev
theorem u9(l:Cs): ∀n,(pL l n).length=n
 |0=>rfl
 |n+1=>by rw[pL,List.length_append,u9 l n];rfl
theorem SE(l:Cs){n:Nat}(h:n<l.length):pL l (n+1)=pL l n++ [MR (l.take n) (pL l n) l[n].2]:=by
 rw[pL];simp[List.getD_eq_getElem?_getD,List.getElem?_eq_getElem h]
def smC(l:Cs):Prop:= ∀c∈l,0≤c.2.nodes∧c.2.sm
theorem Yv(a:List Int)(x:Int):ints (a++ [x])=ints a++ [.i .i64 x]:=by simp[ints]
section
variable(l:Cs)(lT:T)(cl:List T)(hl:IsSl lT l.length cl)(mG:mf l cl)(hlen:l.length≤qz)(v9:smC l)
include hl mG hlen v9
end
theorem EG{α:Type}: ∀(A R:List α) (j:Nat) (i:List α),splice (A++R) (A.length+j) i=A++splice R j i
 | [],R,j,i=>by simp
 |a::A,R,j,i=>by
  rw[List.cons_append,List.length_cons,show A.length+1+j=(A.length+j)+1 by omega,splice,EG A R j i];rfl
theorem BM{α:Type}: ∀(z R i:List α),i.length=z.length→splice (z++R) 0 i=i++R
 | [],R,[],_=>by cases R <;> rfl
 |c::z,R,v::i,h=>by simp_all[List.cons_append,splice,BM]
theorem EH{α:Type}(A z R i:List α)(k:Nat)(hk:A.length=k)(h:i.length=z.length):splice (A++(z++R)) k i=(A++i)++R:=by
 have:=EG A (z++R) 0 i
 simp_all[Nat.add_zero,BM,List.append_assoc]
theorem A7{α:Type}(z:List α)(n:Nat):repl z (n+1)=z++repl z n:=rfl
theorem EI{α:Type}(z:List α): ∀n,(repl z n).length=n*z.length
 |0=>by simp[repl]
 |n+1=>by rw[A7,List.length_append,EI z n,Nat.succ_mul,Nat.add_comm]
def js(l:Cs):Nat→List (List Nat×Nat)
 |0=> []
 |n+1=>match iJ (js l n) (l.getD n ([],.mk 0 0 [] [])).1 with
  |none=>js l n++ [((l.getD n ([],.mk 0 0 [] [])).1,n)]
  |some _=>js l n
theorem A8(l:Cs){n:Nat}(h:n<l.length):js l (n+1)=match iJ (js l n) l[n].1 with
  |none=>js l n++ [(l[n].1,n)]
  |some _=>js l n:=by
 rw[js];simp[List.getD_eq_getElem?_getD,List.getElem?_eq_getElem h]
theorem GZ(s:List Nat)(c:List Nat×Ex): ∀l:Cs,oX (l++ [c]) s=match oX l s with|some i=>some i|none=>if c.1=s then some l.length else none
 | []=>by simp[oX]
 |d::l=>by
  rw[List.cons_append,oX,oX,GZ s c l]
  grind
theorem vU(l:Cs)(s:List Nat): ∀n,n≤l.length→iJ (js l n) s=oX (l.take n) s
 |0,_=>by simp[js,iJ,oX]
 |n+1,h=>by
  have i:n<l.length:=by omega
  rw[A8 l i,List.take_succ_eq_append_getElem i,GZ]
  have ih:=vU l s n (by omega)
  have r:=vU l l[n].1 n (by omega)
  grind [qx,List.length_take,Nat.min_eq_left,hi]
def sK(s:List Nat):T:= .s s
def nK(n:Nat):T:= .i .i64 (n:Int)
def iV(n:Int):T:= .i .i64 n
theorem FD(a b:List Nat):vz (.one .str) (sK a) (sK b)=some (decide (a=b)):=asn
theorem adi(a b:Nat):vz (.one .int) (nK a) (nK b)=some (decide (a=b)):=by
 grind [nK,aso]
def xR(lT:T)(m:List (List Nat×Nat))(kn:List (Nat×Int)):List b8:=
 [⟨1,.map (m.map fun p=>sK p.1) (m.map fun p=>nK p.2) false⟩,⟨1,.map (kn.map fun p=>nK p.1) (kn.map fun p=>iV p.2) false⟩,⟨1,.cells [lT,.mp .S 0 1,.mp .S 1 1] 0 true⟩]
section
variable(lT:T)(m:List (List Nat×Nat))(kn:List (Nat×Int))
theorem ch0:iz (xR lT m kn) 0=⟨1,.map (m.map fun p=>sK p.1) (m.map fun p=>nK p.2) false⟩:=nr rfl
theorem ch1:iz (xR lT m kn) 1=⟨1,.map (kn.map fun p=>nK p.1) (kn.map fun p=>iV p.2) false⟩:=nr rfl
theorem ch2:iz (xR lT m kn) 2=⟨1,.cells [lT,.mp .S 0 1,.mp .S 1 1] 0 true⟩:=nr rfl
theorem aAI(i:List (List Nat×Nat)):iH (xR lT m kn) 0 ⟨1,.map (i.map fun p=>sK p.1) (i.map fun p=>nK p.2) false⟩=xR lT i kn:=nr rfl
theorem aAJ(i:List (Nat×Int)):iH (xR lT m kn) 1 ⟨1,.map (i.map fun p=>nK p.1) (i.map fun p=>iV p.2) false⟩=xR lT m i:=nr rfl
theorem aul:xR lT [] []= [⟨1,.map [] [] false⟩,⟨1,.map [] [] false⟩,⟨1,.cells [lT,.mp .S 0 1,.mp .S 1 1] 0 true⟩]:=nr rfl
end
def Te(r:Option Nat):T:=match r with|some v=> .tup [nK v,.b true]|none=> .tup [.i .i64 0,.b false]
theorem lkS(m:List (List Nat×Nat))(s:List Nat):nz (.one .str) (m.map fun p=>sK p.1) (m.map fun p=>nK p.2) (.s s) (.i .i64 0) true=some (Te (iJ m s)):=by
 have:=ais (kT:=sK) (vT:=nK) FD (fun _=>rfl) m s (.i .i64 0)
 rw[show(T.s s)=sK s from rfl,this];unfold Te;cases iJ m s <;> rfl
section
variable(l:Cs)(lT:T)(cl:List T)(hl:IsSl lT l.length cl)(mG:mf l cl)(hlen:l.length≤qz)
include hl mG hlen
theorem aAK(fr:Fr)(lh:iw b8)(sh:List b8)(W:sh=xR lT [] [])
  (F:an fr 3= .ptr .S 2 1 0) (H:an fr 13=lT) (D:an fr 14= .i .i64 (l.length:Int)) (I:an fr 15= .i .i64 0):
  wJ 41 wY fr lh sh (.ext 0)∧
  (ow pE 41 wY fr lh sh=xR lT (js l l.length) []):=by
 refine jH (P:=fun Z iU X=>X=xR lT (js l l.length) [])
  (j6 (fun k st=> ∃(fr:Fr) (K:iw b8),st=⟨fr,K,xR lT (js l k) []⟩∧an fr 3= .ptr .S 2 1 0∧an fr 13=lT∧an fr 14= .i .i64 (l.length:Int)∧an fr 15= .i .i64 (k:Int)) _ l.length ?_ ?_ 0 _ (Nat.zero_le _) ⟨fr,lh,by rw[W];rfl,F,H,D,I⟩)
 ·rintro k _ hk ⟨fr,K,rfl,F,H,D,I⟩
  left
  have O:(k:Int)<l.length:=by omega
  have U:=ji (k:=k) (by omega)
  obtain⟨b,cb,r,V,mZ,sg,hb⟩:=ot hl mG k hk
  have J:=lkS (js l k) l[k].1
  rw[A8 l hk]
  cases N:iJ (js l k) l[k].1 with
  |some i=>
   rw[N]at J
   unfold Te at J
   simp only[qA,seval,jG,iE,j2,wY,F,H,D,I,O,V,U,ch2,ch0,jF,J]
   refine⟨_,rfl,_,_,rfl, ?_, ?_, ?_, ?_⟩ <;> simp only[qA,seval,F,H,D]
  |none=>
   rw[N]at J
   unfold Te at J
   have Y:qE (.one .str) (.s l[k].1) (.i .i64 (k:Int)) ((js l k).map fun p=>sK p.1) ((js l k).map fun p=>nK p.2)=_:=y9 (kT:=sK) (vT:=nK) FD (js l k) l[k].1 k N
   simp only[qA,seval,jG,iE,j2,wY,F,H,D,I,O,V,U,ch2,ch0,jF,J,BB,Y,aAI]
   refine⟨_,rfl,_,_,rfl, ?_, ?_, ?_, ?_⟩ <;> simp only[qA,seval,F,H,D]
 ·rintro _ ⟨fr,K,rfl,F,H,D,I⟩
  simp only[qA,seval,wY,D,I,Int.lt_irrefl]
  grind
theorem akm:be pE 89 [lT] []=some (.ptr .S 2 1 0,xR lT (js l l.length) []):=by
 have i:=fun fr lh sh=>aAK l lT cl hl mG hlen fr lh sh
 rw[aul]at i
 rw[il ap3 (by simp[c89])]
 simp only[qA,seval,jm,j2,c89,Ty,hl.lenI,hl.cells,hl.noTup,hl.kept1,i]
end
theorem Ls(l:Cs)(n:Nat): ∀k,∃r,pL l (n+k)=pL l n++r
 |0=>⟨[],by simp⟩
 |k+1=>by
  obtain⟨r,h⟩:=Ls l n k
  grind [Nat.add_assoc,pL]
theorem EJ(l:Cs){n i:Nat}(D:n≤l.length)(hi:i<n):(pL l n).getD i (0,6)=(pL l l.length).getD i (0,6):=by
 obtain⟨r,h⟩:=Ls l n (l.length-n)
 grind [u9,hi]
def wq(l:Cs)(i:Nat):Int×Int:=(pL l l.length).getD i (0,6)
theorem P1(l:Cs){i:Nat}(hi:i<l.length):wq l i=MR (l.take i) (pL l i) l[i].2:=by
 unfold wq
 rw[←EJ l (n:=i+1) (by omega) (by omega),SE l hi,List.getD_eq_getElem?_getD,List.getElem?_append_right (by rw[u9];omega),u9,Nat.sub_self]
 rfl
theorem akn{cl:List Nat→Int×Int}(mG: ∀s,(cl s).2≠0→(cl s).1=0)(scope:Int)(x:Ex)(h:(x.ty cl scope).2≠0):(x.ty cl scope).1=0:=by
 grind [Ex.ty_eq]
theorem adj(l:Cs)(IJ:List (Int×Int))(h: ∀t∈IJ,t.2≠0→t.1=0)(s:List Nat):(clk l IJ s).2≠0→(clk l IJ s).1=0:=by
 grind [clk]
theorem EL(l:Cs): ∀n,∀t∈pL l n,t.2≠0→t.1=0
 |0=>by simp[pL]
 |n+1=>by
  intro t ht
  rw[pL]at ht
  rcases List.mem_append.1 ht with ht|ht
  ·exact EL l n t ht
  ·rw[List.mem_singleton]at ht
   subst ht
   unfold MR
   split
   ·intro _;rfl
   ·exact akn (adj _ _ (EL l n)) _ _
section
variable(l:Cs)(lT:T)(cl:List T)(hl:IsSl lT l.length cl)(mG:mf l cl)(hlen:l.length≤qz)(v9:smC l)
def zK(kn:List (Nat×Int)):Prop:= ∀i t,iJ kn i=some t→i<l.length∧wq l i=(t,0)
def ako(j:Nat):Prop:= ∀kn,zK l kn→ ∃r,be pE 91 [.ptr .S 2 1 0,.i .i64 (j:Int)] (xR lT (js l l.length) kn)=some (.tup [.i .i64 (wq l j).1,.i .i64 (wq l j).2],xR lT (js l l.length) r)∧zK l r∧ ∀i,j<i→iJ r i=iJ kn i
def Ip(n:Nat):List Nat→Int×Int:=clk (l.take n) (pL l n)
def aun(n:Nat)(scope:Int)(y:Ex):Prop:= ∀kn,zK l kn→ ∀cs:List T,mU y cs→y.nodes≤100000→y.wf=true→ ∃r,be pE 184 [.ptr .S 2 1 0,.i .i64 scope,.i .i64 (n:Int),.agg cs] (xR lT (js l l.length) kn)=some (.tup [.i .i64 (y.ty (Ip l n) scope).1,.i .i64 (y.ty (Ip l n) scope).2],xR lT (js l l.length) r)∧zK l r∧ ∀i,n≤i→iJ r i=iJ kn i
include hl
theorem aAL(n:Nat)(scope:Int)(xs:List Ex)(ih: ∀y∈xs,aun l lT n scope y)(a:T)(cc:List T)(ha:IsSl a xs.length cc)(hx:ku xs cc)(hn:jP xs≤100000)(Cv:BV xs=true)(kn:List (Nat×Int))(qb:zK l kn)(r:Except Int (List Int))(hr:r=se (Ip l n) scope xs)(o:Out)(ho:o=ajx r)(g:Nat)(c7:b8)(fr:Fr)(lh:iw b8)(sh:List b8)(lQ:sh=xR lT (js l l.length) kn)
  (J:an fr 0= .ptr .S 2 1 0) (K:an fr 1= .i .i64 scope) (N:an fr 2= .i .i64 (n:Int)) (V:an fr 14= .isl .L 57 g 0 xs.length 1) (GR:an fr 59=a) (E9:an fr 60= .i .i64 (xs.length:Int)) (GS:an fr 61= .i .i64 0) (Lt:b7 lh 57=⟨g,.cells (repl [.i .i64 0] xs.length) 0 false⟩) (O:b7 lh 7=c7):
  wJ 89 nV fr lh sh o∧
  ((∀e,r= .error e→an (tD pE 89 nV fr lh sh) 8= .i .i64 0∧an (tD pE 89 nV fr lh sh) 9= .i .i64 e)∧(∀ts,r= .ok ts→b7 (nU pE 89 nV fr lh sh) 57=⟨g,.cells (ints ts) 0 false⟩)∧
    b7 (nU pE 89 nV fr lh sh) 7=c7∧ ∃I,ow pE 89 nV fr lh sh=xR lT (js l l.length) I∧zK l I∧ ∀i,n≤i→iJ I i=iJ kn i):=by
 have _:=hl
 refine jH (P:=fun jN iU iX=>(∀e,r= .error e→an jN 8= .i .i64 0∧an jN 9= .i .i64 e)∧(∀ts,r= .ok ts→b7 iU 57=⟨g,.cells (ints ts) 0 false⟩)∧b7 iU 7=c7∧ ∃I,iX=xR lT (js l l.length) I∧zK l I∧ ∀i,n≤i→iJ I i=iJ kn i)
  (j6 (fun k st=> ∃(fr:Fr) (W:iw b8) (ts:List Int) (KO:List (Nat×Int)),st=⟨fr,W,xR lT (js l l.length) KO⟩∧an fr 0= .ptr .S 2 1 0∧an fr 1= .i .i64 scope∧an fr 2= .i .i64 (n:Int)∧an fr 14= .isl .L 57 g 0 xs.length 1∧an fr 59=a∧an fr 60= .i .i64 (xs.length:Int)∧an fr 61= .i .i64 (k:Int)∧b7 W 7=c7∧
    b7 W 57=⟨g,.cells (ints ts++repl [.i .i64 0] (xs.length-k)) 0 false⟩∧ts.length=k∧r=Nt ts (se (Ip l n) scope (xs.drop k))∧zK l KO∧ ∀i,n≤i→iJ KO i=iJ kn i) _ xs.length ?_ ?_ 0 _ (Nat.zero_le _) ⟨fr,lh,[],kn,by rw[lQ],J,K,N,V,GR,E9,GS,O,by rw[Lt];rfl,rfl,by rw[hr,List.drop_zero];cases se (Ip l n) scope xs <;> rfl,qb,fun _ _=>rfl⟩)
 ·rintro k _ F ⟨fr,W,ts,KO,rfl,J,K,N,V,GR,E9,GS,O,Lt,yK,D,NJ,Lu⟩
  have iW:(k:Int)<xs.length:=by omega
  have OI:=mi xs
  have hyk:=oV (List.getElem_mem F)
  have hw:=ji (k:=k) (oi (by omega))
  obtain⟨b,cb,rr,je,mZ,sg,hb⟩:=rY ha hx k F
  obtain⟨O4,U,X,Y⟩:=ih xs[k] (List.getElem_mem F) KO NJ _ hb (by omega) (HL.1 Cv _ (List.getElem_mem F))
  rw[Ye F]at D
  by_cases H:(xs[k].ty (Ip l n) scope).2=0
  ·left
   rw[if_neg (by simp[H]),Sy]at D
   generalize xs[k].ty (Ip l n) scope=q at U H D
   obtain⟨Z,q2⟩:=q
   simp only at U H D
   subst H
   have IE:(ints ts++repl [T.i .i64 0] (xs.length-k)).length=xs.length:=by rw[List.length_append,kO,EI,yK];simp;omega
   have hsp:splice (ints ts++repl [T.i .i64 0] (xs.length-k)) k [.i .i64 Z]=ints (ts++ [Z])++repl [T.i .i64 0] (xs.length-(k+1)):=by
    rw[show xs.length-k=(xs.length-(k+1))+1 by omega,A7,EH (ints ts) [T.i .i64 0] _ [T.i .i64 Z] k (by rw[kO];exact yK) rfl,Yv]
   have akp:k+1≤xs.length:=by omega
   simp only[qA,seval,j2,nV,J,K,N,V,GR,E9,GS,Lt,iW,je,hw,U,Uw,mZ.kept1,F,IE,hsp,akp]
   refine⟨_,rfl,_,_,ts++ [Z],O4,rfl, ?_, ?_, ?_, ?_, ?_, ?_, ?_, ?_, ?_,by simp[yK],D,X,fun i hi=>by rw[Y i hi,Lu i hi]⟩
   all_goals first|(simp only[qA,seval,J,K,N,V,GR,E9,O];done)|skip
  ·right
   rw[if_pos (by simp[H])]at D
   generalize xs[k].ty (Ip l n) scope=q at U H D
   obtain⟨Z,q2⟩:=q
   simp only at U H D
   simp only[qA,seval,j2,nV,J,K,N,GR,E9,GS,iW,je,U,Uw,mZ.kept1,H]
   refine⟨_,_,Ud,rfl,by rw[ho,D];rfl,fun e he=> ?_,fun t ht=>(by rw[D]at ht;cases ht),by simp only[qA,seval,O],O4,rfl,X,fun i hi=>by rw[Y i hi,Lu i hi]⟩
   rw[D]at he
   cases he
   exact⟨by simp only[qA,seval],by simp only[qA,seval]⟩
 ·rintro _ ⟨fr,W,ts,KO,rfl,J,K,N,V,GR,E9,GS,O,Lt,yK,D,NJ,Lu⟩
  rw[List.drop_length,se,Nt,List.append_nil]at D
  rw[Nat.sub_self,show repl [T.i .i64 0] 0= []from rfl,List.append_nil]at Lt
  simp only[qA,seval,nV,E9,GS,Int.lt_irrefl]
  refine⟨_,_,uC,rfl,by rw[ho,D];rfl,fun e he=>(by rw[D]at he;cases he),fun t ht=> ?_,O,KO,rfl,NJ,Lu⟩
  grind
include mG hlen
theorem akq(n:Nat)(J3:n≤l.length)(hc: ∀j,j<n→ako l lT j)(scope:Int)(x:Ex):aun l lT n scope x:=by
 have _:=hlen
 have _:=mG
 induction x using Ex.ind with
 |h x ih=>
  intro kn qb cs hx hn Cv
  obtain⟨a,cc,rfl,ha,KE⟩:=hx.cells
  rw[il aeO (by simp[C8]),Ex.ty_eq]
  have hnd:=x.nodes_eq
  rw[Ex.wf_eq,Bool.and_eq_true]at Cv
  obtain⟨xP,J4⟩:=Cv
  have W:=KB scope x.name
  have Mi:=mi x.args
  have BY:x.args.length≤qz:=oi (by omega)
  simp only[tI,Bool.and_eq_true,decide_eq_true_eq]at xP
  obtain⟨aAM,aAN,nh,_,_⟩:=xP
  by_cases O:x.op=6
  ·rw[if_pos O]
   unfold DW at W
   by_cases U:lX scope x.name=0
   ·rw[if_neg (by simp[U])]
    rw[if_pos U,U]at W
    have V:=lkS (js l l.length) x.name
    rw[vU l x.name l.length (Nat.le_refl _),List.take_length]at V
    have Bn:Ip l n x.name=match oX l x.name with|some i=>if i<n then wq l i else(0,6)|none=>(0,6):=by
     unfold Ip clk
     rw[A4]
     cases hi:oX l x.name with
     |none=>rfl
     |some i=>
      simp only
      by_cases Y:i<n
      ·rw[if_pos Y,if_pos Y];exact EJ l J3 Y
      ·grind
    rw[Bn]
    cases hi:oX l x.name with
    |none=>
     rw[hi]at V
     unfold Te at V
     simp only[qA,seval,C8,O,W,Uh,ch2,ch0,jF,V]
     grind
    |some i=>
     rw[hi]at V
     rw[show Te (some i)= .tup [.i .i64 (i:Int),.b true]from rfl]at V
     by_cases Y:i<n
     ·obtain⟨r,im,oz,adm⟩:=hc i Y kn qb
      have Yw:(i:Int)<n:=by omega
      simp only[Y,if_true]
      simp only[qA,seval,j2,C8,O,W,Uh,ch2,ch0,jF,V,Yw,im,ap6]
      grind
     ·have Yw: ¬(i:Int)<n:=by omega
      simp only[Y,if_false]
      simp only[qA,seval,C8,O,W,Uh,ch2,ch0,jF,V,Yw]
      grind
   ·rw[if_pos U]
    rw[if_neg U]at W
    simp only[qA,seval,C8,O,W,Uh]
    grind
  ·rw[if_neg O]
   have hL:=fun c7 fr lh sh F H I J K GR E9 GS Lt N=>aAL l lT cl hl n scope x.args (fun y hy=>ih y hy) a cc ha KE (by omega) J4 kn qb _ rfl _ rfl 1 c7 fr lh sh F H I J K GR E9 GS Lt N
   have Z:x.args.length*8≤roomy∧x.args.length≤roomy:=by unfold qz at BY;unfold roomy;omega
   have hS:=fun c7 fr lh sh F H I J K GR E9 GS Lt N=>(hL c7 fr lh sh F H I J K GR E9 GS Lt N).2.2.2.2
   cases hr:se (Ip l n) scope x.args with
   |error e=>
    have D:=fun c7 fr lh sh F H I J K GR E9 GS Lt N=>And.intro (hL c7 fr lh sh F H I J K GR E9 GS Lt N).1 ((hL c7 fr lh sh F H I J K GR E9 GS Lt N).2.1 e hr)
    simp only[hr,ajx]at D
    simp only[qA,seval,C8,O,ha.lenI,Z,D]
    generalize hX:ow _ _ _ _ _ _=X
    obtain⟨r,e1,e2,e3⟩: ∃r,X=xR lT (js l l.length) r∧zK l r∧ ∀i,n≤i→iJ r i=iJ kn i:=by
     rw[←hX]
     refine hS _ _ _ _ rfl ?_ ?_ ?_ ?_ ?_ ?_ ?_ ?_ rfl <;> simp only[qA,seval]
    grind
   |ok ts=>
    have P2:=Cw hr
    have D:=fun c7 fr lh sh F H I J K GR E9 GS Lt N=>And.intro (hL c7 fr lh sh F H I J K GR E9 GS Lt N).1 (hL c7 fr lh sh F H I J K GR E9 GS Lt N).2.2.2.1
    have hF:=fun c7 fr lh sh F H I J K GR E9 GS Lt N=>(hL c7 fr lh sh F H I J K GR E9 GS Lt N).2.2.1 ts hr
    have qZ:(ints ts).length=x.args.length:=by rw[kO,P2]
    have hit:List.take x.args.length (ints ts)=ints ts:=List.take_of_length_le (by omega)
    simp only[hr,ajx]at D
    have Fk:=Ns x.op ts (.sl (ints ts) x.args.length false) (Or.inr ⟨false,by rw[P2]⟩) (by rw[P2];exact BY) aAM aAN O (by rw[P2];exact nh)
    by_cases U:tJ x.op ts=0
    ·rw[U]at Fk
     simp only[qA,seval,C8,F2,O,ha.lenI,Z,D ⟨1,.cells [.i .i64 x.op,.i .i64 x.num,.s x.name,a] 0 true⟩,hF ⟨1,.cells [.i .i64 x.op,.i .i64 x.num,.s x.name,a] 0 true⟩,Fk,ae4,U,qZ,hit]
     generalize hX:ow _ _ _ _ _ _=X
     obtain⟨r,e1,e2,e3⟩: ∃r,X=xR lT (js l l.length) r∧zK l r∧ ∀i,n≤i→iJ r i=iJ kn i:=by
      rw[←hX]
      refine hS _ _ _ _ rfl ?_ ?_ ?_ ?_ ?_ ?_ ?_ ?_ rfl <;> simp only[qA,seval]
     grind
    ·simp only[qA,seval,C8,F2,O,ha.lenI,Z,D ⟨1,.cells [.i .i64 x.op,.i .i64 x.num,.s x.name,a] 0 true⟩,hF ⟨1,.cells [.i .i64 x.op,.i .i64 x.num,.s x.name,a] 0 true⟩,Fk,ae4,U,qZ,hit]
     generalize hX:ow _ _ _ _ _ _=X
     obtain⟨r,e1,e2,e3⟩: ∃r,X=xR lT (js l l.length) r∧zK l r∧ ∀i,n≤i→iJ r i=iJ kn i:=by
      rw[←hX]
      refine hS _ _ _ _ rfl ?_ ?_ ?_ ?_ ?_ ?_ ?_ ?_ rfl <;> simp only[qA,seval]
     grind
end
theorem oj{x:Ex}(i:jy x=0):x.wf=true:=by
 unfold jy at i
 by_cases BR:big x
 ·rw[if_pos BR]at i;cases i
 ·rw[if_neg BR]at i
  cases hx:x.wf with
  |true=>rfl
  |false=>rw[hx]at i;cases i
section
variable(l:Cs)(lT:T)(cl:List T)(hl:IsSl lT l.length cl)(mG:mf l cl)(hlen:l.length≤qz)(v9:smC l)
include hl mG hlen
def SF(n:Nat)(scope:Int)(x:Ex):Int×Int:=if jy x≠0 then(0,jy x)else x.ty (Ip l n) scope
theorem Yx(n:Nat)(J3:n≤l.length)(hc: ∀j,j<n→ako l lT j)(scope:Int)(x:Ex)(cs:List T)(hx:mU x cs)(J:0≤x.nodes)(hs:x.sm)(kn:List (Nat×Int))(I:zK l kn):
  ∃F,be pE 146 [.ptr .S 2 1 0,.i .i64 scope,.i .i64 (n:Int),.agg cs] (xR lT (js l l.length) kn)=some (.tup [.i .i64 (SF l n scope x).1,.i .i64 (SF l n scope x).2],xR lT (js l l.length) F)∧zK l F∧ ∀i,n≤i→iJ F i=iJ kn i:=by
 have r:=fun z fr lh sh=>sX (z:=z) (fr:=fr) (lh:=lh) (sh:=sh) x cs hx J hs
 have H:=fun h=>akq l lT cl hl mG hlen n J3 hc scope x kn I cs hx h
 obtain⟨a,V,rfl,K,KE⟩:=hx.cells
 rw[il aeq (by simp[QB])]
 unfold SF
 by_cases D:jy x=0
 ·rw[if_neg (by simp[D])]
  obtain⟨F,N,O,U⟩:=H (by have:=X9 D;omega) (oj D)
  rw[D]at r
  simp only[qA,seval,j2,QB,r,N,Uw,K.kept1]
  exact⟨F,rfl,O,U⟩
 ·rw[if_pos D]
  generalize jy x=e at r D ⊢
  simp only[qA,seval,QB,r,D]
  exact⟨kn,rfl,I,fun _ _=>rfl⟩
include v9
theorem Yy: ∀j,j<l.length→ako l lT j:=by
 intro j
 induction j using Nat.strongRecOn with
 |ind j ih=>
  intro K kn U
  obtain⟨b,cb,r,W,X,sg,hb⟩:=ot hl mG j K
  obtain⟨FJ,V⟩:=v9 l[j] (List.getElem_mem K)
  obtain⟨H,I,Y,F⟩:=Yx l lT cl hl mG hlen j (by omega) (fun i hi=>ih i hi (by omega)) 0 l[j].2 _ hb FJ V kn U
  have Fp:wq l j=SF l j 0 l[j].2:=by rw[P1 l K];rfl
  rw[←Fp]at I
  have D:(wq l j).2≠0→(wq l j).1=0:=by
   unfold wq
   rw[List.getD_eq_getElem?_getD,List.getElem?_eq_getElem (by rw[u9];exact K)]
   exact EL l _ _ (List.getElem_mem _)
  have J:nz (.one .int) (kn.map fun p=>nK p.1) (kn.map fun p=>iV p.2) (.i .i64 (j:Int)) (.i .i64 0) true=_:=ais (kT:=nK) (vT:=iV) adi (fun _=>rfl) kn j (.i .i64 0)
  rw[il ap5 (by simp[c91])]
  cases N:iJ kn j with
  |some t=>
   obtain⟨_,ht⟩:=U j t N
   rw[N]at J
   simp only[show iV t= .i .i64 t from rfl]at J
   rw[ht]
   simp only[qA,seval,c91,ch2,ch1,jF,J]
   exact⟨kn,rfl,U,fun _ _=>rfl⟩
  |none=>
   rw[N]at J
   generalize he:wq l j=q at I D ⊢
   obtain⟨Z,q2⟩:=q
   simp only at I D ⊢
   by_cases O:q2=0
   ·subst O
    have xP:iJ H j=none:=by rw[F j (Nat.le_refl _),N]
    have n6:qE (.one .int) (.i .i64 (j:Int)) (.i .i64 Z) (H.map fun p=>nK p.1) (H.map fun p=>iV p.2)=_:=y9 (kT:=nK) (vT:=iV) adi H j Z xP
    simp only[qA,seval,j2,c91,ch2,ch1,jF,J,W,X.kept1,I,JL,afv,n6,aAJ]
    refine⟨_,rfl, ?_, ?_⟩
    ·intro i t hi
     rw[qx]at hi
     cases B7:iJ H i with
     |some u=>rw[B7]at hi;cases hi;exact Y i _ B7
     |none=>
      rw[B7]at hi
      simp only at hi
      split at hi
      ·rename_i e;subst e;cases hi;exact⟨K,he⟩
      ·cases hi
    ·intro i hi
     rw[qx,F i (by omega)]
     cases iJ kn i with
     |some u=>rfl
     |none=>simp only;rw[if_neg (by omega)]
   ·rw[D O]
    rw[D O]at I
    simp only[qA,seval,j2,c91,ch2,ch1,jF,J,W,X.kept1,I,JL,O]
    exact⟨H,rfl,Y,fun i hi=>F i (by omega)⟩
end
def bd(n:Int):Prop:= -1099511627776≤n∧n≤1099511627776
theorem ta{x y:Bool}:vz (.one .bool) (.b x) (.b y)=some (x==y):=rfl
theorem vV(n:Int):bd (jD n):=by unfold bd jD;omega
theorem SG{n:Int}(h:bd n):jD n=n:=by unfold bd at h;unfold jD;omega
theorem SI(n:Int):(if(if n<1099511627776 then n else(1099511627776:Int))> -1099511627776 then(if n<1099511627776 then n else(1099511627776:Int))else-1099511627776)=jD n:=by
 unfold jD;split <;> split <;> omega
theorem A9(n:Int):be pE 109 [.i .i64 n] []=some (.i .i64 (jD n),[]):=by
 rw[il adV (by simp[TC]),←SI]
 simp only[qA,seval,TC]
theorem akr{a b:Int}(i:bd a)(r:bd b):wr .i64 (a+b)=a+b:=by unfold bd at *; exact jw ⟨by omega,by omega⟩
theorem Yz{a:Int}(i:bd a):wr .i64 (0-a)= -a:=by unfold bd at *; rw[jw ⟨by omega,by omega⟩];omega
theorem Iq{a:Int}(i:bd a):bd (-a):=by unfold bd at *; omega
theorem Ir{a b:Int}(I:bd a)(J:bd b):be pE 112 [.i .i64 a,.i .i64 b] []=some (.i .i64 (jD (a+b)),[]):=by
 have D:=akr I J
 have hc:=A9 (a+b)
 clear I J
 rw[il adW (by simp[JA])]
 by_cases F:0≤a
 ·have Du: ¬a<0:=by omega
  by_cases r:0≤b
  ·have H: ¬a+b<0:=by omega
   simp only[qA,seval,JA,D,hc,JH,F,Du,r,H]
  ·simp only[qA,seval,JA,D,hc,JH,F,Du,r]
 ·have Du:a<0:=by omega
  by_cases r:b<0
  ·have H: ¬0≤a+b:=by omega
   simp only[qA,seval,JA,D,hc,JH,F,Du,r,H]
  ·simp only[qA,seval,JA,D,hc,JH,F,Du,r]
theorem aks{a:Int}(h:bd a)(i: ¬a<0):wr .u64 a=(a.natAbs:Int):=by unfold bd at h;rw[wI ⟨by omega,by omega⟩];omega
theorem auq(n:Int):IntKind.wrap .u64 n=n%18446744073709551616:=by
 unfold IntKind.wrap
 have i:(IntKind.u64).bits=64:=rfl
 simp only[i]
 rw[if_neg (by simp[IntKind.signed])]
 rfl
theorem Is(n:Int):wr .u64 n=n%18446744073709551616:=by
 show(if(0:Int)≤n∧n≤18446744073709551615 then n else IntKind.wrap .u64 n)=_
 rw[auq]
 split <;> omega
theorem adp{a:Int}(h:bd a)(i:a<0):wr .u64 (0-wr .u64 a)=(a.natAbs:Int):=by
 unfold bd at h
 rw[Is,Is];omega
theorem P3{a:Int}(h:bd a):be pE 200 [.i .i64 a] []=some (.i .u64 (a.natAbs:Int),[]):=by
 rw[il aeQ (by simp[QK])]
 by_cases r:a<0
 ·have D:=adp h r
  simp only[qA,seval,QK,r,D]
 ·have D:=aks h r
  simp only[qA,seval,QK,r,D]
theorem aur(P Q R S:Int)(i:0≤P)(r:0≤Q)(D:0≤R)(F:0≤S):
  S+(Q+P/4294967296)/4294967296+((Q+P/4294967296)%4294967296+R)/4294967296=(S*18446744073709551616+(Q+R)*4294967296+P)/18446744073709551616:=by
 omega
theorem It{a b A B:Int}(r:0≤a)(i:0≤b)(D:a≤A)(F:b≤B):0≤a*b∧a*b≤A*B:=
 ⟨Int.mul_nonneg r i,Int.mul_le_mul D F i (by omega)⟩
theorem YA(X Y:Nat)(hX:X≤1099511627776)(hY:Y≤1099511627776):be pE 199 [.i .u64 (X:Int),.i .u64 (Y:Int)] []=some (.tup [.i .u64 ((X:Int)*Y/18446744073709551616),.i .u64 ((X:Int)*Y%18446744073709551616)],[]):=by
 obtain⟨x1,Fi⟩: ∃x1,x1=(X:Int)/4294967296:=⟨_,rfl⟩
 obtain⟨x0,Zu⟩: ∃x0,x0=(X:Int)%4294967296:=⟨_,rfl⟩
 obtain⟨r,Oq⟩: ∃r,r=(Y:Int)/4294967296:=⟨_,rfl⟩
 obtain⟨D,W⟩: ∃D,D=(Y:Int)%4294967296:=⟨_,rfl⟩
 have hX':(X:Int)=x1*4294967296+x0:=by omega
 have hY':(Y:Int)=r*4294967296+D:=by omega
 have F:0≤x1∧x1≤256:=by omega
 have H:0≤x0∧x0≤4294967295:=by omega
 have I:0≤r∧r≤256:=by omega
 have J:0≤D∧D≤4294967295:=by omega
 have ID:(X:Int)*Y=x1*r*18446744073709551616+(x1*D+x0*r)*4294967296+x0*D:=by
  grind
 have N:=It H.1 J.1 H.2 J.2
 have O:=It F.1 J.1 F.2 J.2
 have U:=It H.1 I.1 H.2 I.2
 have V:=It F.1 I.1 F.2 I.2
 have w0:wr .u64 (x0*D)=x0*D:=wI ⟨N.1,Int.le_trans N.2 (by decide)⟩
 have w1:wr .u64 (x1*D)=x1*D:=wI ⟨O.1,Int.le_trans O.2 (by decide)⟩
 have w2:wr .u64 (x0*r)=x0*r:=wI ⟨U.1,Int.le_trans U.2 (by decide)⟩
 have w3:wr .u64 (x1*r)=x1*r:=wI ⟨V.1,Int.le_trans V.2 (by decide)⟩
 have K:=aur (x0*D) (x1*D) (x0*r) (x1*r) N.1 O.1 U.1 V.1
 rw[←ID]at K
 have Z:=Is ((X:Int)*Y)
 rw[il aeP (by simp[T5]),←K]
 generalize hP:x0*D=P at N w0
 generalize hQ:x1*D=Q at O w1
 generalize hR:x0*r=R at U w2
 generalize hS:x1*r=S at V w3
 have w4:wr .u64 (Q+P/4294967296)=Q+P/4294967296:=wI ⟨by omega,by omega⟩
 have w5:wr .u64 ((Q+P/4294967296)%4294967296+R)=(Q+P/4294967296)%4294967296+R:=wI ⟨by omega,by omega⟩
 have w6:wr .u64 (S+(Q+P/4294967296)/4294967296)=S+(Q+P/4294967296)/4294967296:=wI ⟨by omega,by omega⟩
 have w7:wr .u64 (S+(Q+P/4294967296)/4294967296+((Q+P/4294967296)%4294967296+R)/4294967296)=S+(Q+P/4294967296)/4294967296+((Q+P/4294967296)%4294967296+R)/4294967296:=wI ⟨by omega,by omega⟩
 simp only[qA,seval,T5,ab9,aca,←Zu,←Fi,←W,←Oq,hP,hQ,hR,hS,w0,w1,w2,w3,w4,w5,w6,w7,Z]
theorem NK{a:Int}(h:bd a):a.natAbs≤1099511627776:=by grind [bd]
theorem adq(a b:Int):(a.natAbs:Int)*(b.natAbs:Int)=((a*b).natAbs:Int):=by rw[Int.natAbs_mul];omega
theorem YB{a b:Int}(h:(a<0∧ ¬b<0)∨(¬a<0∧b<0)):a*b≤0:=by
 rcases h with⟨h1,h2⟩|⟨h1,h2⟩
 ·exact Int.mul_nonpos_of_nonpos_of_nonneg (by omega) (by omega)
 ·exact Int.mul_nonpos_of_nonneg_of_nonpos (by omega) (by omega)
theorem SJ{a b:Int}(h:(a<0∧b<0)∨(¬a<0∧ ¬b<0)):0≤a*b:=by
 rcases h with⟨h1,h2⟩|⟨h1,h2⟩
 ·exact Int.mul_nonneg_of_nonpos_of_nonpos (by omega) (by omega)
 ·simp_all[Int.mul_nonneg]
theorem P4{a b:Int}(W:bd a)(X:bd b):be pE 162 [.i .i64 a,.i .i64 b] []=some (.i .i64 (jD (a*b)),[]):=by
 have I:=P3 W
 have J:=P3 X
 have F:=YA a.natAbs b.natAbs (NK W) (NK X)
 rw[adq]at F
 have hs:= @YB a b
 have O:= @SJ a b
 rw[il aer (by simp[vX])]
 generalize hx:a*b=x at*
 generalize Y:(x.natAbs:Int)/18446744073709551616=q1 at F
 generalize Z:(x.natAbs:Int)%18446744073709551616=q2 at F
 have N:(if q1≠0 then(1099511627776:Int)else if 1099511627776<q2 then 1099511627776 else q2)=min (x.natAbs:Int) 1099511627776:=by
  grind
 by_cases H:q1=0
 ·by_cases K:(1099511627776:Int)<q2
  ·rw[if_neg (by simp[H]),if_pos K]at N
   by_cases D:a<0
   ·by_cases r:b<0
    ·have:=O (.inl ⟨D,r⟩)
     have e:jD x=1099511627776:=by unfold jD;omega
     simp only[qA,seval,vX,I,J,F,ua,tZ,H,K,D,r,ta,e];rfl
    ·have:=hs (.inl ⟨D,r⟩)
     have e:jD x= -1099511627776:=by unfold jD;omega
     simp only[qA,seval,vX,I,J,F,ua,tZ,H,K,D,r,ta,e];rfl
   ·by_cases r:b<0
    ·have:=hs (.inr ⟨D,r⟩)
     have e:jD x= -1099511627776:=by unfold jD;omega
     simp only[qA,seval,vX,I,J,F,ua,tZ,H,K,D,r,ta,e];rfl
    ·have:=O (.inr ⟨D,r⟩)
     have e:jD x=1099511627776:=by unfold jD;omega
     simp only[qA,seval,vX,I,J,F,ua,tZ,H,K,D,r,ta,e];rfl
  ·rw[if_neg (by simp[H]),if_neg K]at N
   have U:wr .i64 q2=q2:=jw ⟨by omega,by omega⟩
   have V:wr .i64 (0-q2)= -q2:=by rw[jw ⟨by omega,by omega⟩];omega
   by_cases D:a<0
   ·by_cases r:b<0
    ·have:=O (.inl ⟨D,r⟩)
     have e:jD x=q2:=by unfold jD;omega
     simp only[qA,seval,vX,I,J,F,ua,tZ,H,K,D,r,ta,U,V,e];rfl
    ·have:=hs (.inl ⟨D,r⟩)
     have e:jD x= -q2:=by unfold jD;omega
     simp only[qA,seval,vX,I,J,F,ua,tZ,H,K,D,r,ta,U,V,e];rfl
   ·by_cases r:b<0
    ·have:=hs (.inr ⟨D,r⟩)
     have e:jD x= -q2:=by unfold jD;omega
     simp only[qA,seval,vX,I,J,F,ua,tZ,H,K,D,r,ta,U,V,e];rfl
    ·have:=O (.inr ⟨D,r⟩)
     have e:jD x=q2:=by unfold jD;omega
     simp only[qA,seval,vX,I,J,F,ua,tZ,H,K,D,r,ta,U,V,e];rfl
 ·rw[if_pos H]at N
  by_cases D:a<0
  ·by_cases r:b<0
   ·have:=O (.inl ⟨D,r⟩)
    have e:jD x=1099511627776:=by unfold jD;omega
    simp only[qA,seval,vX,I,J,F,ua,tZ,H,D,r,ta,e];rfl
   ·have:=hs (.inl ⟨D,r⟩)
    have e:jD x= -1099511627776:=by unfold jD;omega
    simp only[qA,seval,vX,I,J,F,ua,tZ,H,D,r,ta,e];rfl
  ·by_cases r:b<0
   ·have:=hs (.inr ⟨D,r⟩)
    have e:jD x= -1099511627776:=by unfold jD;omega
    simp only[qA,seval,vX,I,J,F,ua,tZ,H,D,r,ta,e];rfl
   ·have:=O (.inr ⟨D,r⟩)
    have e:jD x=1099511627776:=by unfold jD;omega
    simp only[qA,seval,vX,I,J,F,ua,tZ,H,D,r,ta,e];rfl
theorem YC{a b:Int}(h:b≠0):Ev.bin .quo (.i .i64 a) (.i .i64 b)=some (.i .i64 (wr .i64 (a.tdiv b))):=by
 simp only[Ev.bin,if_true,sr,if_neg h]
theorem YD{a b:Int}(h:b≠0):Ev.bin .rem (.i .i64 a) (.i .i64 b)=some (.i .i64 (a.tmod b)):=by
 simp only[Ev.bin,if_true,sr,if_neg h]
theorem bq5:((true==true) != true)=false:=nr rfl
theorem bq6:((false==false) != true)=false:=nr rfl
theorem bq7:((true==false) != true)=true:=nr rfl
theorem bq8:((false==true) != true)=true:=nr rfl
theorem adr:bd (-1):=by unfold bd;omega
theorem ads{a b:Int}(H:bd a)(U:bd b):be pE 163 [.i .i64 a,.i .i64 b] []=some (.i .i64 (WO a b),[]):=by
 have J:=P4 H adr
 rw[il aet (by simp[L5])]
 unfold WO
 by_cases D:b=0
 ·subst D
  simp only[qA,seval,L5]
 rw[if_neg D]
 by_cases I:b= -1
 ·subst I
  have e:a.fdiv (-1)=a* -1:=by
   have:=Int.fdiv_neg (a:=a) (b:=1) (by decide)
   rw[if_pos (Int.one_dvd a),Int.fdiv_one]at this
   rw[this];omega
  rw[e]
  simp only[qA,seval,L5,J,aes]
 have V:= @Int.fdiv_eq_tdiv a b
 have W:= @Int.dvd_iff_tmod_eq_zero b a
 have K:=Int.natAbs_tdiv_le_natAbs a b
 have N:=NK H
 have F:Ev.bin .quo (.i .i64 a) (.i .i64 b)=some (.i .i64 (a.tdiv b)):=by
  rw[YC D,jw ⟨by omega,by omega⟩]
 have BN:=YD (a:=a) D
 have GY:=A9 (a.tdiv b)
 have FO:=A9 (a.tdiv b-1)
 have O:wr .i64 (a.tdiv b-1)=a.tdiv b-1:=jw ⟨by omega,by omega⟩
 generalize a.tdiv b=q at*
 generalize a.tmod b=r at*
 have X:b<0→b.sign= -1:=Int.sign_eq_neg_one_of_neg
 have Y:0<b→b.sign=1:=Int.sign_eq_one_of_pos
 simp only[qB,seval,L5,D,I,F,BN,GY,FO,JH,ta,bq5,bq6,bq7,bq8,O]
 clear GY FO F BN
 grind (splits:=30)
theorem adt(a b:Int):bd (WO a b):=by
 unfold WO
 split
 ·unfold bd;omega
 ·exact vV _
end Go.Proofs.YtcpceiclnbmgiaaGreat
