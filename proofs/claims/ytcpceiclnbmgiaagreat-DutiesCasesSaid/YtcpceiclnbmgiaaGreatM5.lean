/- Walks of functions of the program and of the reference, and their plain laws, part 5. Conditions: the theorems' own. -/
import Derived.Test.YtcpceiclnbmgiaaGreatGS
import Derived.Test.YtcpceiclnbmgiaaGreatM2
import Derived.Test.YtcpceiclnbmgiaaGreatM3
import Derived.Test.YtcpceiclnbmgiaaGreatM4
import Derived.KernelRfl
set_option maxRecDepth 100000
set_option linter.unusedSimpArgs false
set_option linter.unusedVariables false
set_option maxHeartbeats 16000000
namespace Go.Proofs.YtcpceiclnbmgiaaGreat
open Go Go.Ev
theorem om{z:Nat}{fr:Fr}{lh:aB ah}{sh:List ah}(x:Ex)(cs:List T)(hx:jI x cs)(D:0≤x.nodes)(hs:x.sm):bB pE (ae pE) z ⟨fr,lh,sh⟩ 141 [.agg cs]=some (.i .i64 (bW x),⟨fr,lh,sh⟩):=by
 obtain⟨s,h⟩:=pvB x hs
 rw[←show cs=kz x from hx]at h
 obtain⟨a,F,rfl,r,On⟩:=hx.cells
 rw[avn (by simp[IK,uW,FY,r.froz1]),h];rfl
theorem si(x:Ex)(cs:List T)(hx:jI x cs)(hs:x.sm):ae pE 131 [.agg cs] []=some (.i .i64 (bW x),[]):=by
 rw[show cs=kz x from hx]
 exact rvB x hs
theorem rD(l:Cs): ∀n,(jC l n).length=n
 |0=>rfl
 |n+1=>by rw[jC,List.length_append,rD l n];rfl
theorem xD(l:Cs){n:Nat}(h:n<l.length):jC l (n+1)=jC l n++ [Gf (l.take n) (jC l n) l[n].2]:=by
 rw[jC];simp[List.getD_eq_getElem?_getD,List.getElem?_eq_getElem h]
def smC(l:Cs):Prop:= ∀c∈l,0≤c.2.nodes∧c.2.sm
theorem JW(a:List Int)(x:Int):ints (a++ [x])=ints a++ [.i .i64 x]:=by simp[ints]
section
variable(l:Cs)(lT:T)(cl:List T)(hl:IsSl lT l.length cl)(ee:dx l cl)(hlen:l.length≤kP)(tZ:smC l)
include hl ee hlen tZ
end
theorem CG{α:Type}: ∀(A R:List α) (j:Nat) (r:List α),splice (A++R) (A.length+j) r=A++splice R j r
 | [],R,j,r=>by simp
 |a::A,R,j,r=>by
  rw[List.cons_append,List.length_cons,show A.length+1+j=(A.length+j)+1 by omega,splice,CG A R j r];rfl
theorem yx{α:Type}: ∀(z R r:List α),r.length=z.length→splice (z++R) 0 r=r++R
 | [],R,[],_=>by cases R <;> rfl
 |c::z,R,v::r,h=>by simp_all[List.cons_append,splice,yx]
theorem CH{α:Type}(A z R r:List α)(k:Nat)(hk:A.length=k)(h:r.length=z.length):splice (A++(z++R)) k r=(A++r)++R:=by
 have:=CG A (z++R) 0 r
 simp_all[Nat.add_zero,yx,List.append_assoc]
theorem xE{α:Type}(z:List α)(n:Nat):repl z (n+1)=z++repl z n:=rfl
theorem CI{α:Type}(z:List α): ∀n,(repl z n).length=n*z.length
 |0=>by simp[repl]
 |n+1=>by rw[xE,List.length_append,CI z n,Nat.succ_mul,Nat.add_comm]
def bM(l:Cs):Nat→List (List Nat×Nat)
 |0=> []
 |n+1=>match aU (bM l n) (l.getD n ([],.mk 0 0 [] [])).1 with
  |none=>bM l n++ [((l.getD n ([],.mk 0 0 [] [])).1,n)]
  |some _=>bM l n
theorem xF(l:Cs){n:Nat}(h:n<l.length):bM l (n+1)=match aU (bM l n) l[n].1 with
  |none=>bM l n++ [(l[n].1,n)]
  |some _=>bM l n:=by
 rw[bM];simp[List.getD_eq_getElem?_getD,List.getElem?_eq_getElem h]
theorem EP(s:List Nat)(c:List Nat×Ex): ∀l:Cs,fL (l++ [c]) s=match fL l s with|some i=>some i|none=>if c.1=s then some l.length else none
 | []=>by simp[fL]
 |d::l=>by
  rw[List.cons_append,fL,fL,EP s c l]
  grind
theorem su(l:Cs)(s:List Nat): ∀n,n≤l.length→aU (bM l n) s=fL (l.take n) s
 |0,_=>by simp[bM,aU,fL]
 |n+1,h=>by
  have r:n<l.length:=zO
  rw[xF l r,List.take_succ_eq_append_getElem r,EP]
  have ih:=su l s n zO
  have D:=su l l[n].1 n zO
  grind [lQ,List.length_take,Nat.min_eq_left,hi]
def sK(s:List Nat):T:= .s s
def nK(n:Nat):T:= .i .i64 (n:Int)
def iV(n:Int):T:= .i .i64 n
theorem Dj(a b:List Nat):sy (.one .str) (sK a) (sK b)=some (decide (a=b)):=axT
theorem agl(a b:Nat):sy (.one .int) (nK a) (nK b)=some (decide (a=b)):=by
 grind [nK,axU]
def ub(lT:T)(m:List (List Nat×Nat))(kn:List (Nat×Int)):List ah:=
 [⟨1,.map (m.map fun p=>sK p.1) (m.map fun p=>nK p.2) false⟩,⟨1,.map (kn.map fun p=>nK p.1) (kn.map fun p=>iV p.2) false⟩,⟨1,.cells [lT,.mp .S 0 1,.mp .S 1 1] 0 true⟩]
section
variable(lT:T)(m:List (List Nat×Nat))(kn:List (Nat×Int))
theorem ch0:aE (ub lT m kn) 0=⟨1,.map (m.map fun p=>sK p.1) (m.map fun p=>nK p.2) false⟩:=nr rfl
theorem ch1:aE (ub lT m kn) 1=⟨1,.map (kn.map fun p=>nK p.1) (kn.map fun p=>iV p.2) false⟩:=nr rfl
theorem ch2:aE (ub lT m kn) 2=⟨1,.cells [lT,.mp .S 0 1,.mp .S 1 1] 0 true⟩:=nr rfl
theorem aHL(r:List (List Nat×Nat)):aK (ub lT m kn) 0 ⟨1,.map (r.map fun p=>sK p.1) (r.map fun p=>nK p.2) false⟩=ub lT r kn:=nr rfl
theorem aHM(r:List (Nat×Int)):aK (ub lT m kn) 1 ⟨1,.map (r.map fun p=>nK p.1) (r.map fun p=>iV p.2) false⟩=ub lT m r:=nr rfl
theorem azT:ub lT [] []= [⟨1,.map [] [] false⟩,⟨1,.map [] [] false⟩,⟨1,.cells [lT,.mp .S 0 1,.mp .S 1 1] 0 true⟩]:=nr rfl
end
def Tc(r:Option Nat):T:=match r with|some v=> .tup [nK v,.b true]|none=> .tup [.i .i64 0,.b false]
theorem lkS(m:List (List Nat×Nat))(s:List Nat):jb (.one .str) (m.map fun p=>sK p.1) (m.map fun p=>nK p.2) (.s s) (.i .i64 0) true=some (Tc (aU m s)):=by
 have:=amg (kT:=sK) (vT:=nK) Dj (fun _=>rfl) m s (.i .i64 0)
 rw[show(T.s s)=sK s from rfl,this];unfold Tc;cases aU m s <;> rfl
section
variable(l:Cs)(lT:T)(cl:List T)(hl:IsSl lT l.length cl)(ee:dx l cl)(hlen:l.length≤kP)
include hl ee hlen
theorem aHN(fr:Fr)(lh:aB ah)(sh:List ah)(V:sh=ub lT [] [])
  (h3:aa fr 3= .ptr .S 2 1 0) (F:aa fr 13=lT) (D:aa fr 14= .i .i64 (l.length:Int)) (H:aa fr 15= .i .i64 0):
  mI 41 wz fr lh sh (.ext 0)∧
  (iF pE 41 wz fr lh sh=ub lT (bM l l.length) []):=by
 refine bF (P:=fun Y Z W=>W=ub lT (bM l l.length) [])
  (cu (fun k st=> ∃(fr:Fr) (J:aB ah),st=⟨fr,J,ub lT (bM l k) []⟩∧aa fr 3= .ptr .S 2 1 0∧aa fr 13=lT∧aa fr 14= .i .i64 (l.length:Int)∧aa fr 15= .i .i64 (k:Int)) _ l.length ?_ ?_ 0 _ (Nat.zero_le _) ⟨fr,lh,by rw[V];rfl,h3,F,D,H⟩)
 ·rintro k _ hk ⟨fr,J,rfl,h3,F,D,H⟩
  left
  have N:(k:Int)<l.length:=zO
  have O:=bj (k:=k) zO
  obtain⟨b,cb,r,U,fD,nN,hb⟩:=ga hl ee k hk
  have I:=lkS (bM l k) l[k].1
  rw[xF l hk]
  cases K:aU (bM l k) l[k].1 with
  |some i=>
   rw[K]at I
   unfold Tc at I
   simp only[qA,seval,bp,aJ,dL,wz,h3,F,D,H,N,U,O,ch2,ch0,cq,I]
   refine⟨_,rfl,_,_,rfl, ?_, ?_, ?_, ?_⟩ <;> simp only[qA,seval,h3,F,D]
  |none=>
   rw[K]at I
   unfold Tc at I
   have X:lU (.one .str) (.s l[k].1) (.i .i64 (k:Int)) ((bM l k).map fun p=>sK p.1) ((bM l k).map fun p=>nK p.2)=_:=u9 (kT:=sK) (vT:=nK) Dj (bM l k) l[k].1 k K
   simp only[qA,seval,bp,aJ,dL,wz,h3,F,D,H,N,U,O,ch2,ch0,cq,I,yj,X,aHL]
   refine⟨_,rfl,_,_,rfl, ?_, ?_, ?_, ?_⟩ <;> simp only[qA,seval,h3,F,D]
 ·rintro _ ⟨fr,J,rfl,h3,F,D,H⟩
  simp only[qA,seval,wz,D,H,Int.lt_irrefl]
  grind
theorem amw:ae pE 89 [lT] []=some (.ptr .S 2 1 0,ub lT (bM l l.length) []):=by
 have r:=fun fr lh sh=>aHN l lT cl hl ee hlen fr lh sh
 rw[azT]at r
 rw[an auR (by simp[c89])]
 simp only[qA,seval,eh,dL,c89,azV,hl.lenI,hl.cells,hl.noTup,hl.kept1,r]
end
theorem Ku(l:Cs)(n:Nat): ∀k,∃r,jC l (n+k)=jC l n++r
 |0=>⟨[],by simp⟩
 |k+1=>by
  obtain⟨r,h⟩:=Ku l n k
  grind [Nat.add_assoc,jC]
theorem CJ(l:Cs){n i:Nat}(D:n≤l.length)(hi:i<n):(jC l n).getD i (0,6)=(jC l l.length).getD i (0,6):=by
 obtain⟨r,h⟩:=Ku l n (l.length-n)
 grind [rD,hi]
def sE(l:Cs)(i:Nat):Int×Int:=(jC l l.length).getD i (0,6)
theorem Gl(l:Cs){i:Nat}(hi:i<l.length):sE l i=Gf (l.take i) (jC l i) l[i].2:=by
 unfold sE
 rw[←CJ l (n:=i+1) zO zO,xD l hi,List.getD_eq_getElem?_getD,List.getElem?_append_right (by rw[rD];omega),rD,Nat.sub_self]
 rfl
theorem aor{cl:List Nat→Int×Int}(ee: ∀s,(cl s).2≠0→(cl s).1=0)(scope:Int)(x:Ex)(h:(x.ty cl scope).2≠0):(x.ty cl scope).1=0:=by
 grind [Ex.ty_eq]
theorem agm(l:Cs)(Hy:List (Int×Int))(h: ∀t∈Hy,t.2≠0→t.1=0)(s:List Nat):(clk l Hy s).2≠0→(clk l Hy s).1=0:=by
 grind [clk]
theorem CM(l:Cs): ∀n,∀t∈jC l n,t.2≠0→t.1=0
 |0=>by simp[jC]
 |n+1=>by
  intro t ht
  rw[jC]at ht
  rcases List.mem_append.1 ht with ht|ht
  ·exact CM l n t ht
  ·rw[List.mem_singleton]at ht
   subst ht
   unfold Gf
   split
   ·intro _;rfl
   ·exact aor (agm _ _ (CM l n)) _ _
section
variable(l:Cs)(lT:T)(cl:List T)(hl:IsSl lT l.length cl)(ee:dx l cl)(hlen:l.length≤kP)(tZ:smC l)
def vq(kn:List (Nat×Int)):Prop:= ∀i t,aU kn i=some t→i<l.length∧sE l i=(t,0)
def aos(j:Nat):Prop:= ∀kn,vq l kn→ ∃r,ae pE 91 [.ptr .S 2 1 0,.i .i64 (j:Int)] (ub lT (bM l l.length) kn)=some (.tup [.i .i64 (sE l j).1,.i .i64 (sE l j).2],ub lT (bM l l.length) r)∧vq l r∧ ∀i,j<i→aU r i=aU kn i
def Gj(n:Nat):List Nat→Int×Int:=clk (l.take n) (jC l n)
def azW(n:Nat)(scope:Int)(y:Ex):Prop:= ∀kn,vq l kn→ ∀cs:List T,jI y cs→y.nodes≤100000→y.wf=true→ ∃r,ae pE 184 [.ptr .S 2 1 0,.i .i64 scope,.i .i64 (n:Int),.agg cs] (ub lT (bM l l.length) kn)=some (.tup [.i .i64 (y.ty (Gj l n) scope).1,.i .i64 (y.ty (Gj l n) scope).2],ub lT (bM l l.length) r)∧vq l r∧ ∀i,n≤i→aU r i=aU kn i
include hl
theorem aHO(n:Nat)(scope:Int)(xs:List Ex)(ih: ∀y∈xs,azW l lT n scope y)(a:T)(cc:List T)(ha:IsSl a xs.length cc)(hx:cG xs cc)(hn:ic xs≤100000)(Ae:Gc xs=true)(kn:List (Nat×Int))(jN:vq l kn)(r:Except Int (List Int))(hr:r=lz (Gj l n) scope xs)(o:Out)(ho:o=aoq r)(g:Nat)(c7:ah)(fr:Fr)(lh:aB ah)(sh:List ah)(fU:sh=ub lT (bM l l.length) kn)
  (h0:aa fr 0= .ptr .S 2 1 0) (h1:aa fr 1= .i .i64 scope) (h2:aa fr 2= .i .i64 (n:Int)) (K:aa fr 14= .isl .L 57 g 0 xs.length 1) (HL:aa fr 59=a) (Dy:aa fr 60= .i .i64 (xs.length:Int)) (HM:aa fr 61= .i .i64 0) (Kv:ab lh 57=⟨g,.cells (repl [.i .i64 0] xs.length) 0 false⟩) (I:ab lh 7=c7):
  mI 89 kb fr lh sh o∧
  ((∀e,r= .error e→aa (kR pE 89 kb fr lh sh) 8= .i .i64 0∧aa (kR pE 89 kb fr lh sh) 9= .i .i64 e)∧(∀ts,r= .ok ts→ab (iy pE 89 kb fr lh sh) 57=⟨g,.cells (ints ts) 0 false⟩)∧
    ab (iy pE 89 kb fr lh sh) 7=c7∧ ∃H,iF pE 89 kb fr lh sh=ub lT (bM l l.length) H∧vq l H∧ ∀i,n≤i→aU H i=aU kn i):=by
 have _:=hl
 refine bF (P:=fun bE aZ aY=>(∀e,r= .error e→aa bE 8= .i .i64 0∧aa bE 9= .i .i64 e)∧(∀ts,r= .ok ts→ab aZ 57=⟨g,.cells (ints ts) 0 false⟩)∧ab aZ 7=c7∧ ∃H,aY=ub lT (bM l l.length) H∧vq l H∧ ∀i,n≤i→aU H i=aU kn i)
  (cu (fun k st=> ∃(fr:Fr) (N:aB ah) (ts:List Int) (JA:List (Nat×Int)),st=⟨fr,N,ub lT (bM l l.length) JA⟩∧aa fr 0= .ptr .S 2 1 0∧aa fr 1= .i .i64 scope∧aa fr 2= .i .i64 (n:Int)∧aa fr 14= .isl .L 57 g 0 xs.length 1∧aa fr 59=a∧aa fr 60= .i .i64 (xs.length:Int)∧aa fr 61= .i .i64 (k:Int)∧ab N 7=c7∧
    ab N 57=⟨g,.cells (ints ts++repl [.i .i64 0] (xs.length-k)) 0 false⟩∧ts.length=k∧r=MX ts (lz (Gj l n) scope (xs.drop k))∧vq l JA∧ ∀i,n≤i→aU JA i=aU kn i) _ xs.length ?_ ?_ 0 _ (Nat.zero_le _) ⟨fr,lh,[],kn,by rw[fU],h0,h1,h2,K,HL,Dy,HM,I,by rw[Kv];rfl,rfl,by rw[hr,List.drop_zero];cases lz (Gj l n) scope xs <;> rfl,jN,fun _ _=>rfl⟩)
 ·rintro k _ S7 ⟨fr,N,ts,JA,rfl,h0,h1,h2,K,HL,Dy,HM,I,Kv,W,D,MY,Kw⟩
  have aN:(k:Int)<xs.length:=zO
  have VV:=ig xs
  have hyk:=mb (List.getElem_mem S7)
  have hw:=bj (k:=k) (iM zO)
  obtain⟨b,cb,rr,aQ,fD,nN,hb⟩:=ma ha hx k S7
  obtain⟨OA,J,O,MC⟩:=ih xs[k] (List.getElem_mem S7) JA MY _ hb zO (zM.1 Ae _ (List.getElem_mem S7))
  rw[aa0 S7]at D
  by_cases F:(xs[k].ty (Gj l n) scope).2=0
  ·left
   rw[if_neg (by simp[F]),SD]at D
   generalize xs[k].ty (Gj l n) scope=q at J F D
   obtain⟨U,q2⟩:=q
   simp only at J F D
   subst F
   have Hw:(ints ts++repl [T.i .i64 0] (xs.length-k)).length=xs.length:=by rw[List.length_append,cD,CI,W];simp;omega
   have X:splice (ints ts++repl [T.i .i64 0] (xs.length-k)) k [.i .i64 U]=ints (ts++ [U])++repl [T.i .i64 0] (xs.length-(k+1)):=by
    rw[show xs.length-k=(xs.length-(k+1))+1 by omega,xE,CH (ints ts) [T.i .i64 0] _ [T.i .i64 U] k (by rw[cD];exact W) rfl,JW]
   have Y:k+1≤xs.length:=zO
   simp only[qA,seval,dL,kb,h0,h1,h2,K,HL,Dy,HM,Kv,aN,aQ,hw,J,U3,fD.kept1,S7,Hw,X,Y]
   refine⟨_,rfl,_,_,ts++ [U],OA,rfl, ?_, ?_, ?_, ?_, ?_, ?_, ?_, ?_, ?_,by simp[W],D,O,fun i hi=>by rw[MC i hi,Kw i hi]⟩
   all_goals first|(simp only[qA,seval,h0,h1,h2,K,HL,Dy,I];done)|skip
  ·right
   rw[if_pos (by simp[F])]at D
   generalize xs[k].ty (Gj l n) scope=q at J F D
   obtain⟨U,q2⟩:=q
   simp only at J F D
   simp only[qA,seval,dL,kb,h0,h1,h2,HL,Dy,HM,aN,aQ,J,U3,fD.kept1,F]
   refine⟨_,_,ace,rfl,by rw[ho,D];rfl,fun e V=> ?_,fun t Z=>(by rw[D]at Z;cases Z),by simp only[qA,seval,I],OA,rfl,O,fun i hi=>by rw[MC i hi,Kw i hi]⟩
   rw[D]at V
   cases V
   exact⟨by simp only[qA,seval],by simp only[qA,seval]⟩
 ·rintro _ ⟨fr,N,ts,JA,rfl,h0,h1,h2,K,HL,Dy,HM,I,Kv,W,D,MY,Kw⟩
  rw[List.drop_length,lz,MX,List.append_nil]at D
  rw[Nat.sub_self,show repl [T.i .i64 0] 0= []from rfl,List.append_nil]at Kv
  simp only[qA,seval,kb,Dy,HM,Int.lt_irrefl]
  refine⟨_,_,k9,rfl,by rw[ho,D];rfl,fun e V=>(by rw[D]at V;cases V),fun t Z=> ?_,I,JA,rfl,MY,Kw⟩
  grind
include ee hlen
theorem aou(n:Nat)(Lk:n≤l.length)(hc: ∀j,j<n→aos l lT j)(scope:Int)(x:Ex):azW l lT n scope x:=by
 have _:=hlen
 have _:=ee
 induction x using Ex.ind with
 |h x ih=>
  intro kn jN cs hx hn Ae
  obtain⟨a,cc,rfl,ha,On⟩:=hx.cells
  rw[an ahF (by simp[AP]),Ex.ty_eq]
  have hnd:=x.nodes_eq
  rw[Ex.wf_eq,Bool.and_eq_true]at Ae
  obtain⟨yD,yC⟩:=Ae
  have N:=I9 scope x.name
  have zE:=ig x.args
  have Ds:x.args.length≤kP:=iM zO
  simp only[qT,Bool.and_eq_true,decide_eq_true_eq]at yD
  obtain⟨aHP,aHQ,fM,_,_⟩:=yD
  by_cases h6:x.op=6
  ·rw[if_pos h6]
   unfold qS at N
   by_cases J:dZ scope x.name=0
   ·rw[if_neg (by simp[J])]
    rw[if_pos J,J]at N
    have K:=lkS (bM l l.length) x.name
    rw[su l x.name l.length (Nat.le_refl _),List.take_length]at K
    have DN:Gj l n x.name=match fL l x.name with|some i=>if i<n then sE l i else(0,6)|none=>(0,6):=by
     unfold Gj clk
     rw[xz]
     cases hi:fL l x.name with
     |none=>rfl
     |some i=>
      simp only
      by_cases O:i<n
      ·rw[if_pos O,if_pos O];exact CJ l Lk O
      ·grind
    rw[DN]
    cases hi:fL l x.name with
    |none=>
     rw[hi]at K
     unfold Tc at K
     simp only[qA,seval,AP,h6,N,UC,ch2,ch0,cq,K]
     grind
    |some i=>
     rw[hi]at K
     rw[show Tc (some i)= .tup [.i .i64 (i:Int),.b true]from rfl]at K
     by_cases O:i<n
     ·obtain⟨r,aC,jJ,ago⟩:=hc i O kn jN
      have U:(i:Int)<n:=zO
      simp only[O,if_true]
      simp only[qA,seval,dL,AP,h6,N,UC,ch2,ch0,cq,K,U,aC,auU]
      grind
     ·have U: ¬(i:Int)<n:=zO
      simp only[O,if_false]
      simp only[qA,seval,AP,h6,N,UC,ch2,ch0,cq,K,U]
      grind
   ·rw[if_pos J]
    rw[if_neg J]at N
    simp only[qA,seval,AP,h6,N,UC]
    grind
  ·rw[if_neg h6]
   have W:=fun c7 fr lh sh F h0 h1 h2 H HL Dy HM Kv I=>aHO l lT cl hl n scope x.args (fun y hy=>ih y hy) a cc ha On zO yC kn jN _ rfl _ rfl 1 c7 fr lh sh F h0 h1 h2 H HL Dy HM Kv I
   have V:x.args.length*8≤roomy∧x.args.length≤roomy:=by unfold kP at Ds;unfold roomy;omega
   have hS:=fun c7 fr lh sh F h0 h1 h2 H HL Dy HM Kv I=>(W c7 fr lh sh F h0 h1 h2 H HL Dy HM Kv I).2.2.2.2
   cases hr:lz (Gj l n) scope x.args with
   |error e=>
    have D:=fun c7 fr lh sh F h0 h1 h2 H HL Dy HM Kv I=>And.intro (W c7 fr lh sh F h0 h1 h2 H HL Dy HM Kv I).1 ((W c7 fr lh sh F h0 h1 h2 H HL Dy HM Kv I).2.1 e hr)
    simp only[hr,aoq]at D
    simp only[qA,seval,AP,h6,ha.lenI,V,D]
    generalize Y:iF _ _ _ _ _ _=X
    obtain⟨r,e1,e2,e3⟩: ∃r,X=ub lT (bM l l.length) r∧vq l r∧ ∀i,n≤i→aU r i=aU kn i:=by
     rw[←Y]
     refine hS _ _ _ _ rfl ?_ ?_ ?_ ?_ ?_ ?_ ?_ ?_ rfl <;> simp only[qA,seval]
    grind
   |ok ts=>
    have PB:=vP hr
    have D:=fun c7 fr lh sh F h0 h1 h2 H HL Dy HM Kv I=>And.intro (W c7 fr lh sh F h0 h1 h2 H HL Dy HM Kv I).1 (W c7 fr lh sh F h0 h1 h2 H HL Dy HM Kv I).2.2.2.1
    have hF:=fun c7 fr lh sh F h0 h1 h2 H HL Dy HM Kv I=>(W c7 fr lh sh F h0 h1 h2 H HL Dy HM Kv I).2.2.1 ts hr
    have mC:(ints ts).length=x.args.length:=by rw[cD,PB]
    have Z:List.take x.args.length (ints ts)=ints ts:=List.take_of_length_le zO
    simp only[hr,aoq]at D
    have C6:=MW x.op ts (.sl (ints ts) x.args.length false) (Or.inr ⟨false,by rw[PB]⟩) (by rw[PB];exact Ds) aHP aHQ h6 (by rw[PB];exact fM)
    by_cases J:mc x.op ts=0
    ·rw[J]at C6
     simp only[qA,seval,AP,SE,h6,ha.lenI,V,D ⟨1,.cells [.i .i64 x.op,.i .i64 x.num,.s x.name,a] 0 true⟩,hF ⟨1,.cells [.i .i64 x.op,.i .i64 x.num,.s x.name,a] 0 true⟩,C6,ah4,J,mC,Z]
     generalize Y:iF _ _ _ _ _ _=X
     obtain⟨r,e1,e2,e3⟩: ∃r,X=ub lT (bM l l.length) r∧vq l r∧ ∀i,n≤i→aU r i=aU kn i:=by
      rw[←Y]
      refine hS _ _ _ _ rfl ?_ ?_ ?_ ?_ ?_ ?_ ?_ ?_ rfl <;> simp only[qA,seval]
     grind
    ·simp only[qA,seval,AP,SE,h6,ha.lenI,V,D ⟨1,.cells [.i .i64 x.op,.i .i64 x.num,.s x.name,a] 0 true⟩,hF ⟨1,.cells [.i .i64 x.op,.i .i64 x.num,.s x.name,a] 0 true⟩,C6,ah4,J,mC,Z]
     generalize Y:iF _ _ _ _ _ _=X
     obtain⟨r,e1,e2,e3⟩: ∃r,X=ub lT (bM l l.length) r∧vq l r∧ ∀i,n≤i→aU r i=aU kn i:=by
      rw[←Y]
      refine hS _ _ _ _ rfl ?_ ?_ ?_ ?_ ?_ ?_ ?_ ?_ rfl <;> simp only[qA,seval]
     grind
end
theorem iX{x:Ex}(r:bW x=0):x.wf=true:=by
 unfold bW at r
 by_cases Ii:big x
 ·rw[if_pos Ii]at r;cases r
 ·rw[if_neg Ii]at r
  cases hx:x.wf with
  |true=>rfl
  |false=>rw[hx]at r;cases r
section
variable(l:Cs)(lT:T)(cl:List T)(hl:IsSl lT l.length cl)(ee:dx l cl)(hlen:l.length≤kP)(tZ:smC l)
include hl ee hlen
def Rq(n:Nat)(scope:Int)(x:Ex):Int×Int:=if bW x≠0 then(0,bW x)else x.ty (Gj l n) scope
theorem Yh(n:Nat)(Lk:n≤l.length)(hc: ∀j,j<n→aos l lT j)(scope:Int)(x:Ex)(cs:List T)(hx:jI x cs)(J:0≤x.nodes)(hs:x.sm)(kn:List (Nat×Int))(I:vq l kn):
  ∃F,ae pE 146 [.ptr .S 2 1 0,.i .i64 scope,.i .i64 (n:Int),.agg cs] (ub lT (bM l l.length) kn)=some (.tup [.i .i64 (Rq l n scope x).1,.i .i64 (Rq l n scope x).2],ub lT (bM l l.length) F)∧vq l F∧ ∀i,n≤i→aU F i=aU kn i:=by
 have r:=fun z fr lh sh=>om (z:=z) (fr:=fr) (lh:=lh) (sh:=sh) x cs hx J hs
 have H:=fun h=>aou l lT cl hl ee hlen n Lk hc scope x kn I cs hx h
 obtain⟨a,O,rfl,K,On⟩:=hx.cells
 rw[an ahe (by simp[PO])]
 unfold Rq
 by_cases D:bW x=0
 ·rw[if_neg (by simp[D])]
  obtain⟨F,N,h2,h3⟩:=H (by have:=aaW D;omega) (iX D)
  rw[D]at r
  simp only[qA,seval,dL,PO,r,N,U3,K.kept1]
  exact⟨F,rfl,h2,h3⟩
 ·rw[if_pos D]
  generalize bW x=e at r D ⊢
  simp only[qA,seval,PO,r,D]
  exact⟨kn,rfl,I,fun _ _=>rfl⟩
include tZ
theorem Yi: ∀j,j<l.length→aos l lT j:=by
 intro j
 induction j using Nat.strongRecOn with
 |ind j ih=>
  intro K kn O
  obtain⟨b,cb,r,V,W,nN,Z⟩:=ga hl ee j K
  obtain⟨qU,U⟩:=tZ l[j] (List.getElem_mem K)
  obtain⟨H,I,X,F⟩:=Yh l lT cl hl ee hlen j zO (fun i hi=>ih i hi zO) 0 l[j].2 _ Z qU U kn O
  have C9:sE l j=Rq l j 0 l[j].2:=by rw[Gl l K];rfl
  rw[←C9]at I
  have D:(sE l j).2≠0→(sE l j).1=0:=by
   unfold sE
   rw[List.getD_eq_getElem?_getD,List.getElem?_eq_getElem (by rw[rD];exact K)]
   exact CM l _ _ (List.getElem_mem _)
  have J:jb (.one .int) (kn.map fun p=>nK p.1) (kn.map fun p=>iV p.2) (.i .i64 (j:Int)) (.i .i64 0) true=_:=amg (kT:=nK) (vT:=iV) agl (fun _=>rfl) kn j (.i .i64 0)
  rw[an auT (by simp[c91])]
  cases N:aU kn j with
  |some t=>
   obtain⟨_,ht⟩:=O j t N
   rw[N]at J
   simp only[show iV t= .i .i64 t from rfl]at J
   rw[ht]
   simp only[qA,seval,c91,ch2,ch1,cq,J]
   exact⟨kn,rfl,O,fun _ _=>rfl⟩
  |none=>
   rw[N]at J
   generalize he:sE l j=q at I D ⊢
   obtain⟨Y,q2⟩:=q
   simp only at I D ⊢
   by_cases h0:q2=0
   ·subst h0
    have yD:aU H j=none:=by rw[F j (Nat.le_refl _),N]
    have jx:lU (.one .int) (.i .i64 (j:Int)) (.i .i64 Y) (H.map fun p=>nK p.1) (H.map fun p=>iV p.2)=_:=u9 (kT:=nK) (vT:=iV) agl H j Y yD
    simp only[qA,seval,dL,c91,ch2,ch1,cq,J,V,W.kept1,I,H2,ai2,jx,aHM]
    refine⟨_,rfl, ?_, ?_⟩
    ·intro i t hi
     rw[lQ]at hi
     cases Dd:aU H i with
     |some u=>rw[Dd]at hi;cases hi;exact X i _ Dd
     |none=>
      rw[Dd]at hi
      simp only at hi
      split at hi
      ·rename_i e;subst e;cases hi;exact⟨K,he⟩
      ·cases hi
    ·intro i hi
     rw[lQ,F i zO]
     cases aU kn i with
     |some u=>rfl
     |none=>simp only;rw[if_neg zO]
   ·rw[D h0]
    rw[D h0]at I
    simp only[qA,seval,dL,c91,ch2,ch1,cq,J,V,W.kept1,I,H2,h0]
    exact⟨H,rfl,X,fun i hi=>F i zO⟩
end
def bd(n:Int):Prop:= -1099511627776≤n∧n≤1099511627776
theorem lB{x y:Bool}:sy (.one .bool) (.b x) (.b y)=some (x==y):=rfl
theorem sw(n:Int):bd (bJ n):=by unfold bd bJ;omega
theorem ER{n:Int}(h:bd n):bJ n=n:=by unfold bd at h;unfold bJ;omega
theorem ES(n:Int):(if(if n<1099511627776 then n else(1099511627776:Int))> -1099511627776 then(if n<1099511627776 then n else(1099511627776:Int))else-1099511627776)=bJ n:=by
 unfold bJ;split <;> split <;> omega
theorem xG(n:Int):ae pE 109 [.i .i64 n] []=some (.i .i64 (bJ n),[]):=by
 rw[an agK (by simp[Tm]),←ES]
 simp only[qA,seval,Tm]
theorem SF(n:Int):ae pE 247 [.i .i64 n] []=some (.i .i64 (bJ n),[]):=by
 rw[an Vk (by simp[K4]),←ES]
 simp only[qA,seval,K4]
theorem aa1{a b:Int}(r:bd a)(D:bd b):wr .i64 (a+b)=a+b:=by unfold bd at *; exact bo ⟨by omega,by omega⟩
theorem Hg{a:Int}(r:bd a):wr .i64 (0-a)= -a:=by unfold bd at *; rw[bo ⟨by omega,by omega⟩];omega
theorem tW{a:Int}(r:bd a):bd (-a):=by unfold bd at *; omega
theorem Hh{a b:Int}(F:bd a)(H:bd b):ae pE 112 [.i .i64 a,.i .i64 b] []=some (.i .i64 (bJ (a+b)),[]):=by
 have D:=aa1 F H
 have hc:=xG (a+b)
 clear F H
 rw[an agL (by simp[HQ])]
 by_cases h1:0≤a
 ·have r: ¬a<0:=zO
  by_cases h2:0≤b
  ·have h3: ¬a+b<0:=zO
   simp only[qA,seval,HQ,D,hc,HX,h1,r,h2,h3]
  ·simp only[qA,seval,HQ,D,hc,HX,h1,r,h2]
 ·have r:a<0:=zO
  by_cases h2:b<0
  ·have h3: ¬0≤a+b:=zO
   simp only[qA,seval,HQ,D,hc,HX,h1,r,h2,h3]
  ·simp only[qA,seval,HQ,D,hc,HX,h1,r,h2]
theorem Hi{a b:Int}(F:bd a)(H:bd b):ae pE 248 [.i .i64 a,.i .i64 b] []=some (.i .i64 (bJ (a+b)),[]):=by
 have D:=aa1 F H
 have hc:=SF (a+b)
 clear F H
 rw[an Vl (by simp[Fh])]
 by_cases h1:0<a
 ·have r: ¬a<0:=zO
  by_cases h2:0<b
  ·have h3: ¬a+b<0:=zO
   simp only[qA,seval,Fh,D,hc,AU,h1,r,h2,h3]
  ·simp only[qA,seval,Fh,D,hc,AU,h1,r,h2]
 ·by_cases r:a<0
  ·by_cases h2:b<0
   ·have h3: ¬0≤a+b:=zO
    simp only[qA,seval,Fh,D,hc,AU,h1,r,h2,h3]
   ·simp only[qA,seval,Fh,D,hc,AU,h1,r,h2]
  ·simp only[qA,seval,Fh,D,hc,AU,h1,r]
theorem aa2{a:Int}(h:bd a)(h0: ¬a<0):wr .u64 a=(a.natAbs:Int):=by unfold bd at h;rw[ni ⟨by omega,by omega⟩];omega
theorem azZ(n:Int):IntKind.wrap .u64 n=n%18446744073709551616:=by
 unfold IntKind.wrap
 have r:(IntKind.u64).bits=64:=rfl
 simp only[r]
 rw[if_neg (by simp[IntKind.signed])]
 rfl
theorem Hj(n:Int):wr .u64 n=n%18446744073709551616:=by
 show(if(0:Int)≤n∧n≤18446744073709551615 then n else IntKind.wrap .u64 n)=_
 rw[azZ]
 split <;> omega
theorem PC{a:Int}(h:bd a)(h0:a<0):wr .u64 (0-wr .u64 a)=(a.natAbs:Int):=by
 unfold bd at h
 rw[Hj,Hj];omega
theorem PD{a:Int}(h:bd a):ae pE 200 [.i .i64 a] []=some (.i .u64 (a.natAbs:Int),[]):=by
 rw[an ahU (by simp[PX])]
 by_cases h0:a<0
 ·have r:=PC h h0
  simp only[qA,seval,PX,h0,r]
 ·have r:=aa2 h h0
  simp only[qA,seval,PX,h0,r]
theorem Ao{a:Int}(h:bd a):ae pE 259 [.i .i64 a] []=some (.i .u64 (a.natAbs:Int),[]):=by
 rw[an aiD (by simp[P8])]
 by_cases h0:a<0
 ·have r:=PC h h0
  simp only[qA,seval,P8,h0,r]
 ·have r:=aa2 h h0
  simp only[qA,seval,P8,h0,r]
theorem az0(P Q R S:Int)(r:0≤P)(D:0≤Q)(F:0≤R)(H:0≤S):
  S+(Q+P/4294967296)/4294967296+((Q+P/4294967296)%4294967296+R)/4294967296=(S*18446744073709551616+(Q+R)*4294967296+P)/18446744073709551616:=by
 omega
theorem Hk{a b A B:Int}(D:0≤a)(r:0≤b)(F:a≤A)(H:b≤B):0≤a*b∧a*b≤A*B:=
 ⟨Int.mul_nonneg D r,Int.mul_le_mul F H r zO⟩
theorem aa3(X Y:Nat)(hX:X≤1099511627776)(hY:Y≤1099511627776):ae pE 199 [.i .u64 (X:Int),.i .u64 (Y:Int)] []=some (.tup [.i .u64 ((X:Int)*Y/18446744073709551616),.i .u64 ((X:Int)*Y%18446744073709551616)],[]):=by
 obtain⟨x1,C4⟩: ∃x1,x1=(X:Int)/4294967296:=⟨_,rfl⟩
 obtain⟨x0,W⟩: ∃x0,x0=(X:Int)%4294967296:=⟨_,rfl⟩
 obtain⟨r,Qe⟩: ∃r,r=(Y:Int)/4294967296:=⟨_,rfl⟩
 obtain⟨D,Z⟩: ∃D,D=(Y:Int)%4294967296:=⟨_,rfl⟩
 have hX':(X:Int)=x1*4294967296+x0:=zO
 have hY':(Y:Int)=r*4294967296+D:=zO
 have F:0≤x1∧x1≤256:=zO
 have H:0≤x0∧x0≤4294967295:=zO
 have I:0≤r∧r≤256:=zO
 have J:0≤D∧D≤4294967295:=zO
 have Hu:(X:Int)*Y=x1*r*18446744073709551616+(x1*D+x0*r)*4294967296+x0*D:=by
  grind
 have N:=Hk H.1 J.1 H.2 J.2
 have O:=Hk F.1 J.1 F.2 J.2
 have U:=Hk H.1 I.1 H.2 I.2
 have V:=Hk F.1 I.1 F.2 I.2
 have w0:wr .u64 (x0*D)=x0*D:=ni ⟨N.1,Int.le_trans N.2 yv⟩
 have w1:wr .u64 (x1*D)=x1*D:=ni ⟨O.1,Int.le_trans O.2 yv⟩
 have w2:wr .u64 (x0*r)=x0*r:=ni ⟨U.1,Int.le_trans U.2 yv⟩
 have w3:wr .u64 (x1*r)=x1*r:=ni ⟨V.1,Int.le_trans V.2 yv⟩
 have K:=az0 (x0*D) (x1*D) (x0*r) (x1*r) N.1 O.1 U.1 V.1
 rw[←Hu]at K
 have wlo:=Hj ((X:Int)*Y)
 rw[an ahT (by simp[T9]),←K]
 generalize hP:x0*D=P at N w0
 generalize hQ:x1*D=Q at O w1
 generalize hR:x0*r=R at U w2
 generalize hS:x1*r=S at V w3
 have w4:wr .u64 (Q+P/4294967296)=Q+P/4294967296:=ni ⟨by omega,by omega⟩
 have w5:wr .u64 ((Q+P/4294967296)%4294967296+R)=(Q+P/4294967296)%4294967296+R:=ni ⟨by omega,by omega⟩
 have w6:wr .u64 (S+(Q+P/4294967296)/4294967296)=S+(Q+P/4294967296)/4294967296:=ni ⟨by omega,by omega⟩
 have w7:wr .u64 (S+(Q+P/4294967296)/4294967296+((Q+P/4294967296)%4294967296+R)/4294967296)=S+(Q+P/4294967296)/4294967296+((Q+P/4294967296)%4294967296+R)/4294967296:=ni ⟨by omega,by omega⟩
 simp only[qA,seval,T9,aeQ,aeR,←W,←C4,←Z,←Qe,hP,hQ,hR,hS,w0,w1,w2,w3,w4,w5,w6,w7,wlo]
theorem Hl{a:Int}(h:bd a):a.natAbs≤1099511627776:=by grind [bd]
theorem PE(a b:Int):(a.natAbs:Int)*(b.natAbs:Int)=((a*b).natAbs:Int):=by rw[Int.natAbs_mul];omega
theorem Kx{a b:Int}(h:(a<0∧ ¬b<0)∨(¬a<0∧b<0)):a*b≤0:=by
 rcases h with⟨h1,h2⟩|⟨h1,h2⟩
 ·exact Int.mul_nonpos_of_nonpos_of_nonneg zO zO
 ·exact Int.mul_nonpos_of_nonneg_of_nonpos zO zO
theorem ET{a b:Int}(h:(a<0∧b<0)∨(¬a<0∧ ¬b<0)):0≤a*b:=by
 rcases h with⟨h1,h2⟩|⟨h1,h2⟩
 ·exact Int.mul_nonneg_of_nonpos_of_nonpos zO zO
 ·simp_all[Int.mul_nonneg]
theorem PF{a b:Int}(N:bd a)(O:bd b):ae pE 162 [.i .i64 a,.i .i64 b] []=some (.i .i64 (bJ (a*b)),[]):=by
 have h1:=PD N
 have h2:=PD O
 have h3:=aa3 a.natAbs b.natAbs (Hl N) (Hl O)
 rw[PE]at h3
 have hs:= @Kx a b
 have I:= @ET a b
 rw[an ahr (by simp[sx])]
 generalize hx:a*b=x at*
 generalize U:(x.natAbs:Int)/18446744073709551616=q1 at h3
 generalize V:(x.natAbs:Int)%18446744073709551616=q2 at h3
 have H:(if q1≠0 then(1099511627776:Int)else if 1099511627776<q2 then 1099511627776 else q2)=min (x.natAbs:Int) 1099511627776:=by
  grind
 by_cases D:q1=0
 ·by_cases F:(1099511627776:Int)<q2
  ·rw[if_neg (by simp[D]),if_pos F]at H
   by_cases r:a<0
   ·by_cases s2:b<0
    ·have:=I (.inl ⟨r,s2⟩)
     have e:bJ x=1099511627776:=by unfold bJ;omega
     simp only[qA,seval,sx,h1,h2,h3,pY,pX,D,F,r,s2,lB,e];rfl
    ·have:=hs (.inl ⟨r,s2⟩)
     have e:bJ x= -1099511627776:=by unfold bJ;omega
     simp only[qA,seval,sx,h1,h2,h3,pY,pX,D,F,r,s2,lB,e];rfl
   ·by_cases s2:b<0
    ·have:=hs (.inr ⟨r,s2⟩)
     have e:bJ x= -1099511627776:=by unfold bJ;omega
     simp only[qA,seval,sx,h1,h2,h3,pY,pX,D,F,r,s2,lB,e];rfl
    ·have:=I (.inr ⟨r,s2⟩)
     have e:bJ x=1099511627776:=by unfold bJ;omega
     simp only[qA,seval,sx,h1,h2,h3,pY,pX,D,F,r,s2,lB,e];rfl
  ·rw[if_neg (by simp[D]),if_neg F]at H
   have J:wr .i64 q2=q2:=bo ⟨by omega,by omega⟩
   have K:wr .i64 (0-q2)= -q2:=by rw[bo ⟨by omega,by omega⟩];omega
   by_cases r:a<0
   ·by_cases s2:b<0
    ·have:=I (.inl ⟨r,s2⟩)
     have e:bJ x=q2:=by unfold bJ;omega
     simp only[qA,seval,sx,h1,h2,h3,pY,pX,D,F,r,s2,lB,J,K,e];rfl
    ·have:=hs (.inl ⟨r,s2⟩)
     have e:bJ x= -q2:=by unfold bJ;omega
     simp only[qA,seval,sx,h1,h2,h3,pY,pX,D,F,r,s2,lB,J,K,e];rfl
   ·by_cases s2:b<0
    ·have:=hs (.inr ⟨r,s2⟩)
     have e:bJ x= -q2:=by unfold bJ;omega
     simp only[qA,seval,sx,h1,h2,h3,pY,pX,D,F,r,s2,lB,J,K,e];rfl
    ·have:=I (.inr ⟨r,s2⟩)
     have e:bJ x=q2:=by unfold bJ;omega
     simp only[qA,seval,sx,h1,h2,h3,pY,pX,D,F,r,s2,lB,J,K,e];rfl
 ·rw[if_pos D]at H
  by_cases r:a<0
  ·by_cases s2:b<0
   ·have:=I (.inl ⟨r,s2⟩)
    have e:bJ x=1099511627776:=by unfold bJ;omega
    simp only[qA,seval,sx,h1,h2,h3,pY,pX,D,r,s2,lB,e];rfl
   ·have:=hs (.inl ⟨r,s2⟩)
    have e:bJ x= -1099511627776:=by unfold bJ;omega
    simp only[qA,seval,sx,h1,h2,h3,pY,pX,D,r,s2,lB,e];rfl
  ·by_cases s2:b<0
   ·have:=hs (.inr ⟨r,s2⟩)
    have e:bJ x= -1099511627776:=by unfold bJ;omega
    simp only[qA,seval,sx,h1,h2,h3,pY,pX,D,r,s2,lB,e];rfl
   ·have:=I (.inr ⟨r,s2⟩)
    have e:bJ x=1099511627776:=by unfold bJ;omega
    simp only[qA,seval,sx,h1,h2,h3,pY,pX,D,r,s2,lB,e];rfl
theorem Ky{a b:Int}(h:b≠0):Ev.bin .quo (.i .u64 a) (.i .u64 b)=some (.i .u64 (wr .u64 (a.tdiv b))):=by
 simp only[Ev.bin,if_true,mH,if_neg h]
theorem aa4{a b:Int}(h:b≠0):Ev.bin .rem (.i .u64 a) (.i .u64 b)=some (.i .u64 (a.tmod b)):=by
 simp only[Ev.bin,if_true,mH,if_neg h]
theorem aa5{a b:Int}(h:b≠0):Ev.bin .quo (.i .i64 a) (.i .i64 b)=some (.i .i64 (wr .i64 (a.tdiv b))):=by
 simp only[Ev.bin,if_true,mH,if_neg h]
theorem aa6{a b:Int}(h:b≠0):Ev.bin .rem (.i .i64 a) (.i .i64 b)=some (.i .i64 (a.tmod b)):=by
 simp only[Ev.bin,if_true,mH,if_neg h]
theorem aow(x y:Nat)(r:0<y):((x:Int)≤(1099511627776:Int).tdiv (y:Int))↔(x:Int)*y≤1099511627776:=by
 have e:(1099511627776:Int).tdiv (y:Int)=((1099511627776/y:Nat):Int):=rfl
 rw[e]
 have:=Nat.le_div_iff_mul_le r (x:=x) (y:=1099511627776)
 have h2:(x:Int)*y=((x*y:Nat):Int):=xv
 rw[h2];omega
theorem agq{a b:Int}(J:bd a)(K:bd b):ae pE 249 [.i .i64 a,.i .i64 b] []=some (.i .i64 (bJ (a*b)),[]):=by
 have h1:=Ao J
 have h2:=Ao K
 have hs:= @Kx a b
 have N:= @ET a b
 have r:=PE a b
 rw[an Vm (by simp[K5])]
 by_cases a0:a=0
 ·subst a0
  simp only[qA,seval,K5,Int.zero_mul];rfl
 by_cases I:b=0
 ·subst I
  simp only[qA,seval,K5,Int.mul_zero,a0];rfl
 have D:=aow a.natAbs b.natAbs zO
 have F:((b.natAbs:Nat):Int)≠0:=zO
 have H:Ev.bin .quo (.i .u64 1099511627776) (.i .u64 (b.natAbs:Int))=some (.i .u64 ((1099511627776:Int).tdiv (b.natAbs:Int))):=by
  rw[Ky F]
  have e:(1099511627776:Int).tdiv (b.natAbs:Int)=((1099511627776/b.natAbs:Nat):Int):=rfl
  rw[e,ni ⟨Int.natCast_nonneg _,Int.le_trans (Int.ofNat_le.2 (Nat.div_le_self _ _)) yv⟩]
 rw[r]at D
 generalize (1099511627776:Int).tdiv (b.natAbs:Int)=q at D H
 generalize hx:a*b=x at*
 have O:x.natAbs≤1099511627776→wr .u64 (x.natAbs:Int)=(x.natAbs:Int):=fun h=>ni ⟨by omega,by omega⟩
 have U:x.natAbs≤1099511627776→wr .i64 (x.natAbs:Int)=(x.natAbs:Int):=fun h=>bo ⟨by omega,by omega⟩
 have V:x.natAbs≤1099511627776→wr .i64 (0-(x.natAbs:Int))= -(x.natAbs:Int):=fun h=>by rw[bo ⟨by omega,by omega⟩];omega
 simp only[qB,seval,K5,h1,h2,aiE,a0,I,H,r,lB]
 clear h1 h2 H
 unfold bJ
 grind (splits:=30)
theorem bq1:((true==true) != false)=true:=nr rfl
theorem bq2:((false==false) != false)=true:=nr rfl
theorem bq3:((true==false) != false)=false:=nr rfl
theorem bq4:((false==true) != false)=false:=nr rfl
theorem bq5:((true==true) != true)=false:=nr rfl
theorem bq6:((false==false) != true)=false:=nr rfl
theorem bq7:((true==false) != true)=true:=nr rfl
theorem bq8:((false==true) != true)=true:=nr rfl
theorem SG{a b:Int}(r:b≠0)(h:(a<0∧b<0)∨(¬a<0∧ ¬b<0)):a.fdiv b=((a.natAbs/b.natAbs:Nat):Int):=by
 rcases h with⟨h1,h2⟩|⟨h1,h2⟩
 ·rw[←Int.neg_fdiv_neg,Int.fdiv_eq_ediv_of_nonneg _ zO]
  have e1: -a=((a.natAbs:Nat):Int):=zO
  have e2: -b=((b.natAbs:Nat):Int):=zO
  rw[e1,e2];rfl
 ·rw[Int.fdiv_eq_ediv_of_nonneg _ zO]
  have e1:a=((a.natAbs:Nat):Int):=zO
  have e2:b=((b.natAbs:Nat):Int):=zO
  conv=>lhs;rw[e1,e2]
  rfl
theorem Kz(x y:Nat):(x:Int).fdiv (y:Int)=((x/y:Nat):Int):=by rw[Int.fdiv_eq_ediv_of_nonneg _ zO];rfl
theorem Aq(x y:Nat):((y:Int)∣(x:Int))↔x%y=0:=by rw[Int.natCast_dvd_natCast];exact Nat.dvd_iff_mod_eq_zero
def upN(x y:Nat):Nat:=x/y+if 0<x%y then 1 else 0
theorem SI{a b:Int}(F:b≠0)(h:(a<0∧ ¬b<0)∨(¬a<0∧b<0)):a.fdiv b= -((upN a.natAbs b.natAbs:Nat):Int):=by
 unfold upN
 rcases h with⟨h1,h2⟩|⟨h1,h2⟩
 ·have e1:a= -((a.natAbs:Nat):Int):=zO
  have e2:b=((b.natAbs:Nat):Int):=zO
  have D:b.natAbs≠0:=zO
  generalize a.natAbs=x,b.natAbs=y at*
  subst e1 e2
  rw[Int.neg_fdiv,Kz]
  by_cases r:x%y=0
  ·rw[if_pos (Or.inr ((Aq x y).2 r)),if_neg zO];omega
  ·rw[if_neg (by rintro(h|h)
                 ·omega
                 ·exact r ((Aq x y).1 h)),if_pos zO];omega
 ·have e1:a=((a.natAbs:Nat):Int):=zO
  have e2:b= -((b.natAbs:Nat):Int):=zO
  have D:((b.natAbs:Nat):Int)≠0:=zO
  generalize a.natAbs=x,b.natAbs=y at*
  subst e1 e2
  rw[Int.fdiv_neg D,Kz]
  by_cases r:x%y=0
  ·rw[if_pos ((Aq x y).2 r),if_neg zO];omega
  ·rw[if_neg (fun h=>r ((Aq x y).1 h)),if_pos zO];omega
theorem MZ(a b:Int)(h:bd a):a.natAbs/b.natAbs≤1099511627776:=Nat.le_trans (Nat.div_le_self _ _) (Hl h)
theorem agr{a b:Int}(N:bd a)(U:bd b):ae pE 250 [.i .i64 a,.i .i64 b] []=some (.i .i64 (L2 a b),[]):=by
 have h1:=Ao N
 have h2:=Ao U
 rw[an Vn (by simp[P6])]
 unfold L2
 by_cases D:b=0
 ·subst D
  simp only[qA,seval,P6]
 rw[if_neg D]
 have F:((b.natAbs:Nat):Int)≠0:=zO
 have H:=MZ a b N
 have O:Ev.bin .quo (.i .u64 (a.natAbs:Int)) (.i .u64 (b.natAbs:Int))=some (.i .u64 ((a.natAbs/b.natAbs:Nat):Int)):=by
  rw[Ky F]
  have e:(a.natAbs:Int).tdiv (b.natAbs:Int)=((a.natAbs/b.natAbs:Nat):Int):=rfl
  rw[e,ni ⟨Int.natCast_nonneg _,Int.le_trans (Int.ofNat_le.2 H) yv⟩]
 have hr:Ev.bin .rem (.i .u64 (a.natAbs:Int)) (.i .u64 (b.natAbs:Int))=some (.i .u64 ((a.natAbs%b.natAbs:Nat):Int)):=by
  rw[aa4 F];rfl
 have V:= @SG a b D
 have I:= @SI a b D
 unfold upN at I
 generalize a.natAbs/b.natAbs=q at*
 generalize a.natAbs%b.natAbs=r at*
 have J: ∀n:Nat,¬(1099511627776:Int)<(n:Int)→wr .i64 (n:Int)=(n:Int):=fun n h=>bo ⟨by omega,by omega⟩
 have K: ∀n:Nat,¬(1099511627776:Int)<(n:Int)→wr .i64 (0-(n:Int))= -(n:Int):=fun n h=>by rw[bo ⟨by omega,by omega⟩];omega
 have W: ¬(1099511627776:Int)<(q:Int):=zO
 have m3:wr .u64 ((q:Int)+1)=((q+1:Nat):Int):=by rw[ni ⟨by omega,by omega⟩];omega
 have X:=J (q+1)
 have Y:=K (q+1)
 have Z:=J q
 have m7:=K q
 simp only[qB,seval,P6,h1,h2,aiE,D,O,hr,lB,bq1,bq2,bq3,bq4,m3]
 clear h1 h2 O hr J K
 unfold bJ
 grind (splits:=30)
theorem ags:bd (-1):=by unfold bd;omega
theorem agt{a b:Int}(H:bd a)(V:bd b):ae pE 163 [.i .i64 a,.i .i64 b] []=some (.i .i64 (L2 a b),[]):=by
 have K:=PF H ags
 rw[an aht (by simp[KZ])]
 unfold L2
 by_cases D:b=0
 ·subst D
  simp only[qA,seval,KZ]
 rw[if_neg D]
 by_cases I:b= -1
 ·subst I
  have e:a.fdiv (-1)=a* -1:=by
   have:=Int.fdiv_neg (a:=a) (b:=1) yv
   rw[if_pos (Int.one_dvd a),Int.fdiv_one]at this
   rw[this];omega
  rw[e]
  simp only[qA,seval,KZ,K,ahs]
 have W:= @Int.fdiv_eq_tdiv a b
 have X:= @Int.dvd_iff_tmod_eq_zero b a
 have N:=Int.natAbs_tdiv_le_natAbs a b
 have O:=Hl H
 have F:Ev.bin .quo (.i .i64 a) (.i .i64 b)=some (.i .i64 (a.tdiv b)):=by
  rw[aa5 D,bo ⟨by omega,by omega⟩]
 have J:=aa6 (a:=a) D
 have EI:=xG (a.tdiv b)
 have Aj:=xG (a.tdiv b-1)
 have U:wr .i64 (a.tdiv b-1)=a.tdiv b-1:=bo ⟨by omega,by omega⟩
 generalize a.tdiv b=q at*
 generalize a.tmod b=r at*
 have e1:b<0→b.sign= -1:=Int.sign_eq_neg_one_of_neg
 have e2:0<b→b.sign=1:=Int.sign_eq_one_of_pos
 simp only[qB,seval,KZ,D,I,F,J,EI,Aj,HX,lB,bq5,bq6,bq7,bq8,U]
 clear EI Aj F J
 grind (splits:=30)
theorem agu(a b:Int):bd (L2 a b):=by
 unfold L2
 split
 ·unfold bd;omega
 ·exact sw _
def bit(n:Int):Prop:=n=0∨n=1
theorem aox{n:Int}(h:bit n):bd n:=by unfold bit at h;unfold bd;omega
theorem SJ(b:Bool):bit (nq b):=by cases b <;> simp[nq,bit]
theorem M0(c f t:Int):ae pE 111 [.i .i64 c,.i .i64 f,.i .i64 t] []=some (.b (dQ c f t),[]):=by
 rw[an UI (by simp[PJ])]
 unfold dQ
 by_cases h1:f≤t
 ·by_cases h2:f≤c <;> by_cases h3:c<t <;> simp only[qA,seval,PJ,h1,h2,h3]
 ·by_cases h2:f≤c <;> by_cases h3:c<t <;> simp only[qA,seval,PJ,h1,h2,h3,or_true,or_false,or_self]
theorem M4(c f t:Int):ae pE 251 [.i .i64 c,.i .i64 f,.i .i64 t] []=some (.b (dQ c f t),[]):=by
 have h:ae pE 256 [.i .i64 c,.i .i64 f,.i .i64 t] []=some (.b (dQ c f t),[]):=by
  rw[an Vp (by simp[Fi])]
  unfold dQ
  by_cases h1:f≤t
  ·by_cases h2:f≤c <;> by_cases h3:c<t <;> simp only[qA,seval,Fi,h1,h2,h3]
  ·by_cases h2:f≤c <;> by_cases h3:c<t <;> simp only[qA,seval,Fi,h1,h2,h3,or_true,or_false,or_self]
 rw[an Vo (by simp[Uo])]
 simp only[qA,seval,Uo,h,Vq]
theorem Ag(b:Bool):ae pE 185 [.b b] []=some (.i .i64 (nq b),[]):=by
 rw[an U4 (by simp[T1])]
 cases b <;> simp only[qA,seval,T1,nq]
theorem wa(b:Bool):ae pE 110 [.b b] []=some (.i .i64 (nq b),[]):=by
 rw[an UH (by simp[Tn])]
 cases b <;> simp only[qA,seval,Tn,nq]
def M5(op:Int):Int→List Int→Int:=if op=12 then amo else amp
theorem CN(op m v:Int)(r:List Int)(h:op=12∨op=13):M5 op m (v::r)=M5 op (if op=12 then min m v else max m v) r:=by
 unfold M5
 rcases h with rfl|rfl <;> rfl
theorem Hm(op m:Int):M5 op m []=m:=by unfold M5;split <;> rfl
theorem aHT(op num:Int)(Bg:op=12∨op=13)(r:List Int)(U:0<r.length)(a:T)(H:IsSl a r.length (ints r))(hlen:r.length≤kP)(fr:Fr)(lh:aB ah)(sh:List ah)
  (h0:aa fr 0= .i .i64 op) (h2:aa fr 2=a) (J:aa fr 7= .i .i64 (a0 r)) (K:aa fr 8= .i .i64 1):
  Lp pE 176 zw fr lh sh (.ext 1) fun f l s=>aa f 7= .i .i64 (M5 op (a0 r) r.tail)∧l=lh∧s=sh:=by
 refine bV apM (fun k f l s=> ∃m,aa f 7= .i .i64 m∧aa f 8= .i .i64 ((k+1:Nat):Int)∧M5 op m (r.drop (k+1))=M5 op (a0 r) r.tail∧l=lh∧s=sh) (r.length-1) ⟨_,J,K,by simp,rfl,rfl⟩ ?_ ?_
 ·rintro k f _ _ hk F ⟨m,I,g8,hx,rfl,rfl⟩
  have D:k+1<r.length:=zO
  have N:((k+1:Nat):Int)<r.length:=zO
  have O:=bj (k:=k+1) zO
  rw[List.drop_eq_getElem_cons D,CN _ _ _ _ Bg]at hx
  rcases Bg with rfl|rfl <;> simp only[qB,seval,gd,zw,F,h0,h2,I,g8,H.lenI,N,Ci H D,O,lB,bq1,bq2,bq3,bq4] <;> clear F <;> grind
 ·rintro f _ _ F ⟨m,I,g8,hx,rfl,rfl⟩
  rw[show r.length-1+1=r.length by omega]at hx g8
  rw[List.drop_length,Hm]at hx
  simp only[qB,seval,gd,zw,F,h2,I,g8,H.lenI,Int.lt_irrefl,hx]
def vOk(op:Int)(r:List Int):Prop:=(∀v∈r,bd v)∧((op=19∨op=20∨op=21∨op=22)→ ∀v∈r,bit v)∧(op=14→bit (a0 r))
theorem Sa(op num:Int)(r:List Int)(a:T)(D:IsSl a r.length (ints r))(hl:r.length≤kP)(h1:7≤op)(h2:op≤22)(F:eo op r.length=true)(X:vOk op r):ae pE 239 [.i .i64 op,.i .i64 num,a] []=some (.i .i64 (Gg op r),[]):=by
 rw[an Vg (by simp[qD])]
 obtain⟨K,KA,N⟩:=X
 have O: ∀x H,r=x::H→(op=12∨op=13)→uV qD.res qD.eff (DC pE qD.n qD.code ⟨lb [.i .i64 op,.i .i64 num,a],.nil,[]⟩)=some (.i .i64 (M5 op (a0 r) r.tail),[]):=by
  rintro x H rfl V
  have W:=fun fr lh sh=>aHT op num V (x::H) xv a D hl fr lh sh
  obtain⟨ex,rfl⟩:=oJ D
  have Y:0<H.length+1:=Nat.succ_pos _
  have Z:a0 (x::H)=x:=rfl
  rw[Z]at W ⊢
  rcases V with rfl|rfl <;> simp only[qA,seval,di,qD,Y,W]
 have sQ:1≤op:=zO
 rcases vY sQ h2 with rfl|rfl|rfl|rfl|rfl|rfl|rfl|rfl|rfl|rfl|rfl|rfl|rfl|rfl|rfl|rfl|rfl|rfl|rfl|rfl|rfl|rfl
 all_goals first
  |exact absurd h1 yv
  |(obtain⟨x,y,rfl⟩:=oK (by simpa[eo]using F);obtain⟨ex,rfl⟩:=oJ D;have hx:=K x xv;have I:=K y xv;simp only[qA,seval,di,bp,aJ,qD,ints,Hi hx I,Hi hx (tW I),agq hx I,agr hx I,Hg I,Ag,aiy,av1,av2,av3,av4,av5,Nj,U5];rfl)
  |(match r,F with
     |x::ts,_=>exact O x ts rfl xv)
  |skip
 ·obtain⟨x,rfl⟩:=MU (by simpa[eo]using F)
  obtain⟨ex,rfl⟩:=oJ D
  have hx:=K x xv
  have h:=Hi (a:=0) (by unfold bd;omega) (tW hx)
  have J:=Hg hx
  rw[show(0:Int)+ -x= -x by omega,ER (tW hx)]at h
  simp only[qA,seval,di,qD,ints,J,h,aiy];rfl
 ·obtain⟨x,y,z,rfl⟩:=MV (by simpa[eo]using F)
  obtain⟨ex,rfl⟩:=oJ D
  have e:Gg 14 [x,y,z]=if x=0 then z else y:=rfl
  rw[e]
  rcases N rfl with hx|hx <;> (change x=_ at hx;subst hx;simp only[qA,seval,di,qD,ints])
 ·obtain⟨x,y,z,rfl⟩:=MV (by simpa[eo]using F)
  obtain⟨ex,rfl⟩:=oJ D
  simp only[qA,seval,di,bp,aJ,qD,ints,M4,Ag,av6,av7,Nj,U5];rfl
 ·obtain⟨x,rfl⟩:=MU (by simpa[eo]using F)
  obtain⟨ex,rfl⟩:=oJ D
  have U:=KA xv x xv
  have J:wr .i64 (1-x)=1-x:=by unfold bit at U;exact bo ⟨by omega,by omega⟩
  simp only[qA,seval,di,qD,ints,J];rfl
 all_goals
  obtain⟨x,y,rfl⟩:=oK (by simpa[eo]using F)
  obtain⟨ex,rfl⟩:=oJ D
  have U:=KA xv x xv
  have J:wr .i64 (1-x)=1-x:=by unfold bit at U;exact bo ⟨by omega,by omega⟩
  have e1:Gg 20 [x,y]=min x y:=rfl
  have e2:Gg 21 [x,y]=max x y:=rfl
  have e3:Gg 22 [x,y]=max (1-x) y:=rfl
  simp only[qB,seval,di,bp,aJ,qD,ints,J,e1,e2,e3]
  grind
theorem M6(op a b:Int)(J:vOk op [a,b])(K:op=8∨op=9∨op=10∨op=11∨op=16∨op=17∨op=18∨op=20∨op=21∨op=22):ae pE 113 [.i .i64 op,.i .i64 a,.i .i64 b] []=some (.i .i64 (Gg op [a,b]),[]):=by
 rw[an UK (by simp[uf])]
 obtain⟨H,KA,_⟩:=J
 have F:=H a xv
 have D:=H b xv
 have r:(op=19∨op=20∨op=21∨op=22)→bit a∧bit b:=fun h=>⟨KA h a xv,KA h b xv⟩
 clear H KA
 rcases K with rfl|rfl|rfl|rfl|rfl|rfl|rfl|rfl|rfl|rfl
 ·have h:=Hh F D
  simp only[qA,seval,uf,h,UJ];rfl
 ·have h:=Hh F (tW D)
  have I:=Hg D
  simp only[qA,seval,uf,h,I,UJ];rfl
 ·have h:=PF F D
  simp only[qA,seval,uf,h,ahs];rfl
 ·have h:=agt F D
  simp only[qA,seval,uf,h,avC];rfl
 ·have h:=wa (decide (a<b))
  simp only[qA,seval,uf,h,Nb];rfl
 ·have h:=wa (decide (a≤b))
  simp only[qA,seval,uf,h,Nb];rfl
 ·have h:=wa (decide (a=b))
  simp only[qA,seval,uf,h,Nb];rfl
 ·obtain⟨h1,h2⟩:=r xv
  have h:=aeS h1 h2
  simp only[qA,seval,uf,h];rfl
 ·obtain⟨h1,h2⟩:=r xv
  have h:=XG h1 h2
  simp only[qA,seval,uf,h];rfl
 ·obtain⟨h1,h2⟩:=r xv
  have I:wr .i64 (1-a)=1-a:=by unfold bit at h1;exact bo ⟨by omega,by omega⟩
  have h:=XG (a:=1-a) (b:=b) (by unfold bit at h1;omega) h2
  simp only[qA,seval,uf,I,h];rfl
inductive Fm where
 |mk (op num:Int) (args:List Fm)
def Fm.op:Fm→Int| .mk o _ _=>o
def Fm.num:Fm→Int| .mk _ n _=>n
def Fm.args:Fm→List Fm| .mk _ _ a=>a
mutual
def jE:Fm→List T→Prop
 | .mk op num args,cs=> ∃a r,cs= [.i .i64 op,.i .i64 num,a]∧IsSl a args.length r∧bg args r
def bg:List Fm→List T→Prop
 | [],cs=>cs= []
 |x::xs,cs=> ∃c r,cs=c++r∧jE x c∧bg xs r
end
theorem jE.cells{x:Fm}{cs:List T}(h:jE x cs): ∃a r,cs= [.i .i64 x.op,.i .i64 x.num,a]∧IsSl a x.args.length r∧bg x.args r:=by
 obtain⟨o,n,a⟩:=x
 rw[jE]at h
 exact h
theorem jE.of{x:Fm}{a:T}{r:List T}(h1:IsSl a x.args.length r)(h2:bg x.args r):jE x [.i .i64 x.op,.i .i64 x.num,a]:=by
 obtain⟨o,n,l⟩:=x
 rw[jE]
 exact⟨a,r,rfl,h1,h2⟩
theorem jE.len{x:Fm}{cs:List T}(h:jE x cs):cs.length=3:=by
 obtain⟨a,r,rfl,_⟩:=h.cells;rfl
theorem bg.nil:bg [] []:=by rw[bg]
theorem bg.cons{x:Fm}{xs:List Fm}{c r:List T}(h1:jE x c)(h2:bg xs r):bg (x::xs) (c++r):=by
 grind [bg]
theorem bg.append: ∀{xs D:List Fm} {c r:List T},bg xs c→bg D r→bg (xs++D) (c++r)
 | [],D,c,r,h1,h2=>by grind [bg]
 |x::xs,D,c,r,h1,h2=>by
  rw[bg]at h1
  obtain⟨F,H,rfl,h3,h4⟩:=h1
  rw[List.append_assoc]
  exact bg.cons h3 (bg.append h4 h2)
theorem bg.one{x:Fm}{c:List T}(h:jE x c):bg [x] c:=by
 have:=bg.cons h bg.nil
 grind
theorem bg.len: ∀{xs:List Fm} {cs:List T},bg xs cs→cs.length=xs.length*3
 | [],cs,h=>by grind [bg]
 |x::xs,cs,h=>by
  rw[bg]at h
  obtain⟨c,r,rfl,h1,h2⟩:=h
  rw[List.length_append,h1.len,h2.len,List.length_cons];omega
theorem bg.drop: ∀{xs:List Fm} {cs:List T} (k:Nat) (hk:k<xs.length),bg xs cs→ ∃c r,cs.drop (k*3)=c++r∧jE xs[k] c∧bg (xs.drop (k+1)) r
 | [],cs,k,hk,h=>by simp at hk
 |x::xs,cs,0,hk,h=>by
  grind [bg]
 |x::xs,cs,k+1,hk,h=>by
  rw[bg]at h
  obtain⟨c,r,rfl,h1,h2⟩:=h
  obtain⟨D,F,e,h3,h4⟩:=bg.drop k (by simpa using hk) h2
  refine⟨D,F, ?_,h3,by simpa using h4⟩
  have:(k+1)*3=c.length+k*3:=by rw[h1.len];omega
  grind [List.drop_append,Nat.add_sub_cancel_left,List.drop_eq_nil_of_le]
theorem YA{xs:List Fm}{a:T}{F:List T}(h1:IsSl a xs.length F)(h2:bg xs F)(k:Nat)(hk:k<xs.length):
  ∃b D r,(∀kk,dV a (.i kk (k:Int)) 3=some (.vp (.i .i64 xs[k].op:: .i .i64 xs[k].num::b::r)))∧IsSl b xs[k].args.length D∧bg xs[k].args D:=by
 obtain⟨c,r,e,h3,h4⟩:=bg.drop k hk h2
 obtain⟨b,D,rfl,h5,h6⟩:=h3.cells
 refine⟨b,D,r,fun kk=> ?_,h5,h6⟩
 rw[h1.ia (sz:=3) h2.len hk,e];rfl
mutual
def Fm.val(r:List Int):Fm→Int
 | .mk op num args=>if op=1 then num else if op=6 then r.getD num.toNat 0 else Gg op (fB r args)
def fB(r:List Int):List Fm→List Int
 | []=> []
 |x::xs=>x.val r::fB r xs
end
theorem Fm.val_eq(r:List Int)(x:Fm):x.val r=if x.op=1 then x.num else if x.op=6 then r.getD x.num.toNat 0 else Gg x.op (fB r x.args):=by obtain⟨_,_,_⟩:=x;rw[Fm.val];rfl
theorem rE(r:List Int): ∀xs,fB r xs=xs.map (Fm.val r)
 | []=>rfl
 |x::xs=>by rw[fB,rE r xs];rfl
mutual
def Ep(r:List Int):Fm→Prop
 | .mk op num args=>(op=1∧bd num)∨(op=6∧0≤num∧num.toNat<r.length∧bd (r.getD num.toNat 0))∨(7≤op∧op≤22∧eo op args.length=true∧args.length≤kP∧CP r args∧vOk op (fB r args))
def CP(r:List Int):List Fm→Prop
 | []=>True
 |x::xs=>Ep r x∧CP r xs
end
theorem Hn(r:List Int)(x:Fm):Ep r x↔((x.op=1∧bd x.num)∨(x.op=6∧0≤x.num∧x.num.toNat<r.length∧bd (r.getD x.num.toNat 0))∨(7≤x.op∧x.op≤22∧eo x.op x.args.length=true∧x.args.length≤kP∧CP r x.args∧vOk x.op (fB r x.args))):=by obtain⟨_,_,_⟩:=x;rw[Ep];rfl
theorem KB(r:List Int): ∀{xs:List Fm},CP r xs↔ ∀x∈xs,Ep r x
 | []=>by simp[CP]
 |x::xs=>by simp_all[CP,KB]
mutual
def Fm.sz:Fm→Nat
 | .mk _ _ args=>1+tE args
def tE:List Fm→Nat
 | []=>0
 |x::xs=>x.sz+tE xs
end
theorem Fm.sz_eq(x:Fm):x.sz=1+tE x.args:=by obtain⟨_,_,_⟩:=x;rw[Fm.sz];rfl
theorem B2: ∀{xs:List Fm} {x:Fm},x∈xs→x.sz≤tE xs
 |y::xs,x,h=>by
  rw[tE]
  rcases List.mem_cons.1 h with rfl|h
  ·omega
  ·have:=B2 h;omega
theorem Fm.ind{P:Fm→Prop}(h: ∀x:Fm,(∀y∈x.args,P y)→P x)(x:Fm):P x:=by
 have: ∀n (x:Fm),x.sz≤n→P x:=by
  intro n
  induction n with
  |zero=>intro x hx;rw[x.sz_eq]at hx;omega
  |succ n ih=>
   intro x hx
   refine h x fun y r=>ih y ?_
   have:=B2 r
   rw[x.sz_eq]at hx;omega
 exact this _ x (Nat.le_refl _)
end Go.Proofs.YtcpceiclnbmgiaaGreat
