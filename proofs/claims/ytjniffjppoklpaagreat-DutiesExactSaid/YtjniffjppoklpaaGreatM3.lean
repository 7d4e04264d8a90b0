/- Walks of functions of the program and of the reference, and their plain laws, part 3. Conditions: the theorems' own. -/
import Derived.Test.YtjniffjppoklpaaGreatM2
import Derived.KernelRfl
set_option maxRecDepth 100000
set_option linter.unusedSimpArgs false
set_option linter.unusedVariables false
set_option maxHeartbeats 16000000
namespace Go.Proofs.YtjniffjppoklpaaGreat
open Go Go.Ev
theorem oa(l:Cs): ∀n,(lz l n).length=n
 |0=>rfl
 |n+1=>by rw[lz,List.length_append,oa l n];rfl
theorem xS(l:Cs){n:Nat}(h:n<l.length):lz l (n+1)=lz l n++ [wj (l.take n) (lz l n) l[n].2]:=by
 rw[lz];simp[List.getD_eq_getElem?_getD,List.getElem?_eq_getElem h]
def ZQ(l:Cs):Prop:= ∀c∈l,0≤c.2.nodes∧c.2.sm
theorem uu(a:List Int)(x:Int):ints (a++ [x])=ints a++ [.i .i64 x]:=by simp[ints]
section
variable(l:Cs)(lT:T)(cl:List T)(hl:iJ lT l.length cl)(ls:lB l cl)(hlen:l.length≤pG)(sX:ZQ l)
include hl ls hlen sX
theorem aDl(V g3:Nat)(fr:Fr)(lh:iL iy)(sh:List iy)
  (K:an fr 0=lT) (Y:an fr 2= .ptr .L 2 V 0) (N:an fr 3= .ptr .L 3 g3 0) (W:an fr 4= .i .i64 0) (Z:a6 lh 2=⟨V,.cells [.nilsl,.nilsl] 0 true⟩) (O:a6 lh 3=⟨g3,.cells [.nilsl,.nilsl] 0 true⟩):
  qG 47 pj fr lh sh (.ext 0)∧
  (a6 (nh pE 47 pj fr lh sh) 2=⟨V,.cells [.nilsl,.nilsl] 0 true⟩∧(∃D F,a6 (nh pE 47 pj fr lh sh) 3=⟨g3,.cells [D,F] 0 true⟩∧jr (nh pE 47 pj fr lh sh) D 38 1 l.length (ints ((lz l l.length).map (·.1)))∧jr (nh pE 47 pj fr lh sh) F 43 1 l.length (ints ((lz l l.length).map (·.2))))∧nB pE 47 pj fr lh sh=sh):=by
 refine jh (P:=fun jB je jk=>a6 je 2=⟨V,.cells [.nilsl,.nilsl] 0 true⟩∧(∃D F,a6 je 3=⟨g3,.cells [D,F] 0 true⟩∧jr je D 38 1 l.length (ints ((lz l l.length).map (·.1)))∧jr je F 43 1 l.length (ints ((lz l l.length).map (·.2))))∧jk=sh)
  (jx (fun k st=> ∃(fr:Fr) (H:iL iy) (D F:T),st=⟨fr,H,sh⟩∧an fr 0=lT∧an fr 2= .ptr .L 2 V 0∧an fr 3= .ptr .L 3 g3 0∧an fr 4= .i .i64 (k:Int)∧a6 H 2=⟨V,.cells [.nilsl,.nilsl] 0 true⟩∧a6 H 3=⟨g3,.cells [D,F] 0 true⟩∧
    jr H D 38 1 k (ints ((lz l k).map (·.1)))∧jr H F 43 1 k (ints ((lz l k).map (·.2)))) _ l.length ?_ ?_ 0 _ (Nat.zero_le _) ⟨fr,lh,.nilsl,.nilsl,rfl,K,Y,N,W,Z,O,jr.nil,jr.nil⟩)
 ·rintro k _ hk ⟨fr,H,D,F,rfl,K,Y,N,W,Z,O,E,RM⟩
  left
  have iU:(k:Int)<l.length:=by omega
  have hw:=iZ (k:=k) (by omega)
  obtain⟨b,cb,r,iW,lE,uE,hb⟩:=mH hl ls k hk
  obtain⟨wo,P2⟩:=sX l[k] (List.getElem_mem hk)
  have I:=rH l[k].2 _ hb P2
  rw[xS l hk,List.map_append,List.map_append]
  simp only[List.map_cons,List.map_nil,uu]
  unfold wj
  by_cases X:jD l[k].2=0
  ·rw[if_neg (by simp[X])]
   rw[X]at I
   have uq:l[k].2.wf=true:=by
    grind [jD]
   rcases hl with⟨_,hz,_⟩|⟨ex,rfl⟩
   ·omega
   have wz:k≤l.length:=by omega
   have UL:=ls.len
   have oh:=aaZ (l.take k) (lz l k) (.sl (List.take (k*5) cl) k (ex&&decide (k=l.length))) (ku k (ints ((lz l k).map (·.1)))) (ku k (ints ((lz l k).map (·.2)))) (cl.take (k*5)) (Or.inr ⟨_,by rw[List.length_take,Nat.min_eq_left wz]⟩) (ls.take k) (by rw[List.length_take];omega) (by rw[oa,List.length_take,Nat.min_eq_left wz])
    (by rw[oa];exact E.isl) (by rw[oa];exact RM.isl) 0 l[k].2 _ hb (by have:=AY X;omega) uq
   generalize l[k].2.ty (clk (l.take k) (lz l k)) 0=q at oh ⊢
   obtain⟨J,U⟩:=q
   simp only at oh ⊢
   have P3:=pD E (by omega) (sh:=sh) (T.i .i64 J) true
   have UM:=pD (RM.congr (P3.2.2 43 (by decide))) (by omega) (sh:=sh) (T.i .i64 U) true
   have e3:a6 (HL H sh 38 1 8 D (.sl [.i .i64 J] 1 true)) 3=⟨g3,.cells [D,F] 0 true⟩:=by rw[P3.2.2 3 (by decide),O]
   have e4:a6 (HL (HL H sh 38 1 8 D (.sl [.i .i64 J] 1 true)) sh 43 1 8 F (.sl [.i .i64 U] 1 true)) 3=⟨g3,.cells [D,F] 0 true⟩:=by rw[UM.2.2 3 (by decide),e3]
   simp only[qA,seval,BS,repl,jw,oW,iN,pd,pj,K,N,W,O,iU,iW,hw,I,Cu,lE.froz1,wz,UL,Nat.sub_zero,Nat.le_refl,E.fzW,RM.fzW,asn,aso,oh,E.notS,RM.notS,sa E,sa RM,P3.1,UM.1,e3,e4,P3.2.1.cells,P3.2.1.noTup,UM.2.1.cells,UM.2.1.noTup]
   refine⟨_,rfl,_,_,Zd H sh 38 1 8 D (.sl [.i .i64 J] 1 true),Zd (HL H sh 38 1 8 D (.sl [.i .i64 J] 1 true)) sh 43 1 8 F (.sl [.i .i64 U] 1 true),rfl, ?_, ?_, ?_, ?_, ?_, ?_, ?_, ?_⟩
   all_goals first|(simp only[qA,seval,K,Y,N];done)|skip
   ·simp only[qA,seval];rw[UM.2.2 2 (by decide),P3.2.2 2 (by decide),Z]
   ·refine jr.congr (lh:=HL H sh 38 1 8 D (.sl [.i .i64 J] 1 true)) P3.2.1 ?_
    simp only[qA,seval]
    grind
   ·refine jr.congr UM.2.1 ?_
    simp only[qA,seval]
  ·rw[if_pos X]
   obtain⟨J,h1q⟩: ∃q:Int,q=0:=⟨0,rfl⟩
   rw[←h1q]
   have ai9:=I
   generalize hq2:jD l[k].2=U at ai9 X ⊢
   have P3:=pD E (by omega) (sh:=sh) (T.i .i64 J) true
   have UM:=pD (RM.congr (P3.2.2 43 (by decide))) (by omega) (sh:=sh) (T.i .i64 U) true
   have e3:a6 (HL H sh 38 1 8 D (.sl [.i .i64 J] 1 true)) 3=⟨g3,.cells [D,F] 0 true⟩:=by rw[P3.2.2 3 (by decide),O]
   have e4:a6 (HL (HL H sh 38 1 8 D (.sl [.i .i64 J] 1 true)) sh 43 1 8 F (.sl [.i .i64 U] 1 true)) 3=⟨g3,.cells [D,F] 0 true⟩:=by rw[UM.2.2 3 (by decide),e3]
   subst h1q
   simp only[qA,seval,BS,repl,jw,oW,iN,pd,pj,K,N,W,O,hl.lenI,iU,iW,hw,ai9,Cu,lE.froz1,X,E.notS,RM.notS,sa E,sa RM,P3.1,UM.1,e3,e4,P3.2.1.cells,P3.2.1.noTup,UM.2.1.cells,UM.2.1.noTup]
   refine⟨_,rfl,_,_,Zd H sh 38 1 8 D (.sl [.i .i64 0] 1 true),Zd (HL H sh 38 1 8 D (.sl [.i .i64 0] 1 true)) sh 43 1 8 F (.sl [.i .i64 U] 1 true),rfl, ?_, ?_, ?_, ?_, ?_, ?_, ?_, ?_⟩
   all_goals first|(simp only[qA,seval,K,Y,N];done)|skip
   ·simp only[qA,seval];rw[UM.2.2 2 (by decide),P3.2.2 2 (by decide),Z]
   ·refine jr.congr (lh:=HL H sh 38 1 8 D (.sl [.i .i64 0] 1 true)) P3.2.1 ?_
    simp only[qA,seval]
    grind
   ·refine jr.congr UM.2.1 ?_
    simp only[qA,seval]
 ·rintro _ ⟨fr,H,D,F,rfl,K,Y,N,W,Z,O,E,RM⟩
  simp only[qA,seval,pj,K,W,hl.lenI,Int.lt_irrefl]
  grind
theorem am2:be pE 107 [lT] []=some (.agg [ku l.length (ints ((lz l l.length).map (·.1))),ku l.length (ints ((lz l l.length).map (·.2)))],[]):=by
 have r:=fun fr lh sh D E F H I J=>aDl l lT cl hl ls hlen sX 1 1 fr lh sh D E F H I J
 have O:=fun fr lh sh D E F H I J=>And.intro (r fr lh sh D E F H I J).1 (And.intro (r fr lh sh D E F H I J).2.1 (And.intro (Jk (r fr lh sh D E F H I J).2.2.1).1 (r fr lh sh D E F H I J).2.2.2))
 have K:=fun m keep N e fr lh sh D E F H I J=>jr.fzW (m:=m) (keep:=keep) (sh:=N) (jr.congr (Jk (r fr lh sh D E F H I J).2.2.1).2.1 (jF (k:=2) (m:=38) _ e (by decide)))
 have RM:=fun m keep N e fr lh sh D E F H I J=>jr.fzW (m:=m) (keep:=keep) (sh:=N) (jr.congr (Jk (r fr lh sh D E F H I J).2.2.1).2.2 (jF (k:=2) (m:=43) _ e (by decide)))
 rw[iD WQ (by simp[VN])]
 simp only[qA,seval,VN,Si,O,K,RM,yU]
theorem Gi(scope:Int)(x:Ex)(cs:List T)(F:mE x cs)(U:0≤x.nodes)(hs:x.sm):be pE 67 [lT,.i .i64 scope,.agg cs] []=some (.tup [.i .i64 (ub l scope x).1,.i .i64 (ub l scope x).2],[]):=by
 have r:=rH x cs F hs
 have H:=am2 l lT cl hl ls hlen sX
 have J:iJ (ku l.length (ints ((lz l l.length).map (·.1)))) l.length (ints ((lz l l.length).map (·.1))):=oN fun I=>by rw[I];rfl
 have MP:iJ (ku l.length (ints ((lz l l.length).map (·.2)))) l.length (ints ((lz l l.length).map (·.2))):=oN fun I=>by rw[I];rfl
 have E:=fun(GW:jD x=0) N=>aaZ l (lz l l.length) lT _ _ cl hl ls hlen (oa l _) (by rw[oa];exact J) (by rw[oa];exact MP) scope x cs F (by have:=AY GW;omega) N
 obtain⟨a,V,rfl,K,W⟩:=F.cells
 rw[iD ajW (by simp[c67])]
 unfold ub
 by_cases D:jD x=0
 ·rw[if_neg (by simp[D])]
  rw[D]at r
  have O:x.wf=true:=by
   grind [jD]
  have E:=E D O
  generalize x.ty (clk l (lz l l.length)) scope=q at E ⊢
  simp only[qA,seval,jw,iN,c67,r,Cu,K.froz1,H,asp,asq,hl.froz,E,WN,WO,J.froz1,MP.froz1]
 ·rw[if_pos D]
  generalize jD x=e at r D ⊢
  simp only[qA,seval,c67,r,Cu,K.froz1,D]
end
theorem Gj{α:Type}: ∀(A R:List α) (j:Nat) (r:List α),splice (A++R) (A.length+j) r=A++splice R j r
 | [],R,j,r=>by simp
 |a::A,R,j,r=>by
  rw[List.cons_append,List.length_cons,show A.length+1+j=(A.length+j)+1 by omega,splice,Gj A R j r];rfl
theorem C3{α:Type}: ∀(z R r:List α),r.length=z.length→splice (z++R) 0 r=r++R
 | [],R,[],_=>by cases R <;> rfl
 |c::z,R,v::r,h=>by simp_all[List.cons_append,splice,C3]
theorem Gk{α:Type}(A z R r:List α)(k:Nat)(D:A.length=k)(h:r.length=z.length):splice (A++(z++R)) k r=(A++r)++R:=by
 have:=Gj A (z++R) 0 r
 simp_all[Nat.add_zero,C3,List.append_assoc]
theorem Cj{α:Type}(z:List α)(n:Nat):repl z (n+1)=z++repl z n:=rfl
theorem Gl{α:Type}(z:List α): ∀n,(repl z n).length=n*z.length
 |0=>by simp[repl]
 |n+1=>by rw[Cj,List.length_append,Gl z n,Nat.succ_mul,Nat.add_comm]
def jP(l:Cs):Nat→List (List Nat×Nat)
 |0=> []
 |n+1=>match ja (jP l n) (l.getD n ([],.mk 0 0 [] [])).1 with
  |none=>jP l n++ [((l.getD n ([],.mk 0 0 [] [])).1,n)]
  |some _=>jP l n
theorem Ck(l:Cs){n:Nat}(h:n<l.length):jP l (n+1)=match ja (jP l n) l[n].1 with
  |none=>jP l n++ [(l[n].1,n)]
  |some _=>jP l n:=by
 rw[jP];simp[List.getD_eq_getElem?_getD,List.getElem?_eq_getElem h]
theorem Ir(s:List Nat)(c:List Nat×Ex): ∀l:Cs,mS (l++ [c]) s=match mS l s with|some i=>some i|none=>if c.1=s then some l.length else none
 | []=>by simp[mS]
 |d::l=>by
  rw[List.cons_append,mS,mS,Ir s c l]
  grind
theorem xT(l:Cs)(s:List Nat): ∀n,n≤l.length→ja (jP l n) s=mS (l.take n) s
 |0,_=>by simp[jP,ja,mS]
 |n+1,h=>by
  have r:n<l.length:=by omega
  rw[Ck l r,List.take_succ_eq_append_getElem r,Ir]
  have ih:=xT l s n (by omega)
  have D:=xT l l[n].1 n (by omega)
  grind [rG,List.length_take,Nat.min_eq_left,hi]
def sK(s:List Nat):T:= .s s
def nK(n:Nat):T:= .i .i64 (n:Int)
def iV(n:Int):T:= .i .i64 n
theorem G0(a b:List Nat):xW (.one .str) (sK a) (sK b)=some (decide (a=b)):=auY
theorem af1(a b:Nat):xW (.one .int) (nK a) (nK b)=some (decide (a=b)):=by
 grind [nK,auZ]
def zt(lT:T)(m:List (List Nat×Nat))(kn:List (Nat×Int)):List iy:=
 [⟨1,.map (m.map fun p=>sK p.1) (m.map fun p=>nK p.2) false⟩,⟨1,.map (kn.map fun p=>nK p.1) (kn.map fun p=>iV p.2) false⟩,⟨1,.cells [lT,.mp .S 0 1,.mp .S 1 1] 0 true⟩]
section
variable(lT:T)(m:List (List Nat×Nat))(kn:List (Nat×Int))
theorem ch0:iM (zt lT m kn) 0=⟨1,.map (m.map fun p=>sK p.1) (m.map fun p=>nK p.2) false⟩:=nr rfl
theorem ch1:iM (zt lT m kn) 1=⟨1,.map (kn.map fun p=>nK p.1) (kn.map fun p=>iV p.2) false⟩:=nr rfl
theorem ch2:iM (zt lT m kn) 2=⟨1,.cells [lT,.mp .S 0 1,.mp .S 1 1] 0 true⟩:=nr rfl
theorem aDn(r:List (List Nat×Nat)):iR (zt lT m kn) 0 ⟨1,.map (r.map fun p=>sK p.1) (r.map fun p=>nK p.2) false⟩=zt lT r kn:=nr rfl
theorem aDo(r:List (Nat×Int)):iR (zt lT m kn) 1 ⟨1,.map (r.map fun p=>nK p.1) (r.map fun p=>iV p.2) false⟩=zt lT m r:=nr rfl
theorem awZ:zt lT [] []= [⟨1,.map [] [] false⟩,⟨1,.map [] [] false⟩,⟨1,.cells [lT,.mp .S 0 1,.mp .S 1 1] 0 true⟩]:=nr rfl
end
def Vf(r:Option Nat):T:=match r with|some v=> .tup [nK v,.b true]|none=> .tup [.i .i64 0,.b false]
theorem lkS(m:List (List Nat×Nat))(s:List Nat):oU (.one .str) (m.map fun p=>sK p.1) (m.map fun p=>nK p.2) (.s s) (.i .i64 0) true=some (Vf (ja m s)):=by
 have:=alv (kT:=sK) (vT:=nK) G0 (fun _=>rfl) m s (.i .i64 0)
 rw[show(T.s s)=sK s from rfl,this];unfold Vf;cases ja m s <;> rfl
section
variable(l:Cs)(lT:T)(cl:List T)(hl:iJ lT l.length cl)(ls:lB l cl)(hlen:l.length≤pG)
include hl ls hlen
theorem aDp(fr:Fr)(lh:iL iy)(sh:List iy)(W:sh=zt lT [] [])
  (E:an fr 3= .ptr .S 2 1 0) (F:an fr 13=lT) (D:an fr 14= .i .i64 (l.length:Int)) (H:an fr 15= .i .i64 0):
  qG 41 yF fr lh sh (.ext 0)∧
  (nB pE 41 yF fr lh sh=zt lT (jP l l.length) []):=by
 refine jh (P:=fun Z je X=>X=zt lT (jP l l.length) [])
  (jx (fun k st=> ∃(fr:Fr) (J:iL iy),st=⟨fr,J,zt lT (jP l k) []⟩∧an fr 3= .ptr .S 2 1 0∧an fr 13=lT∧an fr 14= .i .i64 (l.length:Int)∧an fr 15= .i .i64 (k:Int)) _ l.length ?_ ?_ 0 _ (Nat.zero_le _) ⟨fr,lh,by rw[W];rfl,E,F,D,H⟩)
 ·rintro k _ N ⟨fr,J,rfl,E,F,D,H⟩
  left
  have O:(k:Int)<l.length:=by omega
  have U:=iZ (k:=k) (by omega)
  obtain⟨b,cb,r,V,lE,uE,hb⟩:=mH hl ls k N
  have I:=lkS (jP l k) l[k].1
  rw[Ck l N]
  cases K:ja (jP l k) l[k].1 with
  |some i=>
   rw[K]at I
   unfold Vf at I
   simp only[qA,seval,jw,iN,kP,yF,E,F,D,H,O,V,U,ch2,ch0,jZ,I]
   refine⟨_,rfl,_,_,rfl, ?_, ?_, ?_, ?_⟩ <;> simp only[qA,seval,E,F,D]
  |none=>
   rw[K]at I
   unfold Vf at I
   have Y:rL (.one .str) (.s l[k].1) (.i .i64 (k:Int)) ((jP l k).map fun p=>sK p.1) ((jP l k).map fun p=>nK p.2)=_:=Ax (kT:=sK) (vT:=nK) G0 (jP l k) l[k].1 k K
   simp only[qA,seval,jw,iN,kP,yF,E,F,D,H,O,V,U,ch2,ch0,jZ,I,CR,Y,aDn]
   refine⟨_,rfl,_,_,rfl, ?_, ?_, ?_, ?_⟩ <;> simp only[qA,seval,E,F,D]
 ·rintro _ ⟨fr,J,rfl,E,F,D,H⟩
  simp only[qA,seval,yF,D,H,Int.lt_irrefl]
  grind
theorem am3:be pE 53 [lT] []=some (.ptr .S 2 1 0,zt lT (jP l l.length) []):=by
 have r:=fun fr lh sh=>aDp l lT cl hl ls hlen fr lh sh
 rw[awZ]at r
 rw[iD arF (by simp[c53])]
 simp only[qA,seval,jA,kP,c53,Vw,hl.lenI,hl.cells,hl.noTup,hl.kept1,r]
end
theorem Nu(l:Cs)(n:Nat): ∀k,∃r,lz l (n+k)=lz l n++r
 |0=>⟨[],by simp⟩
 |k+1=>by
  obtain⟨r,h⟩:=Nu l n k
  grind [Nat.add_assoc,lz]
theorem Gm(l:Cs){n i:Nat}(D:n≤l.length)(hi:i<n):(lz l n).getD i (0,6)=(lz l l.length).getD i (0,6):=by
 obtain⟨r,h⟩:=Nu l n (l.length-n)
 grind [oa,hi]
def yi(l:Cs)(i:Nat):Int×Int:=(lz l l.length).getD i (0,6)
theorem J7(l:Cs){i:Nat}(hi:i<l.length):yi l i=wj (l.take i) (lz l i) l[i].2:=by
 unfold yi
 rw[←Gm l (n:=i+1) (by omega) (by omega),xS l hi,List.getD_eq_getElem?_getD,List.getElem?_append_right (by rw[oa];omega),oa,Nat.sub_self]
 rfl
theorem am4{cl:List Nat→Int×Int}(ls: ∀s,(cl s).2≠0→(cl s).1=0)(scope:Int)(x:Ex)(h:(x.ty cl scope).2≠0):(x.ty cl scope).1=0:=by
 grind [Ex.ty_eq]
theorem af2(l:Cs)(r:List (Int×Int))(h: ∀t∈r,t.2≠0→t.1=0)(s:List Nat):(clk l r s).2≠0→(clk l r s).1=0:=by
 grind [clk]
theorem Gn(l:Cs): ∀n,∀t∈lz l n,t.2≠0→t.1=0
 |0=>by simp[lz]
 |n+1=>by
  intro t ht
  rw[lz]at ht
  rcases List.mem_append.1 ht with ht|ht
  ·exact Gn l n t ht
  ·rw[List.mem_singleton]at ht
   subst ht
   unfold wj
   split
   ·intro _;rfl
   ·exact am4 (af2 _ _ (Gn l n)) _ _
section
variable(l:Cs)(lT:T)(cl:List T)(hl:iJ lT l.length cl)(ls:lB l cl)(hlen:l.length≤pG)(sX:ZQ l)
def AZ(kn:List (Nat×Int)):Prop:= ∀i t,ja kn i=some t→i<l.length∧yi l i=(t,0)
def am5(j:Nat):Prop:= ∀kn,AZ l kn→ ∃r,be pE 55 [.ptr .S 2 1 0,.i .i64 (j:Int)] (zt lT (jP l l.length) kn)=some (.tup [.i .i64 (yi l j).1,.i .i64 (yi l j).2],zt lT (jP l l.length) r)∧AZ l r∧ ∀i,j<i→ja r i=ja kn i
def J8(n:Nat):List Nat→Int×Int:=clk (l.take n) (lz l n)
def aw1(n:Nat)(scope:Int)(y:Ex):Prop:= ∀kn,AZ l kn→ ∀cs:List T,mE y cs→y.nodes≤100000→y.wf=true→ ∃r,be pE 125 [.ptr .S 2 1 0,.i .i64 scope,.i .i64 (n:Int),.agg cs] (zt lT (jP l l.length) kn)=some (.tup [.i .i64 (y.ty (J8 l n) scope).1,.i .i64 (y.ty (J8 l n) scope).2],zt lT (jP l l.length) r)∧AZ l r∧ ∀i,n≤i→ja r i=ja kn i
include hl
theorem aDq(n:Nat)(scope:Int)(xs:List Ex)(ih: ∀y∈xs,aw1 l lT n scope y)(a:T)(cc:List T)(ha:iJ a xs.length cc)(hx:kz xs cc)(hn:jX xs≤100000)(uq:zq xs=true)(kn:List (Nat×Int))(pK:AZ l kn)(r:Except Int (List Int))(hr:r=qI (J8 l n) scope xs)(o:Out)(ho:o=P0 r)(g:Nat)(Y:iy)(fr:Fr)(lh:iL iy)(sh:List iy)(mJ:sh=zt lT (jP l l.length) kn)
  (H:an fr 0= .ptr .S 2 1 0) (I:an fr 1= .i .i64 scope) (J:an fr 2= .i .i64 (n:Int)) (O:an fr 14= .isl .L 57 g 0 xs.length 1) (Ih:an fr 59=a) (DR:an fr 60= .i .i64 (xs.length:Int)) (Ii:an fr 61= .i .i64 0) (Nv:a6 lh 57=⟨g,.cells (repl [.i .i64 0] xs.length) 0 false⟩) (K:a6 lh 7=Y):
  qG 89 pk fr lh sh o∧
  ((∀e,r= .error e→an (pb pE 89 pk fr lh sh) 8= .i .i64 0∧an (pb pE 89 pk fr lh sh) 9= .i .i64 e)∧(∀ts,r= .ok ts→a6 (nh pE 89 pk fr lh sh) 57=⟨g,.cells (ints ts) 0 false⟩)∧
    a6 (nh pE 89 pk fr lh sh) 7=Y∧ ∃F,nB pE 89 pk fr lh sh=zt lT (jP l l.length) F∧AZ l F∧ ∀i,n≤i→ja F i=ja kn i):=by
 have _:=hl
 refine jh (P:=fun jB je jk=>(∀e,r= .error e→an jB 8= .i .i64 0∧an jB 9= .i .i64 e)∧(∀ts,r= .ok ts→a6 je 57=⟨g,.cells (ints ts) 0 false⟩)∧a6 je 7=Y∧ ∃F,jk=zt lT (jP l l.length) F∧AZ l F∧ ∀i,n≤i→ja F i=ja kn i)
  (jx (fun k st=> ∃(fr:Fr) (U:iL iy) (ts:List Int) (MF:List (Nat×Int)),st=⟨fr,U,zt lT (jP l l.length) MF⟩∧an fr 0= .ptr .S 2 1 0∧an fr 1= .i .i64 scope∧an fr 2= .i .i64 (n:Int)∧an fr 14= .isl .L 57 g 0 xs.length 1∧an fr 59=a∧an fr 60= .i .i64 (xs.length:Int)∧an fr 61= .i .i64 (k:Int)∧a6 U 7=Y∧
    a6 U 57=⟨g,.cells (ints ts++repl [.i .i64 0] (xs.length-k)) 0 false⟩∧ts.length=k∧r=J3 ts (qI (J8 l n) scope (xs.drop k))∧AZ l MF∧ ∀i,n≤i→ja MF i=ja kn i) _ xs.length ?_ ?_ 0 _ (Nat.zero_le _) ⟨fr,lh,[],kn,by rw[mJ],H,I,J,O,Ih,DR,Ii,K,by rw[Nv];rfl,rfl,by rw[hr,List.drop_zero];cases qI (J8 l n) scope xs <;> rfl,pK,fun _ _=>rfl⟩)
 ·rintro k _ DN ⟨fr,U,ts,MF,rfl,H,I,J,O,Ih,DR,Ii,K,Nv,Z,D,P4,Nw⟩
  have iU:(k:Int)<xs.length:=by omega
  have Ff:=kB xs
  have hyk:=nz (List.getElem_mem DN)
  have hw:=iZ (k:=k) (lK (by omega))
  obtain⟨b,cb,rr,iW,lE,uE,hb⟩:=nY ha hx k DN
  obtain⟨Q6,N,V,PN⟩:=ih xs[k] (List.getElem_mem DN) MF P4 _ hb (by omega) (xG.1 uq _ (List.getElem_mem DN))
  rw[Nt DN]at D
  by_cases E:(xs[k].ty (J8 l n) scope).2=0
  ·left
   rw[if_neg (by simp[E]),Io]at D
   generalize xs[k].ty (J8 l n) scope=q at N E D
   obtain⟨W,q2⟩:=q
   simp only at N E D
   subst E
   have hrl:(ints ts++repl [T.i .i64 0] (xs.length-k)).length=xs.length:=by rw[List.length_append,kb,Gl,Z];simp;omega
   have A6:splice (ints ts++repl [T.i .i64 0] (xs.length-k)) k [.i .i64 W]=ints (ts++ [W])++repl [T.i .i64 0] (xs.length-(k+1)):=by
    rw[show xs.length-k=(xs.length-(k+1))+1 by omega,Cj,Gk (ints ts) [T.i .i64 0] _ [T.i .i64 W] k (by rw[kb];exact Z) rfl,uu]
   have am6:k+1≤xs.length:=by omega
   simp only[qA,seval,kP,pk,H,I,J,O,Ih,DR,Ii,Nv,iU,iW,hw,N,WZ,lE.kept1,DN,hrl,A6,am6]
   refine⟨_,rfl,_,_,ts++ [W],Q6,rfl, ?_, ?_, ?_, ?_, ?_, ?_, ?_, ?_, ?_,by simp[Z],D,V,fun i hi=>by rw[PN i hi,Nw i hi]⟩
   all_goals first|(simp only[qA,seval,H,I,J,O,Ih,DR,K];done)|skip
  ·right
   rw[if_pos (by simp[E])]at D
   generalize xs[k].ty (J8 l n) scope=q at N E D
   obtain⟨W,q2⟩:=q
   simp only at N E D
   simp only[qA,seval,kP,pk,H,I,J,Ih,DR,Ii,iU,iW,N,WZ,lE.kept1,E]
   refine⟨_,_,Lw,rfl,by rw[ho,D];rfl,fun e X=> ?_,fun t ht=>(by rw[D]at ht;cases ht),by simp only[qA,seval,K],Q6,rfl,V,fun i hi=>by rw[PN i hi,Nw i hi]⟩
   rw[D]at X
   cases X
   exact⟨by simp only[qA,seval],by simp only[qA,seval]⟩
 ·rintro _ ⟨fr,U,ts,MF,rfl,H,I,J,O,Ih,DR,Ii,K,Nv,Z,D,P4,Nw⟩
  rw[List.drop_length,qI,J3,List.append_nil]at D
  rw[Nat.sub_self,show repl [T.i .i64 0] 0= []from rfl,List.append_nil]at Nv
  simp only[qA,seval,pk,DR,Ii,Int.lt_irrefl]
  refine⟨_,_,oH,rfl,by rw[ho,D];rfl,fun e X=>(by rw[D]at X;cases X),fun t ht=> ?_,K,MF,rfl,P4,Nw⟩
  grind
include ls hlen
theorem am7(n:Nat)(HA:n≤l.length)(hc: ∀j,j<n→am5 l lT j)(scope:Int)(x:Ex):aw1 l lT n scope x:=by
 have _:=hlen
 have _:=ls
 induction x using Ex.ind with
 |h x ih=>
  intro kn pK cs hx hn uq
  obtain⟨a,cc,rfl,ha,zr⟩:=hx.cells
  rw[iD agQ (by simp[Ez]),Ex.ty_eq]
  have hnd:=x.nodes_eq
  rw[Ex.wf_eq,Bool.and_eq_true]at uq
  obtain⟨wh,Dd⟩:=uq
  have W:=Mv scope x.name
  have CG:=kB x.args
  have Dj:x.args.length≤pG:=lK (by omega)
  simp only[tB,Bool.and_eq_true,decide_eq_true_eq]at wh
  obtain⟨amV,amW,mL,_,_⟩:=wh
  by_cases O:x.op=6
  ·rw[if_pos O]
   unfold ua at W
   by_cases U:lu scope x.name=0
   ·rw[if_neg (by simp[U])]
    rw[if_pos U,U]at W
    have V:=lkS (jP l l.length) x.name
    rw[xT l x.name l.length (Nat.le_refl _),List.take_length]at V
    have hck:J8 l n x.name=match mS l x.name with|some i=>if i<n then yi l i else(0,6)|none=>(0,6):=by
     unfold J8 clk
     rw[xR]
     cases hi:mS l x.name with
     |none=>rfl
     |some i=>
      simp only
      by_cases Y:i<n
      ·rw[if_pos Y,if_pos Y];exact Gm l HA Y
      ·grind
    rw[hck]
    cases hi:mS l x.name with
    |none=>
     rw[hi]at V
     unfold Vf at V
     simp only[qA,seval,Ez,O,W,WJ,ch2,ch0,jZ,V]
     grind
    |some i=>
     rw[hi]at V
     rw[show Vf (some i)= .tup [.i .i64 (i:Int),.b true]from rfl]at V
     by_cases Y:i<n
     ·obtain⟨r,iI,pL,af4⟩:=hc i Y kn pK
      have Z:(i:Int)<n:=by omega
      simp only[Y,if_true]
      simp only[qA,seval,kP,Ez,O,W,WJ,ch2,ch0,jZ,V,Z,iI,arI]
      grind
     ·have Z: ¬(i:Int)<n:=by omega
      simp only[Y,if_false]
      simp only[qA,seval,Ez,O,W,WJ,ch2,ch0,jZ,V,Z]
      grind
   ·rw[if_pos U]
    rw[if_neg U]at W
    simp only[qA,seval,Ez,O,W,WJ]
    grind
  ·rw[if_neg O]
   have hL:=fun E fr lh sh F H I J K Ih DR Ii Nv N=>aDq l lT cl hl n scope x.args (fun y hy=>ih y hy) a cc ha zr (by omega) Dd kn pK _ rfl _ rfl 1 E fr lh sh F H I J K Ih DR Ii Nv N
   have hmk:x.args.length*8≤roomy∧x.args.length≤roomy:=by unfold pG at Dj;unfold roomy;omega
   have hS:=fun E fr lh sh F H I J K Ih DR Ii Nv N=>(hL E fr lh sh F H I J K Ih DR Ii Nv N).2.2.2.2
   cases hr:qI (J8 l n) scope x.args with
   |error e=>
    have D:=fun E fr lh sh F H I J K Ih DR Ii Nv N=>And.intro (hL E fr lh sh F H I J K Ih DR Ii Nv N).1 ((hL E fr lh sh F H I J K Ih DR Ii Nv N).2.1 e hr)
    simp only[hr,P0]at D
    simp only[qA,seval,Ez,O,ha.lenI,hmk,D]
    generalize hX:nB _ _ _ _ _ _=X
    obtain⟨r,e1,e2,e3⟩: ∃r,X=zt lT (jP l l.length) r∧AZ l r∧ ∀i,n≤i→ja r i=ja kn i:=by
     rw[←hX]
     refine hS _ _ _ _ rfl ?_ ?_ ?_ ?_ ?_ ?_ ?_ ?_ rfl <;> simp only[qA,seval]
    grind
   |ok ts=>
    have Gg:=vI hr
    have D:=fun E fr lh sh F H I J K Ih DR Ii Nv N=>And.intro (hL E fr lh sh F H I J K Ih DR Ii Nv N).1 (hL E fr lh sh F H I J K Ih DR Ii Nv N).2.2.2.1
    have hF:=fun E fr lh sh F H I J K Ih DR Ii Nv N=>(hL E fr lh sh F H I J K Ih DR Ii Nv N).2.2.1 ts hr
    have rW:(ints ts).length=x.args.length:=by rw[kb,Gg]
    have hit:List.take x.args.length (ints ts)=ints ts:=List.take_of_length_le (by omega)
    simp only[hr,P0]at D
    have Ac:=PY x.op ts (.sl (ints ts) x.args.length false) (Or.inr ⟨false,by rw[Gg]⟩) (by rw[Gg];exact Dj) amV amW O (by rw[Gg];exact mL)
    by_cases U:qW x.op ts=0
    ·rw[U]at Ac
     simp only[qA,seval,Ez,Hh,O,ha.lenI,hmk,D ⟨1,.cells [.i .i64 x.op,.i .i64 x.num,.s x.name,a] 0 true⟩,hF ⟨1,.cells [.i .i64 x.op,.i .i64 x.num,.s x.name,a] 0 true⟩,Ac,aho,U,rW,hit]
     generalize hX:nB _ _ _ _ _ _=X
     obtain⟨r,e1,e2,e3⟩: ∃r,X=zt lT (jP l l.length) r∧AZ l r∧ ∀i,n≤i→ja r i=ja kn i:=by
      rw[←hX]
      refine hS _ _ _ _ rfl ?_ ?_ ?_ ?_ ?_ ?_ ?_ ?_ rfl <;> simp only[qA,seval]
     grind
    ·simp only[qA,seval,Ez,Hh,O,ha.lenI,hmk,D ⟨1,.cells [.i .i64 x.op,.i .i64 x.num,.s x.name,a] 0 true⟩,hF ⟨1,.cells [.i .i64 x.op,.i .i64 x.num,.s x.name,a] 0 true⟩,Ac,aho,U,rW,hit]
     generalize hX:nB _ _ _ _ _ _=X
     obtain⟨r,e1,e2,e3⟩: ∃r,X=zt lT (jP l l.length) r∧AZ l r∧ ∀i,n≤i→ja r i=ja kn i:=by
      rw[←hX]
      refine hS _ _ _ _ rfl ?_ ?_ ?_ ?_ ?_ ?_ ?_ ?_ rfl <;> simp only[qA,seval]
     grind
end
theorem nZ{x:Ex}(r:jD x=0):x.wf=true:=by
 unfold jD at r
 by_cases Da:big x
 ·rw[if_pos Da]at r;cases r
 ·rw[if_neg Da]at r
  cases D:x.wf with
  |true=>rfl
  |false=>rw[D]at r;cases r
section
variable(l:Cs)(lT:T)(cl:List T)(hl:iJ lT l.length cl)(ls:lB l cl)(hlen:l.length≤pG)(sX:ZQ l)
include hl ls hlen
def UN(n:Nat)(scope:Int)(x:Ex):Int×Int:=if jD x≠0 then(0,jD x)else x.ty (J8 l n) scope
theorem aba(n:Nat)(HA:n≤l.length)(J: ∀j,j<n→am5 l lT j)(scope:Int)(x:Ex)(cs:List T)(F:mE x cs)(K:0≤x.nodes)(hs:x.sm)(kn:List (Nat×Int))(I:AZ l kn):
  ∃E,be pE 94 [.ptr .S 2 1 0,.i .i64 scope,.i .i64 (n:Int),.agg cs] (zt lT (jP l l.length) kn)=some (.tup [.i .i64 (UN l n scope x).1,.i .i64 (UN l n scope x).2],zt lT (jP l l.length) E)∧AZ l E∧ ∀i,n≤i→ja E i=ja kn i:=by
 have r:=fun z fr lh sh=>uy (z:=z) (fr:=fr) (lh:=lh) (sh:=sh) x cs F K hs
 have H:=fun h=>am7 l lT cl hl ls hlen n HA J scope x kn I cs F h
 obtain⟨a,W,rfl,N,X⟩:=F.cells
 rw[iD ase (by simp[c94])]
 unfold UN
 by_cases D:jD x=0
 ·rw[if_neg (by simp[D])]
  obtain⟨E,O,U,V⟩:=H (by have:=AY D;omega) (nZ D)
  rw[D]at r
  simp only[qA,seval,kP,c94,r,O,WZ,N.kept1]
  exact⟨E,rfl,U,V⟩
 ·rw[if_pos D]
  generalize jD x=e at r D ⊢
  simp only[qA,seval,c94,r,D]
  exact⟨kn,rfl,I,fun _ _=>rfl⟩
include sX
theorem abb: ∀j,j<l.length→am5 l lT j:=by
 intro j
 induction j using Nat.strongRecOn with
 |ind j ih=>
  intro J kn O
  obtain⟨b,cb,r,U,V,uE,Y⟩:=mH hl ls j J
  obtain⟨Z,P2⟩:=sX l[j] (List.getElem_mem J)
  obtain⟨F,H,W,E⟩:=aba l lT cl hl ls hlen j (by omega) (fun i hi=>ih i hi (by omega)) 0 l[j].2 _ Y Z P2 kn O
  have GL:yi l j=UN l j 0 l[j].2:=by rw[J7 l J];rfl
  rw[←GL]at H
  have D:(yi l j).2≠0→(yi l j).1=0:=by
   unfold yi
   rw[List.getD_eq_getElem?_getD,List.getElem?_eq_getElem (by rw[oa];exact J)]
   exact Gn l _ _ (List.getElem_mem _)
  have I:oU (.one .int) (kn.map fun p=>nK p.1) (kn.map fun p=>iV p.2) (.i .i64 (j:Int)) (.i .i64 0) true=_:=alv (kT:=nK) (vT:=iV) af1 (fun _=>rfl) kn j (.i .i64 0)
  rw[iD arH (by simp[c55])]
  cases K:ja kn j with
  |some t=>
   obtain⟨_,ht⟩:=O j t K
   rw[K]at I
   simp only[show iV t= .i .i64 t from rfl]at I
   rw[ht]
   simp only[qA,seval,c55,ch2,ch1,jZ,I]
   exact⟨kn,rfl,O,fun _ _=>rfl⟩
  |none=>
   rw[K]at I
   generalize he:yi l j=q at H D ⊢
   obtain⟨X,q2⟩:=q
   simp only at H D ⊢
   by_cases N:q2=0
   ·subst N
    have wh:ja F j=none:=by rw[E j (Nat.le_refl _),K]
    have px:rL (.one .int) (.i .i64 (j:Int)) (.i .i64 X) (F.map fun p=>nK p.1) (F.map fun p=>iV p.2)=_:=Ax (kT:=nK) (vT:=iV) af1 F j X wh
    simp only[qA,seval,kP,c55,ch2,ch1,jZ,I,U,V.kept1,H,WM,aiC,px,aDo]
    refine⟨_,rfl, ?_, ?_⟩
    ·intro i t hi
     rw[rG]at hi
     cases Te:ja F i with
     |some u=>rw[Te]at hi;cases hi;exact W i _ Te
     |none=>
      rw[Te]at hi
      simp only at hi
      split at hi
      ·rename_i e;subst e;cases hi;exact⟨J,he⟩
      ·cases hi
    ·intro i hi
     rw[rG,E i (by omega)]
     cases ja kn i with
     |some u=>rfl
     |none=>simp only;rw[if_neg (by omega)]
   ·rw[D N]
    rw[D N]at H
    simp only[qA,seval,kP,c55,ch2,ch1,jZ,I,U,V.kept1,H,WM,N]
    exact⟨F,rfl,W,fun i hi=>E i (by omega)⟩
end
def bd(n:Int):Prop:= -1099511627776≤n∧n≤1099511627776
theorem rm{x y:Bool}:xW (.one .bool) (.b x) (.b y)=some (x==y):=rfl
theorem xU(n:Int):bd (jM n):=by unfold bd jM;omega
theorem Is{n:Int}(h:bd n):jM n=n:=by unfold bd at h;unfold jM;omega
theorem It(n:Int):(if(if n<1099511627776 then n else(1099511627776:Int))> -1099511627776 then(if n<1099511627776 then n else(1099511627776:Int))else-1099511627776)=jM n:=by
 unfold jM;split <;> split <;> omega
theorem Cl(n:Int):be pE 145 [.i .i64 n] []=some (.i .i64 (jM n),[]):=by
 rw[iD ahc (by simp[Wa]),←It]
 simp only[qA,seval,Wa]
theorem UO(n:Int):be pE 191 [.i .i64 n] []=some (.i .i64 (jM n),[]):=by
 rw[iD Xl (by simp[Ok]),←It]
 simp only[qA,seval,Ok]
theorem abc{a b:Int}(r:bd a)(D:bd b):wr .i64 (a+b)=a+b:=by unfold bd at *; exact jE ⟨by omega,by omega⟩
theorem J9{a:Int}(r:bd a):wr .i64 (0-a)= -a:=by unfold bd at *; rw[jE ⟨by omega,by omega⟩];omega
theorem zk{a:Int}(r:bd a):bd (-a):=by unfold bd at *; omega
theorem Ka{a b:Int}(J:bd a)(K:bd b):be pE 128 [.i .i64 a,.i .i64 b] []=some (.i .i64 (jM (a+b)),[]):=by
 have E:=abc J K
 have F:=Cl (a+b)
 clear J K
 rw[iD agR (by simp[Lu])]
 by_cases H:0≤a
 ·have r: ¬a<0:=by omega
  by_cases D:0≤b
  ·have I: ¬a+b<0:=by omega
   simp only[qA,seval,Lu,E,F,LC,H,r,D,I]
  ·simp only[qA,seval,Lu,E,F,LC,H,r,D]
 ·have r:a<0:=by omega
  by_cases D:b<0
  ·have I: ¬0≤a+b:=by omega
   simp only[qA,seval,Lu,E,F,LC,H,r,D,I]
  ·simp only[qA,seval,Lu,E,F,LC,H,r,D]
theorem Kb{a b:Int}(J:bd a)(K:bd b):be pE 192 [.i .i64 a,.i .i64 b] []=some (.i .i64 (jM (a+b)),[]):=by
 have D:=abc J K
 have E:=UO (a+b)
 clear J K
 rw[iD Xm (by simp[ID])]
 by_cases F:0<a
 ·have r: ¬a<0:=by omega
  by_cases H:0<b
  ·have I: ¬a+b<0:=by omega
   simp only[qA,seval,ID,D,E,ED,F,r,H,I]
  ·simp only[qA,seval,ID,D,E,ED,F,r,H]
 ·by_cases r:a<0
  ·by_cases H:b<0
   ·have I: ¬0≤a+b:=by omega
    simp only[qA,seval,ID,D,E,ED,F,r,H,I]
   ·simp only[qA,seval,ID,D,E,ED,F,r,H]
  ·simp only[qA,seval,ID,D,E,ED,F,r]
theorem abd{a:Int}(h:bd a)(r: ¬a<0):wr .u64 a=(a.natAbs:Int):=by unfold bd at h;rw[ta ⟨by omega,by omega⟩];omega
theorem aw4(n:Int):IntKind.wrap .u64 n=n%18446744073709551616:=by
 unfold IntKind.wrap
 have r:(IntKind.u64).bits=64:=rfl
 simp only[r]
 rw[if_neg (by simp[IntKind.signed])]
 rfl
theorem Kc(n:Int):wr .u64 n=n%18446744073709551616:=by
 show(if(0:Int)≤n∧n≤18446744073709551615 then n else IntKind.wrap .u64 n)=_
 rw[aw4]
 split <;> omega
theorem RV{a:Int}(h:bd a)(r:a<0):wr .u64 (0-wr .u64 a)=(a.natAbs:Int):=by
 unfold bd at h
 rw[Kc,Kc];omega
theorem RW{a:Int}(h:bd a):be pE 181 [.i .i64 a] []=some (.i .u64 (a.natAbs:Int),[]):=by
 rw[iD ahO (by simp[SL])]
 by_cases r:a<0
 ·have D:=RV h r
  simp only[qA,seval,SL,r,D]
 ·have D:=abd h r
  simp only[qA,seval,SL,r,D]
theorem DT{a:Int}(h:bd a):be pE 202 [.i .i64 a] []=some (.i .u64 (a.natAbs:Int),[]):=by
 rw[iD ah8 (by simp[SP])]
 by_cases r:a<0
 ·have D:=RV h r
  simp only[qA,seval,SP,r,D]
 ·have D:=abd h r
  simp only[qA,seval,SP,r,D]
theorem aw5(P Q R S:Int)(r:0≤P)(D:0≤Q)(E:0≤R)(F:0≤S):
  S+(Q+P/4294967296)/4294967296+((Q+P/4294967296)%4294967296+R)/4294967296=(S*18446744073709551616+(Q+R)*4294967296+P)/18446744073709551616:=by
 omega
theorem Kd{a b A B:Int}(D:0≤a)(r:0≤b)(E:a≤A)(F:b≤B):0≤a*b∧a*b≤A*B:=
 ⟨Int.mul_nonneg D r,Int.mul_le_mul E F r (by omega)⟩
theorem abe(X Y:Nat)(hX:X≤1099511627776)(hY:Y≤1099511627776):be pE 180 [.i .u64 (X:Int),.i .u64 (Y:Int)] []=some (.tup [.i .u64 ((X:Int)*Y/18446744073709551616),.i .u64 ((X:Int)*Y%18446744073709551616)],[]):=by
 obtain⟨r,NY⟩: ∃r,r=(X:Int)/4294967296:=⟨_,rfl⟩
 obtain⟨D,Z⟩: ∃D,D=(X:Int)%4294967296:=⟨_,rfl⟩
 obtain⟨E,Qz⟩: ∃E,E=(Y:Int)/4294967296:=⟨_,rfl⟩
 obtain⟨F,hy0⟩: ∃F,F=(Y:Int)%4294967296:=⟨_,rfl⟩
 have hX':(X:Int)=r*4294967296+D:=by omega
 have hY':(Y:Int)=E*4294967296+F:=by omega
 have H:0≤r∧r≤256:=by omega
 have I:0≤D∧D≤4294967295:=by omega
 have J:0≤E∧E≤256:=by omega
 have K:0≤F∧F≤4294967295:=by omega
 have Ks:(X:Int)*Y=r*E*18446744073709551616+(r*F+D*E)*4294967296+D*F:=by
  grind
 have O:=Kd I.1 K.1 I.2 K.2
 have U:=Kd H.1 K.1 H.2 K.2
 have V:=Kd I.1 J.1 I.2 J.2
 have W:=Kd H.1 J.1 H.2 J.2
 have w0:wr .u64 (D*F)=D*F:=ta ⟨O.1,Int.le_trans O.2 (by decide)⟩
 have w1:wr .u64 (r*F)=r*F:=ta ⟨U.1,Int.le_trans U.2 (by decide)⟩
 have w2:wr .u64 (D*E)=D*E:=ta ⟨V.1,Int.le_trans V.2 (by decide)⟩
 have w3:wr .u64 (r*E)=r*E:=ta ⟨W.1,Int.le_trans W.2 (by decide)⟩
 have N:=aw5 (D*F) (r*F) (D*E) (r*E) O.1 U.1 V.1 W.1
 rw[←Ks]at N
 have wlo:=Kc ((X:Int)*Y)
 rw[iD ahN (by simp[Wo]),←N]
 generalize hP:D*F=P at O w0
 generalize hQ:r*F=Q at U w1
 generalize hR:D*E=R at V w2
 generalize hS:r*E=S at W w3
 have w4:wr .u64 (Q+P/4294967296)=Q+P/4294967296:=ta ⟨by omega,by omega⟩
 have w5:wr .u64 ((Q+P/4294967296)%4294967296+R)=(Q+P/4294967296)%4294967296+R:=ta ⟨by omega,by omega⟩
 have w6:wr .u64 (S+(Q+P/4294967296)/4294967296)=S+(Q+P/4294967296)/4294967296:=ta ⟨by omega,by omega⟩
 have w7:wr .u64 (S+(Q+P/4294967296)/4294967296+((Q+P/4294967296)%4294967296+R)/4294967296)=S+(Q+P/4294967296)/4294967296+((Q+P/4294967296)%4294967296+R)/4294967296:=ta ⟨by omega,by omega⟩
 simp only[qA,seval,Wo,aeL,aeM,←Z,←NY,←hy0,←Qz,hP,hQ,hR,hS,w0,w1,w2,w3,w4,w5,w6,w7,wlo]
theorem Ke{a:Int}(h:bd a):a.natAbs≤1099511627776:=by grind [bd]
theorem RX(a b:Int):(a.natAbs:Int)*(b.natAbs:Int)=((a*b).natAbs:Int):=by rw[Int.natAbs_mul];omega
theorem Nx{a b:Int}(h:(a<0∧ ¬b<0)∨(¬a<0∧b<0)):a*b≤0:=by
 rcases h with⟨h1,h2⟩|⟨h1,h2⟩
 ·exact Int.mul_nonpos_of_nonpos_of_nonneg (by omega) (by omega)
 ·exact Int.mul_nonpos_of_nonneg_of_nonpos (by omega) (by omega)
theorem Iu{a b:Int}(h:(a<0∧b<0)∨(¬a<0∧ ¬b<0)):0≤a*b:=by
 rcases h with⟨h1,h2⟩|⟨h1,h2⟩
 ·exact Int.mul_nonneg_of_nonpos_of_nonpos (by omega) (by omega)
 ·simp_all[Int.mul_nonneg]
theorem RY{a b:Int}(V:bd a)(W:bd b):be pE 157 [.i .i64 a,.i .i64 b] []=some (.i .i64 (jM (a*b)),[]):=by
 have H:=RW V
 have I:=RW W
 have E:=abe a.natAbs b.natAbs (Ke V) (Ke W)
 rw[RX]at E
 have hs:= @Nx a b
 have N:= @Iu a b
 rw[iD ahp (by simp[xV])]
 generalize Z:a*b=x at*
 generalize X:(x.natAbs:Int)/18446744073709551616=q1 at E
 generalize Y:(x.natAbs:Int)%18446744073709551616=q2 at E
 have K:(if q1≠0 then(1099511627776:Int)else if 1099511627776<q2 then 1099511627776 else q2)=min (x.natAbs:Int) 1099511627776:=by
  grind
 by_cases F:q1=0
 ·by_cases J:(1099511627776:Int)<q2
  ·rw[if_neg (by simp[F]),if_pos J]at K
   by_cases D:a<0
   ·by_cases r:b<0
    ·have:=N (.inl ⟨D,r⟩)
     have e:jM x=1099511627776:=by unfold jM;omega
     simp only[qA,seval,xV,H,I,E,vQ,vP,F,J,D,r,rm,e];rfl
    ·have:=hs (.inl ⟨D,r⟩)
     have e:jM x= -1099511627776:=by unfold jM;omega
     simp only[qA,seval,xV,H,I,E,vQ,vP,F,J,D,r,rm,e];rfl
   ·by_cases r:b<0
    ·have:=hs (.inr ⟨D,r⟩)
     have e:jM x= -1099511627776:=by unfold jM;omega
     simp only[qA,seval,xV,H,I,E,vQ,vP,F,J,D,r,rm,e];rfl
    ·have:=N (.inr ⟨D,r⟩)
     have e:jM x=1099511627776:=by unfold jM;omega
     simp only[qA,seval,xV,H,I,E,vQ,vP,F,J,D,r,rm,e];rfl
  ·rw[if_neg (by simp[F]),if_neg J]at K
   have O:wr .i64 q2=q2:=jE ⟨by omega,by omega⟩
   have U:wr .i64 (0-q2)= -q2:=by rw[jE ⟨by omega,by omega⟩];omega
   by_cases D:a<0
   ·by_cases r:b<0
    ·have:=N (.inl ⟨D,r⟩)
     have e:jM x=q2:=by unfold jM;omega
     simp only[qA,seval,xV,H,I,E,vQ,vP,F,J,D,r,rm,O,U,e];rfl
    ·have:=hs (.inl ⟨D,r⟩)
     have e:jM x= -q2:=by unfold jM;omega
     simp only[qA,seval,xV,H,I,E,vQ,vP,F,J,D,r,rm,O,U,e];rfl
   ·by_cases r:b<0
    ·have:=hs (.inr ⟨D,r⟩)
     have e:jM x= -q2:=by unfold jM;omega
     simp only[qA,seval,xV,H,I,E,vQ,vP,F,J,D,r,rm,O,U,e];rfl
    ·have:=N (.inr ⟨D,r⟩)
     have e:jM x=q2:=by unfold jM;omega
     simp only[qA,seval,xV,H,I,E,vQ,vP,F,J,D,r,rm,O,U,e];rfl
 ·rw[if_pos F]at K
  by_cases D:a<0
  ·by_cases r:b<0
   ·have:=N (.inl ⟨D,r⟩)
    have e:jM x=1099511627776:=by unfold jM;omega
    simp only[qA,seval,xV,H,I,E,vQ,vP,F,D,r,rm,e];rfl
   ·have:=hs (.inl ⟨D,r⟩)
    have e:jM x= -1099511627776:=by unfold jM;omega
    simp only[qA,seval,xV,H,I,E,vQ,vP,F,D,r,rm,e];rfl
  ·by_cases r:b<0
   ·have:=hs (.inr ⟨D,r⟩)
    have e:jM x= -1099511627776:=by unfold jM;omega
    simp only[qA,seval,xV,H,I,E,vQ,vP,F,D,r,rm,e];rfl
   ·have:=N (.inr ⟨D,r⟩)
    have e:jM x=1099511627776:=by unfold jM;omega
    simp only[qA,seval,xV,H,I,E,vQ,vP,F,D,r,rm,e];rfl
theorem Ny{a b:Int}(h:b≠0):Ev.bin .quo (.i .u64 a) (.i .u64 b)=some (.i .u64 (wr .u64 (a.tdiv b))):=by
 simp only[Ev.bin,if_true,tu,if_neg h]
theorem abf{a b:Int}(h:b≠0):Ev.bin .rem (.i .u64 a) (.i .u64 b)=some (.i .u64 (a.tmod b)):=by
 simp only[Ev.bin,if_true,tu,if_neg h]
theorem abg{a b:Int}(h:b≠0):Ev.bin .quo (.i .i64 a) (.i .i64 b)=some (.i .i64 (wr .i64 (a.tdiv b))):=by
 simp only[Ev.bin,if_true,tu,if_neg h]
theorem abh{a b:Int}(h:b≠0):Ev.bin .rem (.i .i64 a) (.i .i64 b)=some (.i .i64 (a.tmod b)):=by
 simp only[Ev.bin,if_true,tu,if_neg h]
theorem am9(x y:Nat)(r:0<y):((x:Int)≤(1099511627776:Int).tdiv (y:Int))↔(x:Int)*y≤1099511627776:=by
 have e:(1099511627776:Int).tdiv (y:Int)=((1099511627776/y:Nat):Int):=rfl
 rw[e]
 have:=Nat.le_div_iff_mul_le r (x:=x) (y:=1099511627776)
 have D:(x:Int)*y=((x*y:Nat):Int):=by simp
 rw[D];omega
theorem af6{a b:Int}(K:bd a)(N:bd b):be pE 193 [.i .i64 a,.i .i64 b] []=some (.i .i64 (jM (a*b)),[]):=by
 have H:=DT K
 have I:=DT N
 have hs:= @Nx a b
 have O:= @Iu a b
 have r:=RX a b
 rw[iD Xn (by simp[Ol])]
 by_cases a0:a=0
 ·subst a0
  simp only[qA,seval,Ol,Int.zero_mul];rfl
 by_cases J:b=0
 ·subst J
  simp only[qA,seval,Ol,Int.mul_zero,a0];rfl
 have D:=am9 a.natAbs b.natAbs (by omega)
 have E:((b.natAbs:Nat):Int)≠0:=by omega
 have F:Ev.bin .quo (.i .u64 1099511627776) (.i .u64 (b.natAbs:Int))=some (.i .u64 ((1099511627776:Int).tdiv (b.natAbs:Int))):=by
  rw[Ny E]
  have e:(1099511627776:Int).tdiv (b.natAbs:Int)=((1099511627776/b.natAbs:Nat):Int):=rfl
  rw[e,ta ⟨Int.natCast_nonneg _,Int.le_trans (Int.ofNat_le.2 (Nat.div_le_self _ _)) (by decide)⟩]
 rw[r]at D
 generalize (1099511627776:Int).tdiv (b.natAbs:Int)=q at D F
 generalize U:a*b=x at*
 have V:x.natAbs≤1099511627776→wr .u64 (x.natAbs:Int)=(x.natAbs:Int):=fun h=>ta ⟨by omega,by omega⟩
 have W:x.natAbs≤1099511627776→wr .i64 (x.natAbs:Int)=(x.natAbs:Int):=fun h=>jE ⟨by omega,by omega⟩
 have X:x.natAbs≤1099511627776→wr .i64 (0-(x.natAbs:Int))= -(x.natAbs:Int):=fun h=>by rw[jE ⟨by omega,by omega⟩];omega
 simp only[qB,seval,Ol,H,I,ah9,a0,J,F,r,rm]
 clear H I F
 unfold jM
 grind (splits:=30)
theorem bq1:((true==true) != false)=true:=nr rfl
theorem bq2:((false==false) != false)=true:=nr rfl
theorem bq3:((true==false) != false)=false:=nr rfl
theorem bq4:((false==true) != false)=false:=nr rfl
theorem bq5:((true==true) != true)=false:=nr rfl
theorem bq6:((false==false) != true)=false:=nr rfl
theorem bq7:((true==false) != true)=true:=nr rfl
theorem bq8:((false==true) != true)=true:=nr rfl
theorem UP{a b:Int}(E:b≠0)(h:(a<0∧b<0)∨(¬a<0∧ ¬b<0)):a.fdiv b=((a.natAbs/b.natAbs:Nat):Int):=by
 rcases h with⟨h1,h2⟩|⟨h1,h2⟩
 ·rw[←Int.neg_fdiv_neg,Int.fdiv_eq_ediv_of_nonneg _ (by omega)]
  have r: -a=((a.natAbs:Nat):Int):=by omega
  have D: -b=((b.natAbs:Nat):Int):=by omega
  rw[r,D];rfl
 ·rw[Int.fdiv_eq_ediv_of_nonneg _ (by omega)]
  have r:a=((a.natAbs:Nat):Int):=by omega
  have D:b=((b.natAbs:Nat):Int):=by omega
  conv=>lhs;rw[r,D]
  rfl
theorem Nz(x y:Nat):(x:Int).fdiv (y:Int)=((x/y:Nat):Int):=by rw[Int.fdiv_eq_ediv_of_nonneg _ (by omega)];rfl
theorem DU(x y:Nat):((y:Int)∣(x:Int))↔x%y=0:=by rw[Int.natCast_dvd_natCast];exact Nat.dvd_iff_mod_eq_zero
def upN(x y:Nat):Nat:=x/y+if 0<x%y then 1 else 0
theorem UQ{a b:Int}(H:b≠0)(h:(a<0∧ ¬b<0)∨(¬a<0∧b<0)):a.fdiv b= -((upN a.natAbs b.natAbs:Nat):Int):=by
 unfold upN
 rcases h with⟨h1,h2⟩|⟨h1,h2⟩
 ·have D:a= -((a.natAbs:Nat):Int):=by omega
  have E:b=((b.natAbs:Nat):Int):=by omega
  have F:b.natAbs≠0:=by omega
  generalize a.natAbs=x,b.natAbs=y at*
  subst D E
  rw[Int.neg_fdiv,Nz]
  by_cases r:x%y=0
  ·rw[if_pos (Or.inr ((DU x y).2 r)),if_neg (by omega)];omega
  ·rw[if_neg (by rintro(h|h)
                 ·omega
                 ·exact r ((DU x y).1 h)),if_pos (by omega)];omega
 ·have D:a=((a.natAbs:Nat):Int):=by omega
  have E:b= -((b.natAbs:Nat):Int):=by omega
  have F:((b.natAbs:Nat):Int)≠0:=by omega
  generalize a.natAbs=x,b.natAbs=y at*
  subst D E
  rw[Int.fdiv_neg F,Nz]
  by_cases r:x%y=0
  ·rw[if_pos ((DU x y).2 r),if_neg (by omega)];omega
  ·rw[if_neg (fun h=>r ((DU x y).1 h)),if_pos (by omega)];omega
theorem P5(a b:Int)(h:bd a):a.natAbs/b.natAbs≤1099511627776:=Nat.le_trans (Nat.div_le_self _ _) (Ke h)
theorem af7{a b:Int}(K:bd a)(W:bd b):be pE 194 [.i .i64 a,.i .i64 b] []=some (.i .i64 (Pb a b),[]):=by
 have N:=DT K
 have O:=DT W
 rw[iD Xo (by simp[SN])]
 unfold Pb
 by_cases D:b=0
 ·subst D
  simp only[qA,seval,SN]
 rw[if_neg D]
 have E:((b.natAbs:Nat):Int)≠0:=by omega
 have F:=P5 a b K
 have U:Ev.bin .quo (.i .u64 (a.natAbs:Int)) (.i .u64 (b.natAbs:Int))=some (.i .u64 ((a.natAbs/b.natAbs:Nat):Int)):=by
  rw[Ny E]
  have e:(a.natAbs:Int).tdiv (b.natAbs:Int)=((a.natAbs/b.natAbs:Nat):Int):=rfl
  rw[e,ta ⟨Int.natCast_nonneg _,Int.le_trans (Int.ofNat_le.2 F) (by decide)⟩]
 have V:Ev.bin .rem (.i .u64 (a.natAbs:Int)) (.i .u64 (b.natAbs:Int))=some (.i .u64 ((a.natAbs%b.natAbs:Nat):Int)):=by
  rw[abf E];rfl
 have X:= @UP a b D
 have H:= @UQ a b D
 unfold upN at H
 generalize a.natAbs/b.natAbs=q at*
 generalize a.natAbs%b.natAbs=r at*
 have I: ∀n:Nat,¬(1099511627776:Int)<(n:Int)→wr .i64 (n:Int)=(n:Int):=fun n h=>jE ⟨by omega,by omega⟩
 have J: ∀n:Nat,¬(1099511627776:Int)<(n:Int)→wr .i64 (0-(n:Int))= -(n:Int):=fun n h=>by rw[jE ⟨by omega,by omega⟩];omega
 have Y: ¬(1099511627776:Int)<(q:Int):=by omega
 have Z:wr .u64 ((q:Int)+1)=((q+1:Nat):Int):=by rw[ta ⟨by omega,by omega⟩];omega
 have m4:=I (q+1)
 have m5:=J (q+1)
 have m6:=I q
 have m7:=J q
 simp only[qB,seval,SN,N,O,ah9,D,U,V,rm,bq1,bq2,bq3,bq4,Z]
 clear N O U V I J
 unfold jM
 grind (splits:=30)
theorem af8:bd (-1):=by unfold bd;omega
theorem af9{a b:Int}(F:bd a)(O:bd b):be pE 158 [.i .i64 a,.i .i64 b] []=some (.i .i64 (Pb a b),[]):=by
 have I:=RY F af8
 rw[iD ahr (by simp[Og])]
 unfold Pb
 by_cases D:b=0
 ·subst D
  simp only[qA,seval,Og]
 rw[if_neg D]
 by_cases H:b= -1
 ·subst H
  have e:a.fdiv (-1)=a* -1:=by
   have:=Int.fdiv_neg (a:=a) (b:=1) (by decide)
   rw[if_pos (Int.one_dvd a),Int.fdiv_one]at this
   rw[this];omega
  rw[e]
  simp only[qA,seval,Og,I,ahq]
 have U:= @Int.fdiv_eq_tdiv a b
 have V:= @Int.dvd_iff_tmod_eq_zero b a
 have J:=Int.natAbs_tdiv_le_natAbs a b
 have K:=Ke F
 have E:Ev.bin .quo (.i .i64 a) (.i .i64 b)=some (.i .i64 (a.tdiv b)):=by
  rw[abg D,jE ⟨by omega,by omega⟩]
 have C4:=abh (a:=a) D
 have Kf:=Cl (a.tdiv b)
 have PT:=Cl (a.tdiv b-1)
 have N:wr .i64 (a.tdiv b-1)=a.tdiv b-1:=jE ⟨by omega,by omega⟩
 generalize a.tdiv b=q at*
 generalize a.tmod b=r at*
 have W:b<0→b.sign= -1:=Int.sign_eq_neg_one_of_neg
 have X:0<b→b.sign=1:=Int.sign_eq_one_of_pos
 simp only[qB,seval,Og,D,H,E,C4,Kf,PT,LC,rm,bq5,bq6,bq7,bq8,N]
 clear Kf PT E C4
 grind (splits:=30)
theorem aga(a b:Int):bd (Pb a b):=by
 unfold Pb
 split
 ·unfold bd;omega
 ·exact xU _
end Go.Proofs.YtjniffjppoklpaaGreat
