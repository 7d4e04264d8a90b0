/- Walks of functions of the program and of the reference, and their plain laws, part 3. Conditions: the theorems' own. -/
import Derived.Test.YtbdfboojnfinkaaGreatM2
import Derived.KernelRfl
set_option maxRecDepth 100000
set_option linter.unusedSimpArgs false
set_option linter.unusedVariables false
set_option maxHeartbeats 16000000
namespace Go.Proofs.YtbdfboojnfinkaaGreat
open Go Go.Ev
theorem mO(l:Cs): ∀n,(kB l n).length=n
 |0=>rfl
 |n+1=>by rw[kB,List.length_append,mO l n];rfl
theorem vI(l:Cs){n:Nat}(h:n<l.length):kB l (n+1)=kB l n++ [tV (l.take n) (kB l n) l[n].2]:=by
 rw[kB];simp[List.getD_eq_getElem?_getD,List.getElem?_eq_getElem h]
def U2(l:Cs):Prop:= ∀c∈l,0≤c.2.nodes∧c.2.sm
theorem sx(a:List Int)(x:Int):ints (a++ [x])=ints a++ [.i .i64 x]:=by simp[ints]
section
variable(l:Cs)(lT:T)(cl:List T)(hl:IsSl lT l.length cl)(l9:kN l cl)(hlen:l.length≤oh)(qW:U2 l)
include hl l9 hlen qW
theorem awd(U H:Nat)(fr:Fr)(lh:iz ib)(sh:List ib)
  (J:an fr 0=lT) (X:an fr 2= .ptr .L 2 U 0) (K:an fr 3= .ptr .L 3 H 0) (V:an fr 4= .i .i64 0) (Y:a6 lh 2=⟨U,.cells [.nilsl,.nilsl] 0 true⟩) (N:a6 lh 3=⟨H,.cells [.nilsl,.nilsl] 0 true⟩):
  rD 47 nR fr lh sh (.ext 0)∧
  (a6 (lZ pE 47 nR fr lh sh) 2=⟨U,.cells [.nilsl,.nilsl] 0 true⟩∧(∃h D,a6 (lZ pE 47 nR fr lh sh) 3=⟨H,.cells [h,D] 0 true⟩∧iP (lZ pE 47 nR fr lh sh) h 38 1 l.length (ints ((kB l l.length).map (·.1)))∧iP (lZ pE 47 nR fr lh sh) D 43 1 l.length (ints ((kB l l.length).map (·.2))))∧ng pE 47 nR fr lh sh=sh):=by
 refine jc (P:=fun js iN jb=>a6 iN 2=⟨U,.cells [.nilsl,.nilsl] 0 true⟩∧(∃h D,a6 iN 3=⟨H,.cells [h,D] 0 true⟩∧iP iN h 38 1 l.length (ints ((kB l l.length).map (·.1)))∧iP iN D 43 1 l.length (ints ((kB l l.length).map (·.2))))∧jb=sh)
  (jm (fun k st=> ∃(fr:Fr) (E:iz ib) (h D:T),st=⟨fr,E,sh⟩∧an fr 0=lT∧an fr 2= .ptr .L 2 U 0∧an fr 3= .ptr .L 3 H 0∧an fr 4= .i .i64 (k:Int)∧a6 E 2=⟨U,.cells [.nilsl,.nilsl] 0 true⟩∧a6 E 3=⟨H,.cells [h,D] 0 true⟩∧
    iP E h 38 1 k (ints ((kB l k).map (·.1)))∧iP E D 43 1 k (ints ((kB l k).map (·.2)))) _ l.length ?_ ?_ 0 _ (Nat.zero_le _) ⟨fr,lh,.nilsl,.nilsl,rfl,J,X,K,V,Y,N,iP.nil,iP.nil⟩)
 ·rintro k _ hk ⟨fr,E,h,D,rfl,J,X,K,V,Y,N,VS,VT⟩
  left
  have iR:(k:Int)<l.length:=by omega
  have hw:=iG (k:=k) (by omega)
  obtain⟨b,cb,r,iS,kg,tK,hb⟩:=lW hl l9 k hk
  obtain⟨NB,Ke⟩:=qW l[k] (List.getElem_mem hk)
  have F:=pY l[k].2 _ hb Ke
  rw[vI l hk,List.map_append,List.map_append]
  simp only[List.map_cons,List.map_nil,sx]
  unfold tV
  by_cases W:jh l[k].2=0
  ·rw[if_neg (by simp[W])]
   rw[W]at F
   have sv:l[k].2.wf=true:=by
    grind [jh]
   rcases hl with⟨_,hz,_⟩|⟨ex,rfl⟩
   ·omega
   have ua:k≤l.length:=by omega
   have Qc:=l9.len
   have mV:=VH (l.take k) (kB l k) (.sl (List.take (k*5) cl) k (ex&&decide (k=l.length))) (kz k (ints ((kB l k).map (·.1)))) (kz k (ints ((kB l k).map (·.2)))) (cl.take (k*5)) (Or.inr ⟨_,by rw[List.length_take,Nat.min_eq_left ua]⟩) (l9.take k) (by rw[List.length_take];omega) (by rw[mO,List.length_take,Nat.min_eq_left ua])
    (by rw[mO];exact VS.isl) (by rw[mO];exact VT.isl) 0 l[k].2 _ hb (by have:=yq W;omega) sv
   generalize l[k].2.ty (clk (l.take k) (kB l k)) 0=q at mV ⊢
   obtain⟨I,O⟩:=q
   simp only at mV ⊢
   have LP:=oe VS (by omega) (sh:=sh) (T.i .i64 I) true
   have Qd:=oe (VT.congr (LP.2.2 43 (by decide))) (by omega) (sh:=sh) (T.i .i64 O) true
   have Z:a6 (Cy E sh 38 1 8 h (.sl [.i .i64 I] 1 true)) 3=⟨H,.cells [h,D] 0 true⟩:=by rw[LP.2.2 3 (by decide),N]
   have e4:a6 (Cy (Cy E sh 38 1 8 h (.sl [.i .i64 I] 1 true)) sh 43 1 8 D (.sl [.i .i64 O] 1 true)) 3=⟨H,.cells [h,D] 0 true⟩:=by rw[Qd.2.2 3 (by decide),Z]
   simp only[qA,seval,wC,repl,iY,mX,iC,kV,nR,J,K,V,N,iR,iS,hw,F,HX,kg.froz1,ua,Qc,Nat.sub_zero,Nat.le_refl,VS.fzW,VT.fzW,alZ,al6,mV,VS.notS,VT.notS,qq VS,qq VT,LP.1,Qd.1,Z,e4,LP.2.1.cells,LP.2.1.noTup,Qd.2.1.cells,Qd.2.1.noTup]
   refine⟨_,rfl,_,_,J4 E sh 38 1 8 h (.sl [.i .i64 I] 1 true),J4 (Cy E sh 38 1 8 h (.sl [.i .i64 I] 1 true)) sh 43 1 8 D (.sl [.i .i64 O] 1 true),rfl, ?_, ?_, ?_, ?_, ?_, ?_, ?_, ?_⟩
   all_goals first|(simp only[qA,seval,J,X,K];done)|skip
   ·simp only[qA,seval];rw[Qd.2.2 2 (by decide),LP.2.2 2 (by decide),Y]
   ·refine iP.congr (lh:=Cy E sh 38 1 8 h (.sl [.i .i64 I] 1 true)) LP.2.1 ?_
    simp only[qA,seval]
    grind
   ·refine iP.congr Qd.2.1 ?_
    simp only[qA,seval]
  ·rw[if_pos W]
   obtain⟨I,h1q⟩: ∃q:Int,q=0:=⟨0,rfl⟩
   rw[←h1q]
   have acN:=F
   generalize hq2:jh l[k].2=O at acN W ⊢
   have LP:=oe VS (by omega) (sh:=sh) (T.i .i64 I) true
   have Qd:=oe (VT.congr (LP.2.2 43 (by decide))) (by omega) (sh:=sh) (T.i .i64 O) true
   have Z:a6 (Cy E sh 38 1 8 h (.sl [.i .i64 I] 1 true)) 3=⟨H,.cells [h,D] 0 true⟩:=by rw[LP.2.2 3 (by decide),N]
   have e4:a6 (Cy (Cy E sh 38 1 8 h (.sl [.i .i64 I] 1 true)) sh 43 1 8 D (.sl [.i .i64 O] 1 true)) 3=⟨H,.cells [h,D] 0 true⟩:=by rw[Qd.2.2 3 (by decide),Z]
   subst h1q
   simp only[qA,seval,wC,repl,iY,mX,iC,kV,nR,J,K,V,N,hl.lenI,iR,iS,hw,acN,HX,kg.froz1,W,VS.notS,VT.notS,qq VS,qq VT,LP.1,Qd.1,Z,e4,LP.2.1.cells,LP.2.1.noTup,Qd.2.1.cells,Qd.2.1.noTup]
   refine⟨_,rfl,_,_,J4 E sh 38 1 8 h (.sl [.i .i64 0] 1 true),J4 (Cy E sh 38 1 8 h (.sl [.i .i64 0] 1 true)) sh 43 1 8 D (.sl [.i .i64 O] 1 true),rfl, ?_, ?_, ?_, ?_, ?_, ?_, ?_, ?_⟩
   all_goals first|(simp only[qA,seval,J,X,K];done)|skip
   ·simp only[qA,seval];rw[Qd.2.2 2 (by decide),LP.2.2 2 (by decide),Y]
   ·refine iP.congr (lh:=Cy E sh 38 1 8 h (.sl [.i .i64 0] 1 true)) LP.2.1 ?_
    simp only[qA,seval]
    grind
   ·refine iP.congr Qd.2.1 ?_
    simp only[qA,seval]
 ·rintro _ ⟨fr,E,h,D,rfl,J,X,K,V,Y,N,VS,VT⟩
  simp only[qA,seval,nR,J,V,hl.lenI,Int.lt_irrefl]
  grind
theorem agG:hZ pE 155 [lT] []=some (.agg [kz l.length (ints ((kB l l.length).map (·.1))),kz l.length (ints ((kB l l.length).map (·.2)))],[]):=by
 have h:=fun fr lh sh D E F H I J=>awd l lT cl hl l9 hlen qW 1 1 fr lh sh D E F H I J
 have N:=fun fr lh sh D E F H I J=>And.intro (h fr lh sh D E F H I J).1 (And.intro (h fr lh sh D E F H I J).2.1 (And.intro (Gb (h fr lh sh D E F H I J).2.2.1).1 (h fr lh sh D E F H I J).2.2.2))
 have VS:=fun m keep K e fr lh sh D E F H I J=>iP.fzW (m:=m) (keep:=keep) (sh:=K) (iP.congr (Gb (h fr lh sh D E F H I J).2.2.1).2.1 (jg (k:=2) (m:=38) _ e (by decide)))
 have VT:=fun m keep K e fr lh sh D E F H I J=>iP.fzW (m:=m) (keep:=keep) (sh:=K) (iP.congr (Gb (h fr lh sh D E F H I J).2.2.1).2.2 (jg (k:=2) (m:=43) _ e (by decide)))
 rw[im Si (by simp[Rp])]
 simp only[qA,seval,Rp,Oh,N,VS,VT,zB]
theorem C5(scope:Int)(x:Ex)(cs:List T)(F:lv x cs)(U:0≤x.nodes)(hs:x.sm):hZ pE 102 [lT,.i .i64 scope,.agg cs] []=some (.tup [.i .i64 (si l scope x).1,.i .i64 (si l scope x).2],[]):=by
 have h:=pY x cs F hs
 have H:=agG l lT cl hl l9 hlen qW
 have J:IsSl (kz l.length (ints ((kB l l.length).map (·.1)))) l.length (ints ((kB l l.length).map (·.1))):=mg fun I=>by rw[I];rfl
 have WR:IsSl (kz l.length (ints ((kB l l.length).map (·.2)))) l.length (ints ((kB l l.length).map (·.2))):=mg fun I=>by rw[I];rfl
 have E:=fun(DM:jh x=0) N=>VH l (kB l l.length) lT _ _ cl hl l9 hlen (mO l _) (by rw[mO];exact J) (by rw[mO];exact WR) scope x cs F (by have:=yq DM;omega) N
 obtain⟨a,V,rfl,K,AJ⟩:=F.cells
 rw[im RT (by simp[NV])]
 unfold si
 by_cases D:jh x=0
 ·rw[if_neg (by simp[D])]
  rw[D]at h
  have O:x.wf=true:=by
   grind [jh]
  have E:=E D O
  generalize x.ty (clk l (kB l l.length)) scope=q at E ⊢
  simp only[qA,seval,iY,iC,NV,h,HX,K.froz1,H,al7,al8,hl.froz,E,Sg,Sh,J.froz1,WR.froz1]
 ·rw[if_pos D]
  generalize jh x=e at h D ⊢
  simp only[qA,seval,NV,h,HX,K.froz1,D]
end
theorem C6{α:Type}: ∀(A R:List α) (j:Nat) (h:List α),splice (A++R) (A.length+j) h=A++splice R j h
 | [],R,j,h=>by simp
 |a::A,R,j,h=>by
  rw[List.cons_append,List.length_cons,show A.length+1+j=(A.length+j)+1 by omega,splice,C6 A R j h];rfl
theorem AA{α:Type}: ∀(z R D:List α),D.length=z.length→splice (z++R) 0 D=D++R
 | [],R,[],_=>by cases R <;> rfl
 |c::z,R,v::D,h=>by simp_all[List.cons_append,splice,AA]
theorem C7{α:Type}(A z R D:List α)(k:Nat)(E:A.length=k)(h:D.length=z.length):splice (A++(z++R)) k D=(A++D)++R:=by
 have:=C6 A (z++R) 0 D
 simp_all[Nat.add_zero,AA,List.append_assoc]
theorem zR{α:Type}(z:List α)(n:Nat):repl z (n+1)=z++repl z n:=rfl
theorem C8{α:Type}(z:List α): ∀n,(repl z n).length=n*z.length
 |0=>by simp[repl]
 |n+1=>by rw[zR,List.length_append,C8 z n,Nat.succ_mul,Nat.add_comm]
def jo(l:Cs):Nat→List (List Nat×Nat)
 |0=> []
 |n+1=>match iH (jo l n) (l.getD n ([],.mk 0 0 [] [])).1 with
  |none=>jo l n++ [((l.getD n ([],.mk 0 0 [] [])).1,n)]
  |some _=>jo l n
theorem zS(l:Cs){n:Nat}(h:n<l.length):jo l (n+1)=match iH (jo l n) l[n].1 with
  |none=>jo l n++ [(l[n].1,n)]
  |some _=>jo l n:=by
 rw[jo];simp[List.getD_eq_getElem?_getD,List.getElem?_eq_getElem h]
theorem E1(s:List Nat)(c:List Nat×Ex): ∀l:Cs,lN (l++ [c]) s=match lN l s with|some i=>some i|none=>if c.1=s then some l.length else none
 | []=>by simp[lN]
 |d::l=>by
  rw[List.cons_append,lN,lN,E1 s c l]
  grind
theorem vJ(l:Cs)(s:List Nat): ∀n,n≤l.length→iH (jo l n) s=lN (l.take n) s
 |0,_=>by simp[jo,iH,lN]
 |n+1,h=>by
  have D:n<l.length:=by omega
  rw[zS l D,List.take_succ_eq_append_getElem D,E1]
  have ih:=vJ l s n (by omega)
  have E:=vJ l l[n].1 n (by omega)
  grind [pW,List.length_take,Nat.min_eq_left,hi]
def sK(s:List Nat):T:= .s s
def nK(n:Nat):T:= .i .i64 (n:Int)
def iV(n:Int):T:= .i .i64 n
theorem DT(a b:List Nat):tO (.one .str) (sK a) (sK b)=some (decide (a=b)):=an8
theorem Z2(a b:Nat):tO (.one .int) (nK a) (nK b)=some (decide (a=b)):=by
 grind [nK,an9]
def wQ(lT:T)(m:List (List Nat×Nat))(kn:List (Nat×Int)):List ib:=
 [⟨1,.map (m.map fun p=>sK p.1) (m.map fun p=>nK p.2) false⟩,⟨1,.map (kn.map fun p=>nK p.1) (kn.map fun p=>iV p.2) false⟩,⟨1,.cells [lT,.mp .S 0 1,.mp .S 1 1] 0 true⟩]
section
variable(lT:T)(m:List (List Nat×Nat))(kn:List (Nat×Int))
theorem ch0:jr (wQ lT m kn) 0=⟨1,.map (m.map fun p=>sK p.1) (m.map fun p=>nK p.2) false⟩:=nr rfl
theorem ch1:jr (wQ lT m kn) 1=⟨1,.map (kn.map fun p=>nK p.1) (kn.map fun p=>iV p.2) false⟩:=nr rfl
theorem ch2:jr (wQ lT m kn) 2=⟨1,.cells [lT,.mp .S 0 1,.mp .S 1 1] 0 true⟩:=nr rfl
theorem awf(h:List (List Nat×Nat)):jO (wQ lT m kn) 0 ⟨1,.map (h.map fun p=>sK p.1) (h.map fun p=>nK p.2) false⟩=wQ lT h kn:=nr rfl
theorem awg(h:List (Nat×Int)):jO (wQ lT m kn) 1 ⟨1,.map (h.map fun p=>nK p.1) (h.map fun p=>iV p.2) false⟩=wQ lT m h:=nr rfl
theorem apP:wQ lT [] []= [⟨1,.map [] [] false⟩,⟨1,.map [] [] false⟩,⟨1,.cells [lT,.mp .S 0 1,.mp .S 1 1] 0 true⟩]:=nr rfl
end
def QD(r:Option Nat):T:=match r with|some v=> .tup [nK v,.b true]|none=> .tup [.i .i64 0,.b false]
theorem lkS(m:List (List Nat×Nat))(s:List Nat):nF (.one .str) (m.map fun p=>sK p.1) (m.map fun p=>nK p.2) (.s s) (.i .i64 0) true=some (QD (iH m s)):=by
 have:=afm (kT:=sK) (vT:=nK) DT (fun _=>rfl) m s (.i .i64 0)
 rw[show(T.s s)=sK s from rfl,this];unfold QD;cases iH m s <;> rfl
section
variable(l:Cs)(lT:T)(cl:List T)(hl:IsSl lT l.length cl)(l9:kN l cl)(hlen:l.length≤oh)
include hl l9 hlen
theorem awh(fr:Fr)(lh:iz ib)(sh:List ib)(U:sh=wQ lT [] [])
  (E:an fr 3= .ptr .S 2 1 0) (F:an fr 13=lT) (D:an fr 14= .i .i64 (l.length:Int)) (Ar:an fr 15= .i .i64 0):
  rD 41 wq fr lh sh (.ext 0)∧
  (ng pE 41 wq fr lh sh=wQ lT (jo l l.length) []):=by
 refine jc (P:=fun X Y V=>V=wQ lT (jo l l.length) [])
  (jm (fun k st=> ∃(fr:Fr) (H:iz ib),st=⟨fr,H,wQ lT (jo l k) []⟩∧an fr 3= .ptr .S 2 1 0∧an fr 13=lT∧an fr 14= .i .i64 (l.length:Int)∧an fr 15= .i .i64 (k:Int)) _ l.length ?_ ?_ 0 _ (Nat.zero_le _) ⟨fr,lh,by rw[U];rfl,E,F,D,Ar⟩)
 ·rintro k _ J ⟨fr,H,rfl,E,F,D,Ar⟩
  left
  have K:(k:Int)<l.length:=by omega
  have N:=iG (k:=k) (by omega)
  obtain⟨b,Z,r,O,kg,tK,hb⟩:=lW hl l9 k J
  have h:=lkS (jo l k) l[k].1
  rw[zS l J]
  cases I:iH (jo l k) l[k].1 with
  |some i=>
   rw[I]at h
   unfold QD at h
   simp only[qA,seval,iY,iC,kD,wq,E,F,D,Ar,K,O,N,ch2,ch0,jB,h]
   refine⟨_,rfl,_,_,rfl, ?_, ?_, ?_, ?_⟩ <;> simp only[qA,seval,E,F,D]
  |none=>
   rw[I]at h
   unfold QD at h
   have W:p6 (.one .str) (.s l[k].1) (.i .i64 (k:Int)) ((jo l k).map fun p=>sK p.1) ((jo l k).map fun p=>nK p.2)=_:=xS (kT:=sK) (vT:=nK) DT (jo l k) l[k].1 k I
   simp only[qA,seval,iY,iC,kD,wq,E,F,D,Ar,K,O,N,ch2,ch0,jB,h,Aq,W,awf]
   refine⟨_,rfl,_,_,rfl, ?_, ?_, ?_, ?_⟩ <;> simp only[qA,seval,E,F,D]
 ·rintro _ ⟨fr,H,rfl,E,F,D,Ar⟩
  simp only[qA,seval,wq,D,Ar,Int.lt_irrefl]
  grind
theorem agH:hZ pE 61 [lT] []=some (.ptr .S 2 1 0,wQ lT (jo l l.length) []):=by
 have h:=fun fr lh sh=>awh l lT cl hl l9 hlen fr lh sh
 rw[apP]at h
 rw[im ala (by simp[c61])]
 simp only[qA,seval,nl,kD,c61,QU,hl.lenI,hl.cells,hl.noTup,hl.kept1,h]
end
theorem Jz(l:Cs)(n:Nat): ∀k,∃r,kB l (n+k)=kB l n++r
 |0=>⟨[],by simp⟩
 |k+1=>by
  obtain⟨r,h⟩:=Jz l n k
  grind [Nat.add_assoc,kB]
theorem C9(l:Cs){n i:Nat}(D:n≤l.length)(hi:i<n):(kB l n).getD i (0,6)=(kB l l.length).getD i (0,6):=by
 obtain⟨r,h⟩:=Jz l n (l.length-n)
 grind [mO,hi]
def vR(l:Cs)(i:Nat):Int×Int:=(kB l l.length).getD i (0,6)
theorem GI(l:Cs){i:Nat}(hi:i<l.length):vR l i=tV (l.take i) (kB l i) l[i].2:=by
 unfold vR
 rw[←C9 l (n:=i+1) (by omega) (by omega),vI l hi,List.getD_eq_getElem?_getD,List.getElem?_append_right (by rw[mO];omega),mO,Nat.sub_self]
 rfl
theorem agI{cl:List Nat→Int×Int}(l9: ∀s,(cl s).2≠0→(cl s).1=0)(scope:Int)(x:Ex)(h:(x.ty cl scope).2≠0):(x.ty cl scope).1=0:=by
 grind [Ex.ty_eq]
theorem Z3(l:Cs)(D:List (Int×Int))(h: ∀t∈D,t.2≠0→t.1=0)(s:List Nat):(clk l D s).2≠0→(clk l D s).1=0:=by
 grind [clk]
theorem Da(l:Cs): ∀n,∀t∈kB l n,t.2≠0→t.1=0
 |0=>by simp[kB]
 |n+1=>by
  intro t ht
  rw[kB]at ht
  rcases List.mem_append.1 ht with ht|ht
  ·exact Da l n t ht
  ·rw[List.mem_singleton]at ht
   subst ht
   unfold tV
   split
   ·intro _;rfl
   ·exact agI (Z3 _ _ (Da l n)) _ _
section
variable(l:Cs)(lT:T)(cl:List T)(hl:IsSl lT l.length cl)(l9:kN l cl)(hlen:l.length≤oh)(qW:U2 l)
def yu(kn:List (Nat×Int)):Prop:= ∀i t,iH kn i=some t→i<l.length∧vR l i=(t,0)
def agJ(j:Nat):Prop:= ∀kn,yu l kn→ ∃h,hZ pE 63 [.ptr .S 2 1 0,.i .i64 (j:Int)] (wQ lT (jo l l.length) kn)=some (.tup [.i .i64 (vR l j).1,.i .i64 (vR l j).2],wQ lT (jo l l.length) h)∧yu l h∧ ∀i,j<i→iH h i=iH kn i
def GJ(n:Nat):List Nat→Int×Int:=clk (l.take n) (kB l n)
def apR(n:Nat)(scope:Int)(y:Ex):Prop:= ∀kn,yu l kn→ ∀cs:List T,lv y cs→y.nodes≤100000→y.wf=true→ ∃h,hZ pE 161 [.ptr .S 2 1 0,.i .i64 scope,.i .i64 (n:Int),.agg cs] (wQ lT (jo l l.length) kn)=some (.tup [.i .i64 (y.ty (GJ l n) scope).1,.i .i64 (y.ty (GJ l n) scope).2],wQ lT (jo l l.length) h)∧yu l h∧ ∀i,n≤i→iH h i=iH kn i
include hl
theorem awi(n:Nat)(scope:Int)(xs:List Ex)(ih: ∀y∈xs,apR l lT n scope y)(a:T)(cc:List T)(ha:IsSl a xs.length cc)(hx:jx xs cc)(hn:jz xs≤100000)(sv:wP xs=true)(kn:List (Nat×Int))(ph:yu l kn)(r:Except Int (List Int))(hr:r=pc (GJ l n) scope xs)(o:Out)(ho:o=LM r)(g:Nat)(W:ib)(fr:Fr)(lh:iz ib)(sh:List ib)(lC:sh=wQ lT (jo l l.length) kn)
  (F:an fr 0= .ptr .S 2 1 0) (H:an fr 1= .i .i64 scope) (I:an fr 2= .i .i64 (n:Int)) (N:an fr 14= .isl .L 57 g 0 xs.length 1) (EU:an fr 59=a) (Dr:an fr 60= .i .i64 (xs.length:Int)) (EV:an fr 61= .i .i64 0) (JA:a6 lh 57=⟨g,.cells (repl [.i .i64 0] xs.length) 0 false⟩) (J:a6 lh 7=W):
  rD 89 nS fr lh sh o∧
  ((∀e,r= .error e→an (pw pE 89 nS fr lh sh) 8= .i .i64 0∧an (pw pE 89 nS fr lh sh) 9= .i .i64 e)∧(∀ts,r= .ok ts→a6 (lZ pE 89 nS fr lh sh) 57=⟨g,.cells (ints ts) 0 false⟩)∧
    a6 (lZ pE 89 nS fr lh sh) 7=W∧ ∃E,ng pE 89 nS fr lh sh=wQ lT (jo l l.length) E∧yu l E∧ ∀i,n≤i→iH E i=iH kn i):=by
 have _:=hl
 refine jc (P:=fun js iN jb=>(∀e,r= .error e→an js 8= .i .i64 0∧an js 9= .i .i64 e)∧(∀ts,r= .ok ts→a6 iN 57=⟨g,.cells (ints ts) 0 false⟩)∧a6 iN 7=W∧ ∃E,jb=wQ lT (jo l l.length) E∧yu l E∧ ∀i,n≤i→iH E i=iH kn i)
  (jm (fun k st=> ∃(fr:Fr) (O:iz ib) (ts:List Int) (I4:List (Nat×Int)),st=⟨fr,O,wQ lT (jo l l.length) I4⟩∧an fr 0= .ptr .S 2 1 0∧an fr 1= .i .i64 scope∧an fr 2= .i .i64 (n:Int)∧an fr 14= .isl .L 57 g 0 xs.length 1∧an fr 59=a∧an fr 60= .i .i64 (xs.length:Int)∧an fr 61= .i .i64 (k:Int)∧a6 O 7=W∧
    a6 O 57=⟨g,.cells (ints ts++repl [.i .i64 0] (xs.length-k)) 0 false⟩∧ts.length=k∧r=GF ts (pc (GJ l n) scope (xs.drop k))∧yu l I4∧ ∀i,n≤i→iH I4 i=iH kn i) _ xs.length ?_ ?_ 0 _ (Nat.zero_le _) ⟨fr,lh,[],kn,by rw[lC],F,H,I,N,EU,Dr,EV,J,by rw[JA];rfl,rfl,by rw[hr,List.drop_zero];cases pc (GJ l n) scope xs <;> rfl,ph,fun _ _=>rfl⟩)
 ·rintro k _ A6 ⟨fr,O,ts,I4,rfl,F,H,I,N,EU,Dr,EV,J,JA,X,h,LQ,JB⟩
  have iR:(k:Int)<xs.length:=by omega
  have Y:=jQ xs
  have hyk:=l8 (List.getElem_mem A6)
  have hw:=iG (k:=k) (kI (by omega))
  obtain⟨b,cb,rr,iS,kg,tK,hb⟩:=nJ ha hx k A6
  obtain⟨MZ,K,Z4,Z5⟩:=ih xs[k] (List.getElem_mem A6) I4 LQ _ hb (by omega) (vw.1 sv _ (List.getElem_mem A6))
  rw[Jw A6]at h
  by_cases D:(xs[k].ty (GJ l n) scope).2=0
  ·left
   rw[if_neg (by simp[D]),E0]at h
   generalize xs[k].ty (GJ l n) scope=q at K D h
   obtain⟨U,q2⟩:=q
   simp only at K D h
   subst D
   have WB:(ints ts++repl [T.i .i64 0] (xs.length-k)).length=xs.length:=by rw[List.length_append,lB,C8,X];simp;omega
   have Z:splice (ints ts++repl [T.i .i64 0] (xs.length-k)) k [.i .i64 U]=ints (ts++ [U])++repl [T.i .i64 0] (xs.length-(k+1)):=by
    rw[show xs.length-k=(xs.length-(k+1))+1 by omega,zR,C7 (ints ts) [T.i .i64 0] _ [T.i .i64 U] k (by rw[lB];exact X) rfl,sx]
   have agK:k+1≤xs.length:=by omega
   simp only[qA,seval,kD,nS,F,H,I,N,EU,Dr,EV,JA,iR,iS,hw,K,Sk,kg.kept1,A6,WB,Z,agK]
   refine⟨_,rfl,_,_,ts++ [U],MZ,rfl, ?_, ?_, ?_, ?_, ?_, ?_, ?_, ?_, ?_,by simp[X],h,Z4,fun i hi=>by rw[Z5 i hi,JB i hi]⟩
   all_goals first|(simp only[qA,seval,F,H,I,N,EU,Dr,J];done)|skip
  ·right
   rw[if_pos (by simp[D])]at h
   generalize xs[k].ty (GJ l n) scope=q at K D h
   obtain⟨U,q2⟩:=q
   simp only at K D h
   simp only[qA,seval,kD,nS,F,H,I,EU,Dr,EV,iR,iS,K,Sk,kg.kept1,D]
   refine⟨_,_,HS,rfl,by rw[ho,h];rfl,fun e V=> ?_,fun t ht=>(by rw[h]at ht;cases ht),by simp only[qA,seval,J],MZ,rfl,Z4,fun i hi=>by rw[Z5 i hi,JB i hi]⟩
   rw[h]at V
   cases V
   exact⟨by simp only[qA,seval],by simp only[qA,seval]⟩
 ·rintro _ ⟨fr,O,ts,I4,rfl,F,H,I,N,EU,Dr,EV,J,JA,X,h,LQ,JB⟩
  rw[List.drop_length,pc,GF,List.append_nil]at h
  rw[Nat.sub_self,show repl [T.i .i64 0] 0= []from rfl,List.append_nil]at JA
  simp only[qA,seval,nS,Dr,EV,Int.lt_irrefl]
  refine⟨_,_,qH,rfl,by rw[ho,h];rfl,fun e V=>(by rw[h]at V;cases V),fun t ht=> ?_,J,I4,rfl,LQ,JB⟩
  grind
include l9 hlen
theorem agL(n:Nat)(En:n≤l.length)(hc: ∀j,j<n→agJ l lT j)(scope:Int)(x:Ex):apR l lT n scope x:=by
 have _:=hlen
 have _:=l9
 induction x using Ex.ind with
 |h x ih=>
  intro kn ph cs hx hn sv
  obtain⟨a,cc,rfl,ha,AJ⟩:=hx.cells
  rw[im abj (by simp[BO]),Ex.ty_eq]
  have hnd:=x.nodes_eq
  rw[Ex.wf_eq,Bool.and_eq_true]at sv
  obtain⟨tT,AI⟩:=sv
  have E:=IW scope x.name
  have yB:=jQ x.args
  have C3:x.args.length≤oh:=kI (by omega)
  simp only[rF,Bool.and_eq_true,decide_eq_true_eq]at tT
  obtain⟨agx,agy,lD,_,_⟩:=tT
  by_cases W:x.op=6
  ·rw[if_pos W]
   unfold sg at E
   by_cases Y:kA scope x.name=0
   ·rw[if_neg (by simp[Y])]
    rw[if_pos Y,Y]at E
    have D:=lkS (jo l l.length) x.name
    rw[vJ l x.name l.length (Nat.le_refl _),List.take_length]at D
    have Wz:GJ l n x.name=match lN l x.name with|some i=>if i<n then vR l i else(0,6)|none=>(0,6):=by
     unfold GJ clk
     rw[vG]
     cases hi:lN l x.name with
     |none=>rfl
     |some i=>
      simp only
      by_cases Z:i<n
      ·rw[if_pos Z,if_pos Z];exact C9 l En Z
      ·grind
    rw[Wz]
    cases hi:lN l x.name with
    |none=>
     rw[hi]at D
     unfold QD at D
     simp only[qA,seval,BO,W,E,RQ,ch2,ch0,jB,D]
     grind
    |some i=>
     rw[hi]at D
     rw[show QD (some i)= .tup [.i .i64 (i:Int),.b true]from rfl]at D
     by_cases Z:i<n
     ·obtain⟨F,iu,oq,Z6⟩:=hc i Z kn ph
      have agM:(i:Int)<n:=by omega
      simp only[Z,if_true]
      simp only[qA,seval,kD,BO,W,E,RQ,ch2,ch0,jB,D,agM,iu,ald]
      grind
     ·have agM: ¬(i:Int)<n:=by omega
      simp only[Z,if_false]
      simp only[qA,seval,BO,W,E,RQ,ch2,ch0,jB,D,agM]
      grind
   ·rw[if_pos Y]
    rw[if_neg Y]at E
    simp only[qA,seval,BO,W,E,RQ]
    grind
  ·rw[if_neg W]
   have hL:=fun I fr lh sh J K N O U EU Dr EV JA V=>awi l lT cl hl n scope x.args (fun y hy=>ih y hy) a cc ha AJ (by omega) AI kn ph _ rfl _ rfl 1 I fr lh sh J K N O U EU Dr EV JA V
   have hmk:x.args.length*8≤roomy∧x.args.length≤roomy:=by unfold oh at C3;unfold roomy;omega
   have hS:=fun I fr lh sh J K N O U EU Dr EV JA V=>(hL I fr lh sh J K N O U EU Dr EV JA V).2.2.2.2
   cases hr:pc (GJ l n) scope x.args with
   |error e=>
    have H:=fun I fr lh sh J K N O U EU Dr EV JA V=>And.intro (hL I fr lh sh J K N O U EU Dr EV JA V).1 ((hL I fr lh sh J K N O U EU Dr EV JA V).2.1 e hr)
    simp only[hr,LM]at H
    simp only[qA,seval,BO,W,ha.lenI,hmk,H]
    generalize hX:ng _ _ _ _ _ _=X
    obtain⟨F,e1,e2,e3⟩: ∃F,X=wQ lT (jo l l.length) F∧yu l F∧ ∀i,n≤i→iH F i=iH kn i:=by
     rw[←hX]
     refine hS _ _ _ _ rfl ?_ ?_ ?_ ?_ ?_ ?_ ?_ ?_ rfl <;> simp only[qA,seval]
    grind
   |ok ts=>
    have C4:=tq hr
    have H:=fun I fr lh sh J K N O U EU Dr EV JA V=>And.intro (hL I fr lh sh J K N O U EU Dr EV JA V).1 (hL I fr lh sh J K N O U EU Dr EV JA V).2.2.2.1
    have hF:=fun I fr lh sh J K N O U EU Dr EV JA V=>(hL I fr lh sh J K N O U EU Dr EV JA V).2.2.1 ts hr
    have qh:(ints ts).length=x.args.length:=by rw[lB,C4]
    have hit:List.take x.args.length (ints ts)=ints ts:=List.take_of_length_le (by omega)
    simp only[hr,LM]at H
    have xA:=LK x.op ts (.sl (ints ts) x.args.length false) (Or.inr ⟨false,by rw[C4]⟩) (by rw[C4];exact C3) agx agy W (by rw[C4];exact lD)
    by_cases Y:py x.op ts=0
    ·rw[Y]at xA
     simp only[qA,seval,BO,D8,W,ha.lenI,hmk,H ⟨1,.cells [.i .i64 x.op,.i .i64 x.num,.s x.name,a] 0 true⟩,hF ⟨1,.cells [.i .i64 x.op,.i .i64 x.num,.s x.name,a] 0 true⟩,xA,abL,Y,qh,hit]
     generalize hX:ng _ _ _ _ _ _=X
     obtain⟨F,e1,e2,e3⟩: ∃F,X=wQ lT (jo l l.length) F∧yu l F∧ ∀i,n≤i→iH F i=iH kn i:=by
      rw[←hX]
      refine hS _ _ _ _ rfl ?_ ?_ ?_ ?_ ?_ ?_ ?_ ?_ rfl <;> simp only[qA,seval]
     grind
    ·simp only[qA,seval,BO,D8,W,ha.lenI,hmk,H ⟨1,.cells [.i .i64 x.op,.i .i64 x.num,.s x.name,a] 0 true⟩,hF ⟨1,.cells [.i .i64 x.op,.i .i64 x.num,.s x.name,a] 0 true⟩,xA,abL,Y,qh,hit]
     generalize hX:ng _ _ _ _ _ _=X
     obtain⟨F,e1,e2,e3⟩: ∃F,X=wQ lT (jo l l.length) F∧yu l F∧ ∀i,n≤i→iH F i=iH kn i:=by
      rw[←hX]
      refine hS _ _ _ _ rfl ?_ ?_ ?_ ?_ ?_ ?_ ?_ ?_ rfl <;> simp only[qA,seval]
     grind
end
theorem mM{x:Ex}(h:jh x=0):x.wf=true:=by
 unfold jh at h
 by_cases Ig:big x
 ·rw[if_pos Ig]at h;cases h
 ·rw[if_neg Ig]at h
  cases D:x.wf with
  |true=>rfl
  |false=>rw[D]at h;cases h
section
variable(l:Cs)(lT:T)(cl:List T)(hl:IsSl lT l.length cl)(l9:kN l cl)(hlen:l.length≤oh)(qW:U2 l)
include hl l9 hlen
def Qe(n:Nat)(scope:Int)(x:Ex):Int×Int:=if jh x≠0 then(0,jh x)else x.ty (GJ l n) scope
theorem VU(n:Nat)(En:n≤l.length)(K: ∀j,j<n→agJ l lT j)(scope:Int)(x:Ex)(cs:List T)(H:lv x cs)(N:0≤x.nodes)(hs:x.sm)(kn:List (Nat×Int))(J:yu l kn):
  ∃F,hZ pE 117 [.ptr .S 2 1 0,.i .i64 scope,.i .i64 (n:Int),.agg cs] (wQ lT (jo l l.length) kn)=some (.tup [.i .i64 (Qe l n scope x).1,.i .i64 (Qe l n scope x).2],wQ lT (jo l l.length) F)∧yu l F∧ ∀i,n≤i→iH F i=iH kn i:=by
 have D:=fun z fr lh sh=>sy (z:=z) (fr:=fr) (lh:=lh) (sh:=sh) x cs H N hs
 have I:=fun h=>agL l lT cl hl l9 hlen n En K scope x kn J cs H h
 obtain⟨a,X,rfl,O,AJ⟩:=H.cells
 rw[im aaK (by simp[N4])]
 unfold Qe
 by_cases E:jh x=0
 ·rw[if_neg (by simp[E])]
  obtain⟨F,U,V,W⟩:=I (by have:=yq E;omega) (mM E)
  rw[E]at D
  simp only[qA,seval,kD,N4,D,U,Sk,O.kept1]
  exact⟨F,rfl,V,W⟩
 ·rw[if_pos E]
  generalize jh x=e at D E ⊢
  simp only[qA,seval,N4,D,E]
  exact⟨kn,rfl,J,fun _ _=>rfl⟩
include qW
theorem VV: ∀j,j<l.length→agJ l lT j:=by
 intro j
 induction j using Nat.strongRecOn with
 |ind j ih=>
  intro F kn J
  obtain⟨b,cb,r,K,N,tK,V⟩:=lW hl l9 j F
  obtain⟨NB,Ke⟩:=qW l[j] (List.getElem_mem F)
  obtain⟨D,E,O,Z6⟩:=VU l lT cl hl l9 hlen j (by omega) (fun i hi=>ih i hi (by omega)) 0 l[j].2 _ V NB Ke kn J
  have DD:vR l j=Qe l j 0 l[j].2:=by rw[GI l F];rfl
  rw[←DD]at E
  have Z7:(vR l j).2≠0→(vR l j).1=0:=by
   unfold vR
   rw[List.getD_eq_getElem?_getD,List.getElem?_eq_getElem (by rw[mO];exact F)]
   exact Da l _ _ (List.getElem_mem _)
  have h:nF (.one .int) (kn.map fun p=>nK p.1) (kn.map fun p=>iV p.2) (.i .i64 (j:Int)) (.i .i64 0) true=_:=afm (kT:=nK) (vT:=iV) Z2 (fun _=>rfl) kn j (.i .i64 0)
  rw[im alc (by simp[c63])]
  cases H:iH kn j with
  |some t=>
   obtain⟨_,W⟩:=J j t H
   rw[H]at h
   simp only[show iV t= .i .i64 t from rfl]at h
   rw[W]
   simp only[qA,seval,c63,ch2,ch1,jB,h]
   exact⟨kn,rfl,J,fun _ _=>rfl⟩
  |none=>
   rw[H]at h
   generalize X:vR l j=q at E Z7 ⊢
   obtain⟨U,Y⟩:=q
   simp only at E Z7 ⊢
   by_cases I:Y=0
   ·subst I
    have Z:iH D j=none:=by rw[Z6 j (Nat.le_refl _),H]
    have nY:p6 (.one .int) (.i .i64 (j:Int)) (.i .i64 U) (D.map fun p=>nK p.1) (D.map fun p=>iV p.2)=_:=xS (kT:=nK) (vT:=iV) Z2 D j U Z
    simp only[qA,seval,kD,c63,ch2,ch1,jB,h,K,N.kept1,E,H0,acs,nY,awg]
    refine⟨_,rfl, ?_, ?_⟩
    ·intro i t hi
     rw[pW]at hi
     cases OZ:iH D i with
     |some u=>rw[OZ]at hi;cases hi;exact O i _ OZ
     |none=>
      rw[OZ]at hi
      simp only at hi
      split at hi
      ·rename_i e;subst e;cases hi;exact⟨F,X⟩
      ·cases hi
    ·intro i hi
     rw[pW,Z6 i (by omega)]
     cases iH kn i with
     |some u=>rfl
     |none=>simp only;rw[if_neg (by omega)]
   ·rw[Z7 I]
    rw[Z7 I]at E
    simp only[qA,seval,kD,c63,ch2,ch1,jB,h,K,N.kept1,E,H0,I]
    exact⟨D,rfl,O,fun i hi=>Z6 i (by omega)⟩
end
def bd(n:Int):Prop:= -1099511627776≤n∧n≤1099511627776
theorem pK{x y:Bool}:tO (.one .bool) (.b x) (.b y)=some (x==y):=rfl
theorem vK(n:Int):bd (jj n):=by unfold bd jj;omega
theorem E3{n:Int}(h:bd n):jj n=n:=by unfold bd at h;unfold jj;omega
theorem E5(n:Int):(if(if n<1099511627776 then n else(1099511627776:Int))> -1099511627776 then(if n<1099511627776 then n else(1099511627776:Int))else-1099511627776)=jj n:=by
 unfold jj;split <;> split <;> omega
theorem zU(n:Int):hZ pE 165 [.i .i64 n] []=some (.i .i64 (jj n),[]):=by
 rw[im abn (by simp[Rw]),←E5]
 simp only[qA,seval,Rw]
theorem Qf(n:Int):hZ pE 172 [.i .i64 n] []=some (.i .i64 (jj n),[]):=by
 rw[im Sm (by simp[Kl]),←E5]
 simp only[qA,seval,Kl]
theorem VW{a b:Int}(h:bd a)(D:bd b):wr .i64 (a+b)=a+b:=by unfold bd at *; exact jw ⟨by omega,by omega⟩
theorem GK{a:Int}(h:bd a):wr .i64 (0-a)= -a:=by unfold bd at *; rw[jw ⟨by omega,by omega⟩];omega
theorem wL{a:Int}(h:bd a):bd (-a):=by unfold bd at *; omega
theorem GL{a b:Int}(J:bd a)(K:bd b):hZ pE 123 [.i .i64 a,.i .i64 b] []=some (.i .i64 (jj (a+b)),[]):=by
 have E:=VW J K
 have F:=zU (a+b)
 clear J K
 rw[im aaQ (by simp[HO])]
 by_cases H:0≤a
 ·have h: ¬a<0:=by omega
  by_cases D:0≤b
  ·have I: ¬a+b<0:=by omega
   simp only[qA,seval,HO,E,F,H3,H,h,D,I]
  ·simp only[qA,seval,HO,E,F,H3,H,h,D]
 ·have h:a<0:=by omega
  by_cases D:b<0
  ·have I: ¬0≤a+b:=by omega
   simp only[qA,seval,HO,E,F,H3,H,h,D,I]
  ·simp only[qA,seval,HO,E,F,H3,H,h,D]
theorem GM{a b:Int}(J:bd a)(K:bd b):hZ pE 173 [.i .i64 a,.i .i64 b] []=some (.i .i64 (jj (a+b)),[]):=by
 have D:=VW J K
 have E:=Qf (a+b)
 clear J K
 rw[im Sn (by simp[Fq])]
 by_cases F:0<a
 ·have h: ¬a<0:=by omega
  by_cases H:0<b
  ·have I: ¬a+b<0:=by omega
   simp only[qA,seval,Fq,D,E,BQ,F,h,H,I]
  ·simp only[qA,seval,Fq,D,E,BQ,F,h,H]
 ·by_cases h:a<0
  ·by_cases H:b<0
   ·have I: ¬0≤a+b:=by omega
    simp only[qA,seval,Fq,D,E,BQ,F,h,H,I]
   ·simp only[qA,seval,Fq,D,E,BQ,F,h,H]
  ·simp only[qA,seval,Fq,D,E,BQ,F,h]
theorem VY{a:Int}(h:bd a)(D: ¬a<0):wr .u64 a=(a.natAbs:Int):=by unfold bd at h;rw[qZ ⟨by omega,by omega⟩];omega
theorem apV(n:Int):IntKind.wrap .u64 n=n%18446744073709551616:=by
 unfold IntKind.wrap
 have h:(IntKind.u64).bits=64:=rfl
 simp only[h]
 rw[if_neg (by simp[IntKind.signed])]
 rfl
theorem GN(n:Int):wr .u64 n=n%18446744073709551616:=by
 show(if(0:Int)≤n∧n≤18446744073709551615 then n else IntKind.wrap .u64 n)=_
 rw[apV]
 split <;> omega
theorem NC{a:Int}(h:bd a)(D:a<0):wr .u64 (0-wr .u64 a)=(a.natAbs:Int):=by
 unfold bd at h
 rw[GN,GN];omega
theorem ND{a:Int}(h:bd a):hZ pE 198 [.i .i64 a] []=some (.i .u64 (a.natAbs:Int),[]):=by
 rw[im abQ (by simp[Ox])]
 by_cases D:a<0
 ·have E:=NC h D
  simp only[qA,seval,Ox,D,E]
 ·have E:=VY h D
  simp only[qA,seval,Ox,D,E]
theorem A9{a:Int}(h:bd a):hZ pE 200 [.i .i64 a] []=some (.i .u64 (a.natAbs:Int),[]):=by
 rw[im abS (by simp[Oy])]
 by_cases D:a<0
 ·have E:=NC h D
  simp only[qA,seval,Oy,D,E]
 ·have E:=VY h D
  simp only[qA,seval,Oy,D,E]
theorem apW(P Q R S:Int)(h:0≤P)(D:0≤Q)(E:0≤R)(F:0≤S):
  S+(Q+P/4294967296)/4294967296+((Q+P/4294967296)%4294967296+R)/4294967296=(S*18446744073709551616+(Q+R)*4294967296+P)/18446744073709551616:=by
 omega
theorem GO{a b A B:Int}(D:0≤a)(h:0≤b)(E:a≤A)(F:b≤B):0≤a*b∧a*b≤A*B:=
 ⟨Int.mul_nonneg D h,Int.mul_le_mul E F h (by omega)⟩
theorem VZ(X Y:Nat)(hX:X≤1099511627776)(hY:Y≤1099511627776):hZ pE 197 [.i .u64 (X:Int),.i .u64 (Y:Int)] []=some (.tup [.i .u64 ((X:Int)*Y/18446744073709551616),.i .u64 ((X:Int)*Y%18446744073709551616)],[]):=by
 obtain⟨h,SF⟩: ∃h,h=(X:Int)/4294967296:=⟨_,rfl⟩
 obtain⟨D,Z⟩: ∃D,D=(X:Int)%4294967296:=⟨_,rfl⟩
 obtain⟨E,Mo⟩: ∃E,E=(Y:Int)/4294967296:=⟨_,rfl⟩
 obtain⟨F,hy0⟩: ∃F,F=(Y:Int)%4294967296:=⟨_,rfl⟩
 have hX':(X:Int)=h*4294967296+D:=by omega
 have hY':(Y:Int)=E*4294967296+F:=by omega
 have H:0≤h∧h≤256:=by omega
 have I:0≤D∧D≤4294967295:=by omega
 have J:0≤E∧E≤256:=by omega
 have K:0≤F∧F≤4294967295:=by omega
 have G8:(X:Int)*Y=h*E*18446744073709551616+(h*F+D*E)*4294967296+D*F:=by
  grind
 have O:=GO I.1 K.1 I.2 K.2
 have U:=GO H.1 K.1 H.2 K.2
 have V:=GO I.1 J.1 I.2 J.2
 have W:=GO H.1 J.1 H.2 J.2
 have w0:wr .u64 (D*F)=D*F:=qZ ⟨O.1,Int.le_trans O.2 (by decide)⟩
 have w1:wr .u64 (h*F)=h*F:=qZ ⟨U.1,Int.le_trans U.2 (by decide)⟩
 have w2:wr .u64 (D*E)=D*E:=qZ ⟨V.1,Int.le_trans V.2 (by decide)⟩
 have w3:wr .u64 (h*E)=h*E:=qZ ⟨W.1,Int.le_trans W.2 (by decide)⟩
 have N:=apW (D*F) (h*F) (D*E) (h*E) O.1 U.1 V.1 W.1
 rw[←G8]at N
 have wlo:=GN ((X:Int)*Y)
 rw[im abP (by simp[RH]),←N]
 generalize hP:D*F=P at O w0
 generalize hQ:h*F=Q at U w1
 generalize hR:D*E=R at V w2
 generalize hS:h*E=S at W w3
 have w4:wr .u64 (Q+P/4294967296)=Q+P/4294967296:=qZ ⟨by omega,by omega⟩
 have w5:wr .u64 ((Q+P/4294967296)%4294967296+R)=(Q+P/4294967296)%4294967296+R:=qZ ⟨by omega,by omega⟩
 have w6:wr .u64 (S+(Q+P/4294967296)/4294967296)=S+(Q+P/4294967296)/4294967296:=qZ ⟨by omega,by omega⟩
 have w7:wr .u64 (S+(Q+P/4294967296)/4294967296+((Q+P/4294967296)%4294967296+R)/4294967296)=S+(Q+P/4294967296)/4294967296+((Q+P/4294967296)%4294967296+R)/4294967296:=qZ ⟨by omega,by omega⟩
 simp only[qA,seval,RH,Za,Zb,←Z,←SF,←hy0,←Mo,hP,hQ,hR,hS,w0,w1,w2,w3,w4,w5,w6,w7,wlo]
theorem GP{a:Int}(h:bd a):a.natAbs≤1099511627776:=by grind [bd]
theorem NF(a b:Int):(a.natAbs:Int)*(b.natAbs:Int)=((a*b).natAbs:Int):=by rw[Int.natAbs_mul];omega
theorem JC{a b:Int}(h:(a<0∧ ¬b<0)∨(¬a<0∧b<0)):a*b≤0:=by
 rcases h with⟨h1,h2⟩|⟨h1,h2⟩
 ·exact Int.mul_nonpos_of_nonpos_of_nonneg (by omega) (by omega)
 ·exact Int.mul_nonpos_of_nonneg_of_nonpos (by omega) (by omega)
theorem E7{a b:Int}(h:(a<0∧b<0)∨(¬a<0∧ ¬b<0)):0≤a*b:=by
 rcases h with⟨h1,h2⟩|⟨h1,h2⟩
 ·exact Int.mul_nonneg_of_nonpos_of_nonpos (by omega) (by omega)
 ·simp_all[Int.mul_nonneg]
theorem NG{a b:Int}(V:bd a)(W:bd b):hZ pE 166 [.i .i64 a,.i .i64 b] []=some (.i .i64 (jj (a*b)),[]):=by
 have H:=ND V
 have I:=ND W
 have E:=VZ a.natAbs b.natAbs (GP V) (GP W)
 rw[NF]at E
 have hs:= @JC a b
 have N:= @E7 a b
 rw[im abo (by simp[vL])]
 generalize Z:a*b=x at*
 generalize X:(x.natAbs:Int)/18446744073709551616=q1 at E
 generalize Y:(x.natAbs:Int)%18446744073709551616=q2 at E
 have K:(if q1≠0 then(1099511627776:Int)else if 1099511627776<q2 then 1099511627776 else q2)=min (x.natAbs:Int) 1099511627776:=by
  grind
 by_cases F:q1=0
 ·by_cases J:(1099511627776:Int)<q2
  ·rw[if_neg (by simp[F]),if_pos J]at K
   by_cases D:a<0
   ·by_cases h:b<0
    ·have:=N (.inl ⟨D,h⟩)
     have e:jj x=1099511627776:=by unfold jj;omega
     simp only[qA,seval,vL,H,I,E,tF,tE,F,J,D,h,pK,e];rfl
    ·have:=hs (.inl ⟨D,h⟩)
     have e:jj x= -1099511627776:=by unfold jj;omega
     simp only[qA,seval,vL,H,I,E,tF,tE,F,J,D,h,pK,e];rfl
   ·by_cases h:b<0
    ·have:=hs (.inr ⟨D,h⟩)
     have e:jj x= -1099511627776:=by unfold jj;omega
     simp only[qA,seval,vL,H,I,E,tF,tE,F,J,D,h,pK,e];rfl
    ·have:=N (.inr ⟨D,h⟩)
     have e:jj x=1099511627776:=by unfold jj;omega
     simp only[qA,seval,vL,H,I,E,tF,tE,F,J,D,h,pK,e];rfl
  ·rw[if_neg (by simp[F]),if_neg J]at K
   have O:wr .i64 q2=q2:=jw ⟨by omega,by omega⟩
   have U:wr .i64 (0-q2)= -q2:=by rw[jw ⟨by omega,by omega⟩];omega
   by_cases D:a<0
   ·by_cases h:b<0
    ·have:=N (.inl ⟨D,h⟩)
     have e:jj x=q2:=by unfold jj;omega
     simp only[qA,seval,vL,H,I,E,tF,tE,F,J,D,h,pK,O,U,e];rfl
    ·have:=hs (.inl ⟨D,h⟩)
     have e:jj x= -q2:=by unfold jj;omega
     simp only[qA,seval,vL,H,I,E,tF,tE,F,J,D,h,pK,O,U,e];rfl
   ·by_cases h:b<0
    ·have:=hs (.inr ⟨D,h⟩)
     have e:jj x= -q2:=by unfold jj;omega
     simp only[qA,seval,vL,H,I,E,tF,tE,F,J,D,h,pK,O,U,e];rfl
    ·have:=N (.inr ⟨D,h⟩)
     have e:jj x=q2:=by unfold jj;omega
     simp only[qA,seval,vL,H,I,E,tF,tE,F,J,D,h,pK,O,U,e];rfl
 ·rw[if_pos F]at K
  by_cases D:a<0
  ·by_cases h:b<0
   ·have:=N (.inl ⟨D,h⟩)
    have e:jj x=1099511627776:=by unfold jj;omega
    simp only[qA,seval,vL,H,I,E,tF,tE,F,D,h,pK,e];rfl
   ·have:=hs (.inl ⟨D,h⟩)
    have e:jj x= -1099511627776:=by unfold jj;omega
    simp only[qA,seval,vL,H,I,E,tF,tE,F,D,h,pK,e];rfl
  ·by_cases h:b<0
   ·have:=hs (.inr ⟨D,h⟩)
    have e:jj x= -1099511627776:=by unfold jj;omega
    simp only[qA,seval,vL,H,I,E,tF,tE,F,D,h,pK,e];rfl
   ·have:=N (.inr ⟨D,h⟩)
    have e:jj x=1099511627776:=by unfold jj;omega
    simp only[qA,seval,vL,H,I,E,tF,tE,F,D,h,pK,e];rfl
theorem JD{a b:Int}(h:b≠0):Ev.bin .quo (.i .u64 a) (.i .u64 b)=some (.i .u64 (wr .u64 (a.tdiv b))):=by
 simp only[Ev.bin,if_true,qJ,if_neg h]
theorem V0{a b:Int}(h:b≠0):Ev.bin .rem (.i .u64 a) (.i .u64 b)=some (.i .u64 (a.tmod b)):=by
 simp only[Ev.bin,if_true,qJ,if_neg h]
theorem V1{a b:Int}(h:b≠0):Ev.bin .quo (.i .i64 a) (.i .i64 b)=some (.i .i64 (wr .i64 (a.tdiv b))):=by
 simp only[Ev.bin,if_true,qJ,if_neg h]
theorem V2{a b:Int}(h:b≠0):Ev.bin .rem (.i .i64 a) (.i .i64 b)=some (.i .i64 (a.tmod b)):=by
 simp only[Ev.bin,if_true,qJ,if_neg h]
theorem agN(x y:Nat)(h:0<y):((x:Int)≤(1099511627776:Int).tdiv (y:Int))↔(x:Int)*y≤1099511627776:=by
 have e:(1099511627776:Int).tdiv (y:Int)=((1099511627776/y:Nat):Int):=rfl
 rw[e]
 have:=Nat.le_div_iff_mul_le h (x:=x) (y:=1099511627776)
 have D:(x:Int)*y=((x*y:Nat):Int):=by simp
 rw[D];omega
theorem Z8{a b:Int}(N:bd a)(O:bd b):hZ pE 174 [.i .i64 a,.i .i64 b] []=some (.i .i64 (jj (a*b)),[]):=by
 have I:=A9 N
 have J:=A9 O
 have hs:= @JC a b
 have U:= @E7 a b
 have D:=NF a b
 rw[im Sq (by simp[Km])]
 by_cases a0:a=0
 ·subst a0
  simp only[qA,seval,Km,Int.zero_mul];rfl
 by_cases K:b=0
 ·subst K
  simp only[qA,seval,Km,Int.mul_zero,a0];rfl
 have E:=agN a.natAbs b.natAbs (by omega)
 have F:((b.natAbs:Nat):Int)≠0:=by omega
 have H:Ev.bin .quo (.i .u64 1099511627776) (.i .u64 (b.natAbs:Int))=some (.i .u64 ((1099511627776:Int).tdiv (b.natAbs:Int))):=by
  rw[JD F]
  have e:(1099511627776:Int).tdiv (b.natAbs:Int)=((1099511627776/b.natAbs:Nat):Int):=rfl
  rw[e,qZ ⟨Int.natCast_nonneg _,Int.le_trans (Int.ofNat_le.2 (Nat.div_le_self _ _)) (by decide)⟩]
 rw[D]at E
 generalize (1099511627776:Int).tdiv (b.natAbs:Int)=q at E H
 generalize V:a*b=x at*
 have W:x.natAbs≤1099511627776→wr .u64 (x.natAbs:Int)=(x.natAbs:Int):=fun h=>qZ ⟨by omega,by omega⟩
 have X:x.natAbs≤1099511627776→wr .i64 (x.natAbs:Int)=(x.natAbs:Int):=fun h=>jw ⟨by omega,by omega⟩
 have Y:x.natAbs≤1099511627776→wr .i64 (0-(x.natAbs:Int))= -(x.natAbs:Int):=fun h=>by rw[jw ⟨by omega,by omega⟩];omega
 simp only[qB,seval,Km,I,J,abT,a0,K,H,D,pK]
 clear I J H
 unfold jj
 grind (splits:=30)
theorem bq1:((true==true) != false)=true:=nr rfl
theorem bq2:((false==false) != false)=true:=nr rfl
theorem bq3:((true==false) != false)=false:=nr rfl
theorem bq4:((false==true) != false)=false:=nr rfl
theorem bq5:((true==true) != true)=false:=nr rfl
theorem bq6:((false==false) != true)=false:=nr rfl
theorem bq7:((true==false) != true)=true:=nr rfl
theorem bq8:((false==true) != true)=true:=nr rfl
theorem Qg{a b:Int}(F:b≠0)(h:(a<0∧b<0)∨(¬a<0∧ ¬b<0)):a.fdiv b=((a.natAbs/b.natAbs:Nat):Int):=by
 rcases h with⟨h1,h2⟩|⟨h1,h2⟩
 ·rw[←Int.neg_fdiv_neg,Int.fdiv_eq_ediv_of_nonneg _ (by omega)]
  have D: -a=((a.natAbs:Nat):Int):=by omega
  have E: -b=((b.natAbs:Nat):Int):=by omega
  rw[D,E];rfl
 ·rw[Int.fdiv_eq_ediv_of_nonneg _ (by omega)]
  have D:a=((a.natAbs:Nat):Int):=by omega
  have E:b=((b.natAbs:Nat):Int):=by omega
  conv=>lhs;rw[D,E]
  rfl
theorem JE(x y:Nat):(x:Int).fdiv (y:Int)=((x/y:Nat):Int):=by rw[Int.fdiv_eq_ediv_of_nonneg _ (by omega)];rfl
theorem Ba(x y:Nat):((y:Int)∣(x:Int))↔x%y=0:=by rw[Int.natCast_dvd_natCast];exact Nat.dvd_iff_mod_eq_zero
def upN(x y:Nat):Nat:=x/y+if 0<x%y then 1 else 0
theorem Qh{a b:Int}(I:b≠0)(h:(a<0∧ ¬b<0)∨(¬a<0∧b<0)):a.fdiv b= -((upN a.natAbs b.natAbs:Nat):Int):=by
 unfold upN
 rcases h with⟨h1,h2⟩|⟨h1,h2⟩
 ·have E:a= -((a.natAbs:Nat):Int):=by omega
  have F:b=((b.natAbs:Nat):Int):=by omega
  have H:b.natAbs≠0:=by omega
  generalize a.natAbs=x,b.natAbs=y at*
  subst E F
  rw[Int.neg_fdiv,JE]
  by_cases D:x%y=0
  ·rw[if_pos (Or.inr ((Ba x y).2 D)),if_neg (by omega)];omega
  ·rw[if_neg (by rintro(h|h)
                 ·omega
                 ·exact D ((Ba x y).1 h)),if_pos (by omega)];omega
 ·have E:a=((a.natAbs:Nat):Int):=by omega
  have F:b= -((b.natAbs:Nat):Int):=by omega
  have H:((b.natAbs:Nat):Int)≠0:=by omega
  generalize a.natAbs=x,b.natAbs=y at*
  subst E F
  rw[Int.fdiv_neg H,JE]
  by_cases D:x%y=0
  ·rw[if_pos ((Ba x y).2 D),if_neg (by omega)];omega
  ·rw[if_neg (fun h=>D ((Ba x y).1 h)),if_pos (by omega)];omega
theorem LR(a b:Int)(h:bd a):a.natAbs/b.natAbs≤1099511627776:=Nat.le_trans (Nat.div_le_self _ _) (GP h)
theorem Z9{a b:Int}(K:bd a)(W:bd b):hZ pE 175 [.i .i64 a,.i .i64 b] []=some (.i .i64 (K7 a b),[]):=by
 have N:=A9 K
 have O:=A9 W
 rw[im Sr (by simp[On])]
 unfold K7
 by_cases D:b=0
 ·subst D
  simp only[qA,seval,On]
 rw[if_neg D]
 have E:((b.natAbs:Nat):Int)≠0:=by omega
 have F:=LR a b K
 have U:Ev.bin .quo (.i .u64 (a.natAbs:Int)) (.i .u64 (b.natAbs:Int))=some (.i .u64 ((a.natAbs/b.natAbs:Nat):Int)):=by
  rw[JD E]
  have e:(a.natAbs:Int).tdiv (b.natAbs:Int)=((a.natAbs/b.natAbs:Nat):Int):=rfl
  rw[e,qZ ⟨Int.natCast_nonneg _,Int.le_trans (Int.ofNat_le.2 F) (by decide)⟩]
 have V:Ev.bin .rem (.i .u64 (a.natAbs:Int)) (.i .u64 (b.natAbs:Int))=some (.i .u64 ((a.natAbs%b.natAbs:Nat):Int)):=by
  rw[V0 E];rfl
 have X:= @Qg a b D
 have H:= @Qh a b D
 unfold upN at H
 generalize a.natAbs/b.natAbs=q at*
 generalize a.natAbs%b.natAbs=r at*
 have I: ∀n:Nat,¬(1099511627776:Int)<(n:Int)→wr .i64 (n:Int)=(n:Int):=fun n h=>jw ⟨by omega,by omega⟩
 have J: ∀n:Nat,¬(1099511627776:Int)<(n:Int)→wr .i64 (0-(n:Int))= -(n:Int):=fun n h=>by rw[jw ⟨by omega,by omega⟩];omega
 have Y: ¬(1099511627776:Int)<(q:Int):=by omega
 have Z:wr .u64 ((q:Int)+1)=((q+1:Nat):Int):=by rw[qZ ⟨by omega,by omega⟩];omega
 have m4:=I (q+1)
 have m5:=J (q+1)
 have m6:=I q
 have m7:=J q
 simp only[qB,seval,On,N,O,abT,D,U,V,pK,bq1,bq2,bq3,bq4,Z]
 clear N O U V I J
 unfold jj
 grind (splits:=30)
theorem aaa:bd (-1):=by unfold bd;omega
theorem aab{a b:Int}(F:bd a)(O:bd b):hZ pE 167 [.i .i64 a,.i .i64 b] []=some (.i .i64 (K7 a b),[]):=by
 have I:=NG F aaa
 rw[im abq (by simp[Kk])]
 unfold K7
 by_cases h:b=0
 ·subst h
  simp only[qA,seval,Kk]
 rw[if_neg h]
 by_cases H:b= -1
 ·subst H
  have e:a.fdiv (-1)=a* -1:=by
   have:=Int.fdiv_neg (a:=a) (b:=1) (by decide)
   rw[if_pos (Int.one_dvd a),Int.fdiv_one]at this
   rw[this];omega
  rw[e]
  simp only[qA,seval,Kk,I,abp]
 have U:= @Int.fdiv_eq_tdiv a b
 have V:= @Int.dvd_iff_tmod_eq_zero b a
 have J:=Int.natAbs_tdiv_le_natAbs a b
 have K:=GP F
 have D:Ev.bin .quo (.i .i64 a) (.i .i64 b)=some (.i .i64 (a.tdiv b)):=by
  rw[V1 h,jw ⟨by omega,by omega⟩]
 have AB:=V2 (a:=a) h
 have E:=zU (a.tdiv b)
 have Qi:=zU (a.tdiv b-1)
 have N:wr .i64 (a.tdiv b-1)=a.tdiv b-1:=jw ⟨by omega,by omega⟩
 generalize a.tdiv b=q at*
 generalize a.tmod b=r at*
 have W:b<0→b.sign= -1:=Int.sign_eq_neg_one_of_neg
 have X:0<b→b.sign=1:=Int.sign_eq_one_of_pos
 simp only[qB,seval,Kk,h,H,D,AB,E,Qi,H3,pK,bq5,bq6,bq7,bq8,N]
 clear E Qi D AB
 grind (splits:=30)
theorem aac(a b:Int):bd (K7 a b):=by
 unfold K7
 split
 ·unfold bd;omega
 ·exact vK _
end Go.Proofs.YtbdfboojnfinkaaGreat
