/- Walks of functions of the program and of the reference, and their plain laws, part 8. Conditions: the theorems' own. -/
import Derived.Test.YtjniffjppoklpaaGreatM7
import Derived.KernelRfl
set_option maxRecDepth 100000
set_option linter.unusedSimpArgs false
set_option linter.unusedVariables false
set_option maxHeartbeats 16000000
namespace Go.Proofs.YtjniffjppoklpaaGreat
open Go Go.Ev
def KC(c:Nat):Prop:=(65:Int)≤c∧(c:Int)≤90
instance (c:Nat):Decidable (KC c):=by unfold KC;infer_instance
def Kr(c:Nat):Bool:=decide (KC c∨Jl c)
def NM(s:List Nat):Bool:=decide (1≤s.length)&&(decide (s.length≤8)&&s.all Kr)
def GX(s:List Nat):Bool:=decide (s.length=3)&&s.all fun c=>decide (KC c)
structure Ap where
 cd:List Nat
 zn:List Nat
structure Fl where
 nu:List Nat
 fr:List Nat
 to:List Nat
 dp:Int
 ar:Int
 ty:List Nat
 n0:Int
 n1:Int
 n2:Int
structure Tt where
 zo:List Zo
 ap:List Ap
 fl:List Fl
def DB(z:Zo)(c:List T):Prop:= ∃a r,c= [.s z.nm,.i .i64 z.o,a]∧iJ a z.sh.length r∧iK T8 z.sh r
def N4(u:Ap)(c:List T):Prop:=c= [.s u.cd,.s u.zn]
def G1(f:Fl):List T:= [.s f.nu,.s f.fr,.s f.to,.i .i64 f.dp,.i .i64 f.ar,.s f.ty,.i .i64 f.n0,.i .i64 f.n1,.i .i64 f.n2]
def T4(f:Fl)(c:List T):Prop:=c=G1 f
theorem DB.len(z:Zo)(c:List T)(h:DB z c):c.length=3:=by obtain⟨a,r,rfl,_⟩:=h;rfl
theorem N4.len(u:Ap)(c:List T)(h:N4 u c):c.length=2:=by rw[h];rfl
theorem T4.len(f:Fl)(c:List T)(h:T4 f c):c.length=9:=by rw[h];rfl
theorem H5{xs:List Zo}{a:T}{H:List T}(I:iJ a xs.length H)(J:iK DB xs H)(i:Nat)(hi:i<xs.length): ∃D F r,(∀kk,ng a (.i kk (i:Int)) 3=some (.vp (.s xs[i].nm:: .i .i64 xs[i].o::D::r)))∧iJ D xs[i].sh.length F∧iK T8 xs[i].sh F:=by
 obtain⟨c,r,e,h⟩:=qu (k:=3) DB.len I J i hi
 obtain⟨D,F,rfl,K,N⟩:=h
 exact⟨D,F,r,e,K,N⟩
theorem MY{xs:List Ap}{a:T}{D:List T}(F:iJ a xs.length D)(H:iK N4 xs D)(i:Nat)(hi:i<xs.length): ∃r,∀kk,ng a (.i kk (i:Int)) 2=some (.vp (.s xs[i].cd:: .s xs[i].zn::r)):=by
 obtain⟨c,r,e,h⟩:=qu (k:=2) N4.len F H i hi
 rw[N4]at h
 subst h
 exact⟨r,e⟩
theorem uh{xs:List Fl}{a:T}{D:List T}(F:iJ a xs.length D)(H:iK T4 xs D)(i:Nat)(hi:i<xs.length): ∃r,∀kk,ng a (.i kk (i:Int)) 9=some (.vp (.s xs[i].nu:: .s xs[i].fr:: .s xs[i].to:: .i .i64 xs[i].dp:: .i .i64 xs[i].ar:: .s xs[i].ty:: .i .i64 xs[i].n0:: .i .i64 xs[i].n1:: .i .i64 xs[i].n2::r)):=by
 obtain⟨c,r,e,h⟩:=qu (k:=9) T4.len F H i hi
 rw[T4]at h
 subst h
 exact⟨r,e⟩
def Kw(seen:List (List Nat)):List Zo→Int
 | []=>0
 |z::r=>if oB z≠0 then oB z else if z.nm∈seen then 7 else Kw (seen++ [z.nm]) r
def Kx(D seen:List (List Nat)):List Ap→Int
 | []=>0
 |a::r=>if GX a.cd=false then 1 else if a.cd∈seen then 7 else if a.zn∉D then 6 else Kx D (seen++ [a.cd]) r
def xi(n:Int):Bool:=decide (0≤n)&&decide (n≤8)
def T5(f:Fl):Bool:=decide (2880≤f.dp)&&(decide (f.ar≤52593120)&&(decide (f.dp<f.ar)&&decide (f.ar-f.dp≤1440)))
def MG(r:List (List Nat))(f:Fl):Int:=
 if NM f.nu=false then 1 else if pO f.ty=false then 1 else if f.fr∉r then 6 else if f.to∉r then 6 else if f.fr=f.to then 14 else if T5 f=false then 5 else if(xi f.n0&&(xi f.n1&&xi f.n2))=false then 5 else 0
def UZ(f g:Fl):Bool:=if f.dp≠g.dp then decide (f.dp<g.dp)else mB f.nu g.nu
def Jr(F:List (List Nat))(D:Option Fl):List Fl→Int
 | []=>0
 |f::r=>if MG F f≠0 then MG F f else if(match D with|some p=> !UZ p f|none=>false)=true then 8 else Jr F (some f) r
def Tt.big(t:Tt):Prop:=16<t.zo.length∨64<t.ap.length∨200<t.fl.length
def uf(t:Tt):Int:=
 if 16<t.zo.length then 10 else if 64<t.ap.length then 10 else if 200<t.fl.length then 10 else if Kw [] t.zo≠0 then Kw [] t.zo else if Kx (t.zo.map Zo.nm) [] t.ap≠0 then Kx (t.zo.map Zo.nm) [] t.ap else Jr (t.ap.map Ap.cd) none t.fl
def Vj(seen:List (List Nat)):List T:=(seen.map fun x=>(x,true)).map fun p=>sK p.1
def Vk(seen:List (List Nat)):List T:=(seen.map fun x=>(x,true)).map fun p=>T.b p.2
theorem NN(seen:List (List Nat))(s:List Nat):oU (.one .str) (Vj seen) (Vk seen) (.s s) (.b false) false=some (.b (decide (s∈seen))):=Km seen s
theorem abE(seen:List (List Nat))(s:List Nat)(h:s∉seen):rL (.one .str) (.s s) (.b true) (Vj seen) (Vk seen)=some (Vj (seen++ [s]),Vk (seen++ [s])):=Gu seen s h
theorem A2{α β:Type}(f:α→β){l:List α}{k:Nat}(r:k<l.length):(l.take (k+1)).map f=(l.take k).map f++ [f l[k]]:=by rw[List.take_succ_eq_append_getElem r,List.map_append];rfl
theorem axu(s:List Nat)(hs:s.length≤8)(fr:Fr)(lh:iL iy)(sh:List iy)(N:an fr 0= .s s)(J:an fr 14= .i .i64 (s.length:Int))(O:an fr 15= .i .i64 0):
  Zv pE 37 Ew fr lh sh 0 2 (s.all Kr=true) (.b false) (fun F H=>H=sh):=by
 refine sd VE (by simp[jg]) (fun k f F H=>an f 15= .i .i64 (k:Int)∧H=sh∧s.all Kr=(s.drop k).all Kr) s.length ⟨O,rfl,rfl⟩ ?_ ?_
 ·rintro k f F _ K r ⟨I,rfl,D⟩
  have U:(k:Int)<s.length:=by omega
  have V:=iX (k:=k) (by omega)
  have TV:=yw K
  rw[List.drop_eq_getElem_cons K,List.all_cons]at D
  simp only[qB,seval,gd,Ew,r,N,J,I,U,TV,V]
  clear r TV
  unfold Kr KC Jl at*
  grind
 ·rintro f F _ r ⟨I,rfl,D⟩
  rw[List.drop_length,List.all_nil]at D
  simp only[qB,seval,gd,Ew,r,J,I,Int.lt_irrefl,D]
theorem abF(s:List Nat):be pE 84 [.s s] []=some (.b (NM s),[]):=by
 rw[iD ar4 (by simp[c84])]
 unfold NM
 by_cases h:s.length≤8
 ·have r:=axu s h
  simp only[qB,seval,c84,r]
  clear r
  grind
 ·simp only[qB,seval,c84]
  grind
theorem A3(c:Nat):be pE 99 [.i .u8 c] []=some (.b (decide (KC c)),[]):=by
 rw[iD asj (by simp[c99])]
 by_cases r:(65:Int)≤c
 ·by_cases D:(c:Int)≤90 <;> simp only[qA,seval,c99,r,D,KC]
 ·simp only[qA,seval,c99,r,KC]
theorem axv(s:List Nat)(hs:s.length≤mh)(fr:Fr)(lh:iL iy)(sh:List iy)(J:an fr 0= .s s)(U:an fr 3= .i .i64 0):
  Zv pE 30 zA fr lh sh 0 2 (s.all Kr=true) (.b false) (fun F H=>H=sh):=by
 refine sd Hc (by simp[jg]) (fun k f F H=>an f 3= .i .i64 (k:Int)∧H=sh∧s.all Kr=(s.drop k).all Kr) s.length ⟨U,rfl,rfl⟩ ?_ ?_
 ·rintro k f F _ K r ⟨I,rfl,D⟩
  have V:(k:Int)<s.length:=by omega
  have W:=oO (k:=k) (by omega)
  have TV:=yw K
  have N:=j3 (A3 s[k])
  have O:=j3 (HQ s[k])
  rw[List.drop_eq_getElem_cons K,List.all_cons]at D
  simp only[qB,seval,gd,zA,r,J,I,V,TV,W,N,O,asl,agU]
  clear r TV N O
  unfold Kr at*
  grind
 ·rintro f F _ r ⟨I,rfl,D⟩
  rw[List.drop_length,List.all_nil]at D
  simp only[qB,seval,gd,zA,r,J,I,Int.lt_irrefl,D]
theorem abG(s:List Nat)(hs:s.length≤mh):be pE 100 [.s s] []=some (.b (NM s),[]):=by
 rw[iD ags (by simp[VJ])]
 unfold NM
 have r:=axv s hs
 simp only[qB,seval,VJ,Hc,r]
 clear r
 grind
theorem axw(s:List Nat)(hs:s.length=3)(fr:Fr)(lh:iL iy)(sh:List iy)(N:an fr 0= .s s)(J:an fr 8= .i .i64 (s.length:Int))(O:an fr 9= .i .i64 0):
  Zv pE 23 Ed fr lh sh 0 2 ((s.all fun c=>decide (KC c))=true) (.b false) (fun F H=>H=sh):=by
 refine sd Vu (by simp[jg]) (fun k f F H=>an f 9= .i .i64 (k:Int)∧H=sh∧(s.all fun c=>decide (KC c))=(s.drop k).all fun c=>decide (KC c)) s.length ⟨O,rfl,rfl⟩ ?_ ?_
 ·rintro k f F _ K r ⟨I,rfl,D⟩
  have U:(k:Int)<s.length:=by omega
  have V:=iX (k:=k) (by omega)
  have TV:=yw K
  rw[List.drop_eq_getElem_cons K,List.all_cons]at D
  simp only[qB,seval,gd,Ed,r,N,J,I,U,TV,V]
  clear r TV
  unfold KC at*
  grind
 ·rintro f F _ r ⟨I,rfl,D⟩
  rw[List.drop_length,List.all_nil]at D
  simp only[qB,seval,gd,Ed,r,J,I,Int.lt_irrefl,D]
theorem agk(s:List Nat):be pE 49 [.s s] []=some (.b (GX s),[]):=by
 rw[iD arA (by simp[c49])]
 unfold GX
 by_cases r:s.length=3
 ·have D:=axw s r
  rw[r]at D
  simp only[qB,seval,c49,r,D]
  clear D
  grind
 ·have F: ¬(s.length:Int)=3:=by omega
  simp only[qA,seval,c49,r,F]
theorem agl(s:List Nat):be pE 62 [.s s] []=some (.b (GX s),[]):=by
 rw[iD arO (by simp[c62])]
 by_cases r:s.length=3
 ·obtain⟨a,b,c,rfl⟩: ∃a b c,s= [a,b,c]:=by
   match s,r with
   | [a,b,c],_=>exact⟨a,b,c,rfl⟩
  have D:=A3 a
  have F:=A3 b
  have H:=A3 c
  have I: ∀kk,GP (.s [a,b,c]) (.i kk 0)=some (.i .u8 (a:Int)):=fun kk=>yw (s:= [a,b,c]) (k:=0) (by simp) kk
  have J: ∀kk,GP (.s [a,b,c]) (.i kk 1)=some (.i .u8 (b:Int)):=fun kk=>yw (s:= [a,b,c]) (k:=1) (by simp) kk
  have K: ∀kk,GP (.s [a,b,c]) (.i kk 2)=some (.i .u8 (c:Int)):=fun kk=>yw (s:= [a,b,c]) (k:=2) (by simp) kk
  have e:GX [a,b,c]=(decide (KC a)&&(decide (KC b)&&decide (KC c))):=by simp[GX]
  rw[e]
  cases r:decide (KC a) <;> cases N:decide (KC b) <;> cases O:decide (KC c) <;> rw[r]at D <;> rw[N]at F <;> rw[O]at H <;> simp only[qA,seval,c62,I,J,K,D,F,H,asl]
 ·have U: ¬(s.length:Int)=3:=by omega
  have e:GX s=false:=by simp[GX,r]
  rw[e]
  simp only[qA,seval,c62,U]
theorem aEl(r D F:Int)(fr:Fr)(lh:iL iy)(sh:List iy)(I:an fr 62= .agg [.i .i64 r,.i .i64 D,.i .i64 F])(Dc:an fr 63= .i .i64 0):
  vw pE 73 Ee fr lh sh 1 4 (if [r,D,F].all xi then 0 else 5) (fun J K=>K=sh):=by
 refine jW Vv (fun k f J K=>an f 63= .i .i64 (k:Int)∧K=sh∧ [r,D,F].all xi=([r,D,F].drop k).all xi) 3 ⟨Dc,rfl,rfl⟩ ?_ ?_
 ·rintro k f J _ V H ⟨N,rfl,O⟩
  have U:k=0∨k=1∨k=2:=by omega
  unfold xi at*
  rcases U with rfl|rfl|rfl <;> simp only[qB,seval,gd,adp,Ee,H,I,N,Int.ofNat_zero,Int.ofNat_one] <;> clear H <;> simp at O ⊢ <;> grind
 ·rintro f J _ H ⟨N,rfl,O⟩
  simp only[qB,seval,gd,Ee,H,N,Int.lt_irrefl,O]
theorem ant(r:List (List Nat))(f:Fl):be pE 50 [.agg (G1 f),.vm (Vj r) (Vk r)] []=some (.i .i64 (MG r f),[]):=by
 have D:=j3 (abF f.nu)
 have F:=j3 (AA f.ty)
 have H:=NN r f.fr
 have I:=NN r f.to
 have J:=aEl f.n0 f.n1 f.n2
 have O:= @jE (f.ar-f.dp)
 rw[iD arC (by simp[c50])]
 unfold MG G1
 by_cases K:f.fr∈r <;> by_cases N:f.to∈r <;> simp only[qB,seval,c50,D,F,aAE,WK,H,I,K,N,J]
 all_goals clear J D F H I
 all_goals try unfold T5
 all_goals grind (splits:=30)
theorem agm(f g:Fl):be pE 51 [.agg (G1 f),.agg (G1 g)] []=some (.b (UZ f g),[]):=by
 rw[iD ajN (by simp[c51])]
 unfold UZ G1
 by_cases h:f.dp=g.dp <;> simp only[qA,seval,c51,h]
theorem aEm(l:List Zo)(a:T)(W:List T)(ha:iJ a l.length W)(hc:iK DB l W)(X:l.length≤100)(g:Nat)(K D:iy)(fr:Fr)(lh:iL iy)(sh:List iy)
  (Y:an fr 3= .mp .L 29 g) (I:an fr 31=a) (DH:an fr 32= .i .i64 (l.length:Int)) (FV:an fr 33= .i .i64 0) (F:a6 lh 1=K) (NO:a6 lh 29=⟨g,.map [] [] false⟩) (DV:a6 lh 50=D):
  vw pE 106 Br fr lh sh 0 2 (Kw [] l) (fun r N=>(Kw [] l=0→a6 r 29=⟨g,.map (Vj (l.map Zo.nm)) (Vk (l.map Zo.nm)) false⟩)∧a6 r 1=K∧a6 r 50=D∧N=sh):=by
 refine jW K1 (fun k f r N=>an f 33= .i .i64 (k:Int)∧a6 r 29=⟨g,.map (Vj ((l.take k).map Zo.nm)) (Vk ((l.take k).map Zo.nm)) false⟩∧a6 r 1=K∧a6 r 50=D∧N=sh∧Kw [] l=Kw ((l.take k).map Zo.nm) (l.drop k)) l.length ⟨FV,NO,F,DV,rfl,rfl⟩ ?_ ?_
 ·rintro k f r _ O H ⟨J,NO,F,DV,rfl,U⟩
  rw[List.drop_eq_getElem_cons O,Kw]at U
  have Z:(k:Int)<l.length:=by omega
  have hw:=iX (k:=k) (by omega)
  obtain⟨sT,sc,rr,iW,V,A4⟩:=H5 ha hc k O
  have hz:=FR l[k] sT sc V A4
  have na:=NN ((l.take k).map Zo.nm) l[k].nm
  have px:=abE ((l.take k).map Zo.nm) l[k].nm
  have mI:=A2 Zo.nm O
  by_cases hs:l[k].nm∈(l.take k).map Zo.nm
  ·simp only[qB,seval,gd,Br,H,Y,I,DH,J,NO,F,DV,Z,iW,V.froz1,hz,acC,jZ,na,hs]
   clear H
   grind
  ·simp only[qB,seval,gd,Br,H,Y,I,DH,J,NO,F,DV,Z,iW,hw,V.froz1,hz,acC,jZ,na,hs,vq,CR,px hs,mI]
   clear H
   grind
 ·rintro f r _ H ⟨J,NO,F,DV,rfl,U⟩
  rw[List.take_length]at NO
  simp only[qB,seval,gd,Br,H,DH,J,NO,F,DV,Int.lt_irrefl,U,List.drop_length,Kw]
  exact fun _=>trivial
theorem aEn(r:List (List Nat))(l:List Ap)(a:T)(W:List T)(ha:iJ a l.length W)(hc:iK N4 l W)(X:l.length≤100)(g g3:Nat)(J:iy)(fr:Fr)(lh:iL iy)(sh:List iy)
  (h3:an fr 3= .mp .L 29 g3) (Y:an fr 7= .mp .L 50 g) (U5:an fr 52=a) (K:an fr 53= .i .i64 (l.length:Int)) (vU:an fr 54= .i .i64 0) (F:a6 lh 1=J) (NO:a6 lh 29=⟨g3,.map (Vj r) (Vk r) false⟩) (DV:a6 lh 50=⟨g,.map [] [] false⟩):
  vw pE 106 Bq fr lh sh 2 2 (Kx r [] l) (fun D N=>(Kx r [] l=0→a6 D 50=⟨g,.map (Vj (l.map Ap.cd)) (Vk (l.map Ap.cd)) false⟩)∧a6 D 1=J∧N=sh):=by
 refine jW K0 (fun k f D N=>an f 54= .i .i64 (k:Int)∧a6 D 50=⟨g,.map (Vj ((l.take k).map Ap.cd)) (Vk ((l.take k).map Ap.cd)) false⟩∧a6 D 1=J∧a6 D 29=⟨g3,.map (Vj r) (Vk r) false⟩∧N=sh∧Kx r [] l=Kx r ((l.take k).map Ap.cd) (l.drop k)) l.length ⟨vU,DV,F,NO,rfl,rfl⟩ ?_ ?_
 ·rintro k f D _ O H ⟨I,DV,F,NO,rfl,U⟩
  rw[List.drop_eq_getElem_cons O,Kx]at U
  have Z:(k:Int)<l.length:=by omega
  have hw:=iX (k:=k) (by omega)
  obtain⟨rr,iW⟩:=MY ha hc k O
  have hp:=j3 (agk l[k].cd)
  have na:=NN ((l.take k).map Ap.cd) l[k].cd
  have px:=abE ((l.take k).map Ap.cd) l[k].cd
  have V:=NN r l[k].zn
  have mI:=A2 Ap.cd O
  by_cases hs:l[k].cd∈(l.take k).map Ap.cd
  ·simp only[qB,seval,gd,Bq,H,Y,U5,K,I,DV,F,NO,Z,iW,hp,arB,jZ,na,hs]
   clear H
   grind
  ·by_cases hz:l[k].zn∈r <;> simp only[qB,seval,gd,Bq,H,h3,Y,U5,K,I,DV,F,NO,Z,iW,hw,hp,arB,jZ,na,hs,V,hz,vq,CR,px hs,mI] <;> clear H <;> grind
 ·rintro f D _ H ⟨I,DV,F,NO,rfl,U⟩
  rw[List.take_length]at DV
  simp only[qB,seval,gd,Bq,H,K,I,DV,F,Int.lt_irrefl,U,List.drop_length,Kx]
  exact fun _=>trivial
def vY(l:List Fl)(k:Nat):Option Fl:=if k=0 then none else l[k-1]?
theorem IB{l:List Fl}{k:Nat}(D:0<k)(r:k-1<l.length):vY l k=some l[k-1]:=by
 unfold vY;rw[if_neg (by omega),List.getElem?_eq_getElem r]
theorem abH(r:List (List Nat)){l:List Fl}{k:Nat}(D:k<l.length):Jr r (vY l k) (l.drop k)=if MG r l[k]≠0 then MG r l[k]else if(match vY l k with|some p=> !UZ p l[k]|none=>false)=true then 8 else Jr r (vY l (k+1)) (l.drop (k+1)):=by
 have e:vY l (k+1)=some l[k]:=by unfold vY;rw[if_neg (by omega),Nat.add_sub_cancel,List.getElem?_eq_getElem D]
 rw[List.drop_eq_getElem_cons D,e]
 conv=>lhs;unfold Jr
 try rfl
theorem aEo(r:List (List Nat))(X Y:T)(l:List Fl)(a:T)(Z:List T)(ha:iJ a l.length Z)(hc:iK T4 l Z)(hlen:l.length≤1000)(g:Nat)(fr:Fr)(lh:iL iy)(sh:List iy)
  (h1:an fr 1= .ptr .L 1 1 0) (h7:an fr 7= .mp .L 50 g) (H:an fr 79=a) (D:an fr 80= .i .i64 (l.length:Int)) (N:an fr 81= .i .i64 0) (I:a6 lh 1=⟨1,.cells [X,Y,a] 0 true⟩) (DV:a6 lh 50=⟨g,.map (Vj r) (Vk r) false⟩):
  vw pE 106 Bp fr lh sh 5 2 (Jr r none l) (fun J O=>O=sh):=by
 refine jW Vm (fun k f J O=>an f 81= .i .i64 (k:Int)∧a6 J 1=⟨1,.cells [X,Y,a] 0 true⟩∧(∃wm,a6 J 50=⟨g,.map (Vj r) (Vk r) wm⟩)∧O=sh∧Jr r none l=Jr r (vY l k) (l.drop k)) l.length ⟨N,I,⟨_,DV⟩,rfl,rfl⟩ ?_ ?_
 ·rintro k f J _ hk F ⟨K,I,⟨wm,DV⟩,rfl,U⟩
  rw[abH r hk]at U
  have iU:(k:Int)<l.length:=by omega
  have hw:=iX (k:=k) (by omega)
  obtain⟨rr,iW⟩:=uh ha hc k hk
  have V:=ant r l[k]
  unfold G1 at V
  by_cases JB:k=0
  ·have W: ¬(0:Int)<k:=by omega
   have hp:vY l k=none:=by rw[JB];rfl
   simp only[qB,seval,gd,jw,Bp,F,h7,H,D,K,I,DV,iU,iW,hw,V,arD,W]
   clear F
   grind
  ·have W:(0:Int)<k:=by omega
   have Jt:=ot (k:=k) (by omega) (by omega)
   obtain⟨r2,N7⟩:=uh ha hc (k-1) (by omega)
   have hb:=j3 (agm l[k-1] l[k])
   have hp:=IB (l:=l) (k:=k) (by omega) (by omega)
   unfold G1 at hb
   simp only[qB,seval,gd,jw,iN,Bp,F,h1,h7,H,D,K,I,DV,iU,iW,hw,V,arD,W,Jt,N7,hb,aAj,aAk]
   clear F
   grind
 ·rintro f J _ F ⟨K,I,⟨wm,DV⟩,rfl,U⟩
  simp only[qB,seval,gd,Bp,F,D,K,Int.lt_irrefl,U,List.drop_length,Jr]
structure ue (t:Tt) (zT aT fT:T):Prop where
 z: ∃c,iJ zT t.zo.length c∧iK DB t.zo c
 a: ∃c,iJ aT t.ap.length c∧iK N4 t.ap c
 f: ∃c,iJ fT t.fl.length c∧iK T4 t.fl c
theorem Pe(t:Tt)(r D F:T)(W:ue t r D F):be pE 30 [.agg [r,D,F]] []=some (.i .i64 (uf t),[]):=by
 obtain⟨⟨X,H,Y⟩,⟨ac,a1,a2⟩,⟨Z,I,f2⟩⟩:=W
 rw[iD are (by simp[c30])]
 unfold uf
 by_cases q:t.zo.length≤16∧t.ap.length≤64∧t.fl.length≤200
 ·have O:=fun fr lh sh J K DH FV N NO DV=>lpO (aEm t.zo r X H Y (by omega) 1 ⟨1,.cells [r,D,F] 0 true⟩ ⟨0,.none⟩ fr lh sh J K DH FV N NO DV) (by simp)
  have U:=fun fr lh sh J h7 U5 vD vU N NO DV=>lpO (aEn (t.zo.map Zo.nm) t.ap D ac a1 a2 (by omega) 1 1 ⟨1,.cells [r,D,F] 0 true⟩ fr lh sh J h7 U5 vD vU N NO DV) (by simp)
  have V:=aEo (t.ap.map Ap.cd) r D t.fl F Z I f2 (by omega) 1
  simp(maxDischargeDepth:=6) only[qB,seval,c30,K0,K1,H.lenI,a1.lenI,I.lenI,O,U,V]
  clear O U V
  grind
 ·simp only[qB,seval,c30,H.lenI,a1.lenI,I.lenI]
  grind
theorem NP: ∀a:List Nat,mB a a=false
 | []=>rfl
 |x::a=>by simp[mB,NP a]
theorem IC: ∀a b:List Nat,mB a b=true→mB b a=false
 | [],[],h=>by simp[mB]at h
 | [],y::b,h=>rfl
 |x::a,[],h=>by simp[mB]at h
 |x::a,y::b,h=>by
  simp[mB]at h ⊢
  refine⟨by omega,fun e=> ?_⟩
  subst e
  rcases h with h|h
  ·omega
  ·exact IC a b h.2
theorem NQ: ∀a b:List Nat,mB a b=false→mB b a=false→a=b
 | [],[],_,_=>rfl
 | [],y::b,h,_=>by simp[mB]at h
 |x::a,[],_,h=>by simp[mB]at h
 |x::a,y::b,r,D=>by
  simp[mB]at r D
  have:x=y:=by omega
  subst this
  rw[NQ a b (by simpa using r) (by simpa using D)]
theorem agn(a b:List Nat):(mB a b||a==b)= !mB b a:=by
 cases h:mB b a with
 |true=>
  rw[IC _ _ h]
  have:a≠b:=fun e=>by subst e;rw[NP]at h;cases h
  simp[this]
 |false=>
  cases r:mB a b with
  |true=>rfl
  |false=>rw[NQ _ _ r h];simp
theorem abI{s t:List Nat}:Ev.bin .leq (.s s) (.s t)=some (.b (!mB t s)):=by
 rw[←agn];rfl
def ixA(s:List Nat):List (List Nat)→Nat→Int
 | [],_=> -1
 |x::r,k=>if x=s then(k:Int)else ixA s r (k+1)
theorem DJ(s:List Nat): ∀(l:List (List Nat)) (k:Nat),ixA s l k<0↔s∉l
 | [],k=>by simp[ixA]
 |x::r,k=>by
  rw[ixA]
  by_cases h:x=s
  ·rw[if_pos h];subst h;simp
  ·rw[if_neg h,DJ s r (k+1)]
   simp[Ne.symm h]
theorem FW(s:List Nat): ∀(ns:List (List Nat)) (k:Nat),ixA s ns k<0→ixA s ns k= -1
 | [],_,_=>rfl
 |x::ns,k,h=>by
  rw[ixA]at h ⊢
  by_cases e:x=s
  ·rw[if_pos e]at h;omega
  ·rw[if_neg e]at h ⊢; exact FW s ns _ h
theorem zi1(s:List Nat)(l:List Zo)(a:T)(K:List T)(D:iJ a l.length K)(V:iK DB l K)(N:l.length≤1000)(fr:Fr)(lh:iL iy)(sh:List iy)(O:an fr 0=a)(W:an fr 1= .s s)(X:an fr 5= .i .i64 0):
  Zv pE 20 Eh fr lh sh 0 4 (ixA s (l.map Zo.nm) 0<0) (.i .i64 (ixA s (l.map Zo.nm) 0)) (fun F H=>H=sh):=by
 refine sd Vy (by simp[jg]) (fun k f F H=>an f 5= .i .i64 (k:Int)∧H=sh∧ixA s (l.map Zo.nm) 0=ixA s ((l.drop k).map Zo.nm) k) l.length ⟨X,rfl,rfl⟩ ?_ ?_
 ·rintro k f F _ U r ⟨I,rfl,J⟩
  have Y:(k:Int)<l.length:=by omega
  have Z:=iX (k:=k) (by omega)
  obtain⟨sT,sc,rr,iW,_⟩:=H5 D V k U
  rw[List.drop_eq_getElem_cons U,List.map_cons,ixA]at J
  simp only[qB,seval,gd,Eh,r,O,W,I,D.lenI,Y,iW,Z]
  clear r
  grind
 ·rintro f F _ r ⟨I,rfl,J⟩
  simp only[qB,seval,gd,Eh,r,O,I,D.lenI,Int.lt_irrefl,J,List.drop_length,List.map_nil,ixA]
theorem aiS(s:List Nat)(l:List Zo)(a:T)(D:List T)(H:iJ a l.length D)(I:iK DB l D)(r:l.length≤1000):be pE 61 [a,.s s] []=some (.i .i64 (ixA s (l.map Zo.nm) 0),[]):=by
 have F:=zi1 s l a D H I r
 have PB:=FW s (l.map Zo.nm) 0
 rw[iD ajS (by simp[c61])]
 simp only[qB,seval,c61,F]
 clear F
 grind
theorem aji(s:List Nat)(l:List Zo)(a:T)(D:List T)(F:iJ a l.length D)(H:iK DB l D)(r:l.length≤1000): ∃v:Int,be pE 61 [a,.s s] []=some (.i .i64 v,[])∧(v<0↔s∉l.map Zo.nm):=⟨_,aiS s l a D F H r,DJ s _ 0⟩
theorem ai1(s:List Nat)(l:List Ap)(a:T)(K:List T)(D:iJ a l.length K)(V:iK N4 l K)(N:l.length≤1000)(fr:Fr)(lh:iL iy)(sh:List iy)(O:an fr 0=a)(W:an fr 1= .s s)(X:an fr 5= .i .i64 0):
  Zv pE 20 Ei fr lh sh 0 4 (ixA s (l.map Ap.cd) 0<0) (.i .i64 (ixA s (l.map Ap.cd) 0)) (fun F H=>H=sh):=by
 refine sd Vz (by simp[jg]) (fun k f F H=>an f 5= .i .i64 (k:Int)∧H=sh∧ixA s (l.map Ap.cd) 0=ixA s ((l.drop k).map Ap.cd) k) l.length ⟨X,rfl,rfl⟩ ?_ ?_
 ·rintro k f F _ U r ⟨I,rfl,J⟩
  have Y:(k:Int)<l.length:=by omega
  have Z:=iX (k:=k) (by omega)
  obtain⟨rr,iW⟩:=MY D V k U
  rw[List.drop_eq_getElem_cons U,List.map_cons,ixA]at J
  simp only[qB,seval,gd,Ei,r,O,W,I,D.lenI,Y,iW,Z]
  clear r
  grind
 ·rintro f F _ r ⟨I,rfl,J⟩
  simp only[qB,seval,gd,Ei,r,O,I,D.lenI,Int.lt_irrefl,J,List.drop_length,List.map_nil,ixA]
theorem aiR(s:List Nat)(l:List Ap)(a:T)(D:List T)(H:iJ a l.length D)(I:iK N4 l D)(r:l.length≤1000):be pE 63 [a,.s s] []=some (.i .i64 (ixA s (l.map Ap.cd) 0),[]):=by
 have F:=ai1 s l a D H I r
 have PB:=FW s (l.map Ap.cd) 0
 rw[iD ajU (by simp[c63])]
 simp only[qB,seval,c63,F]
 clear F
 grind
theorem abJ(s:List Nat)(l:List Ap)(a:T)(D:List T)(F:iJ a l.length D)(H:iK N4 l D)(r:l.length≤1000): ∃v:Int,be pE 63 [a,.s s] []=some (.i .i64 v,[])∧(v<0↔s∉l.map Ap.cd):=⟨_,aiR s l a D F H r,DJ s _ 0⟩
theorem aEq(f:Fl)(K N:iy)(fr:Fr)(lh:iL iy)(sh:List iy)(V:an fr 5= .ptr .L 5 1 0)(W:an fr 6= .i .i64 0)(O:a6 lh 2=K)(F:a6 lh 5=⟨1,.cells (G1 f) 0 true⟩)(U:a6 lh 7=N):
  vw pE 108 Ej fr lh sh 0 4 (if [f.n0,f.n1,f.n2].all xi then 0 else 5) (fun r H=>a6 r 2=K∧a6 r 5=⟨1,.cells (G1 f) 0 true⟩∧a6 r 7=N∧H=sh):=by
 refine jW Ek (fun k g r H=>an g 6= .i .i64 (k:Int)∧r=lh∧H=sh∧ [f.n0,f.n1,f.n2].all xi=([f.n0,f.n1,f.n2].drop k).all xi) 3 ⟨W,rfl,rfl,rfl⟩ ?_ ?_
 ·rintro k g _ _ Y D ⟨I,rfl,rfl,J⟩
  have X:k=0∨k=1∨k=2:=by omega
  unfold xi at*
  unfold G1 at F ⊢
  rcases X with rfl|rfl|rfl <;> simp only[qB,seval,gd,lZ,Ej,D,V,I,O,F,U,Int.ofNat_zero,Int.ofNat_one] <;> clear D <;> simp at J ⊢ <;> grind
 ·rintro g _ _ D ⟨I,rfl,rfl,J⟩
  simp only[qB,seval,gd,Ej,D,I,O,F,U,Int.lt_irrefl,J]
def flS(D:List (List Nat))(r:Option Fl)(f:Fl):Int:=if MG D f≠0 then MG D f else if(match r with|some p=> !UZ p f|none=>false)=true then 8 else 0
theorem Qd(t:Tt)(K r N:T)(Y:ue t K r N)(ha:t.ap.length≤100)(hf:t.fl.length≤1000)(Z: ∀f∈t.fl,f.nu.length≤mh)(k:Nat)(U:k<t.fl.length):
  be pE 64 [.agg [K,r,N],.i .i64 (k:Int)] []=some (.i .i64 (flS (t.ap.map Ap.cd) (vY t.fl k) t.fl[k]),[]):=by
 obtain⟨⟨zc,z1,z2⟩,⟨ac,a1,a2⟩,⟨fc,V,W⟩⟩:=Y
 obtain⟨rr,X⟩:=uh V W k U
 have F:=j3 (abG t.fl[k].nu (Z _ (List.getElem_mem U)))
 have H:=j3 (Az t.fl[k].ty)
 obtain⟨v1,I,e1⟩:=abJ t.fl[k].fr t.ap r ac a1 a2 (by omega)
 obtain⟨v2,J,e2⟩:=abJ t.fl[k].to t.ap r ac a1 a2 (by omega)
 have D:=aEq t.fl[k] ⟨1,.cells [K,r,N] 0 true⟩ ⟨0,.none⟩
 have hw:= @jE (t.fl[k].ar-t.fl[k].dp)
 rw[iD arP (by simp[c64])]
 unfold G1 at D
 by_cases JB:k=0
 ·have O: ¬(0:Int)<k:=by omega
  have hp:vY t.fl k=none:=by rw[JB];rfl
  rw[hp]
  simp only[qB,seval,c64,Ek,a1.froz,X,F,H,agt,SX,I,J,acF,D,O]
  clear D F H I J
  unfold flS MG T5
  grind (splits:=30)
 ·have O:(0:Int)<k:=by omega
  have Jt:=ot (k:=k) (by omega) (by omega)
  obtain⟨r2,N7⟩:=uh V W (k-1) (by omega)
  rw[IB (by omega) (by omega)]
  have Ca:Ev.bin .leq (.s t.fl[k].nu) (.s t.fl[k-1].nu)=if mB t.fl[k-1].nu t.fl[k].nu=true then some (.b false)else some (.b true):=by rw[abI];cases mB t.fl[k-1].nu t.fl[k].nu <;> rfl
  simp only[qB,seval,c64,Ek,a1.froz,X,F,H,agt,SX,I,J,acF,D,O,Jt,N7,Ca]
  clear D F H I J Ca
  unfold flS MG T5 UZ
  grind (splits:=30)
theorem iK.take{α:Type}{R:α→List T→Prop}{k:Nat}(D: ∀x c,R x c→c.length=k): ∀{xs:List α} {cs:List T} (i:Nat),iK R xs cs→iK R (xs.take i) (cs.take (i*k))
 | [],cs,i,h=>by rw[iK]at h;subst h;simp[iK]
 |x::xs,cs,0,h=>by simp[iK]
 |x::xs,cs,i+1,h=>by
  rw[iK]at h
  obtain⟨c,r,rfl,F,H⟩:=h
  have e:(c++r).take ((i+1)*k)=c++r.take (i*k):=by
   rw[show(i+1)*k=c.length+i*k by rw[D _ _ F,Nat.add_mul,Nat.one_mul,Nat.add_comm],List.take_append,List.take_of_length_le (by omega),Nat.add_sub_cancel_left]
  rw[e]
  exact⟨c,r.take (i*k),rfl,F,iK.take D i H⟩
theorem abK{n i:Nat}{a:T}{r:List T}(hi:i<n)(D:iJ a n r): ∃ex,a= .sl r n ex:=by
 rcases D with⟨_,hz,_⟩|⟨ex,rfl⟩
 ·omega
 ·exact⟨ex,rfl⟩
theorem aEr(l:List Zo)(K N a:T)(F:List T)(H:iJ a l.length F)(O:iK DB l F)(X:l.length≤100)(fr:Fr)(lh:iL iy)(sh:List iy)
  (Y:an fr 1= .ptr .L 1 1 0) (h3:an fr 3= .i .i64 0) (r:a6 lh 1=⟨1,.cells [a,K,N] 0 true⟩):
  vw pE 96 D7 fr lh sh 0 2 (Kw [] l) (fun D U=>a6 D 1=⟨1,.cells [a,K,N] 0 true⟩∧U=sh):=by
 refine jW K9 (fun k f D U=>an f 3= .i .i64 (k:Int)∧a6 D 1=⟨1,.cells [a,K,N] 0 true⟩∧U=sh∧Kw [] l=Kw ((l.take k).map Zo.nm) (l.drop k)) l.length ⟨h3,r,rfl,rfl⟩ ?_ ?_
 ·rintro k f D _ I J ⟨V,r,rfl,W⟩
  have iU:(k:Int)<l.length:=by omega
  have Z:k≤l.length:=by omega
  have hw:=iX (k:=k) (by omega)
  obtain⟨sT,sc,rr,iW,rP,A4⟩:=H5 H O k I
  have hz:=FT l[k] sT sc rP A4
  have ls:=iK.len DB.len O
  obtain⟨ex,rfl⟩:=abK I H
  have nv:(l.take k).length=k:=by rw[List.length_take,Nat.min_eq_left Z]
  obtain⟨v,Xx,IP⟩:=aji l[k].nm (l.take k) (.sl (F.take (k*3)) k (ex&&decide (k=l.length))) (F.take (k*3)) (by rw[nv];exact Or.inr ⟨_,rfl⟩) (iK.take DB.len k O) (by rw[nv];omega)
  rw[List.drop_eq_getElem_cons I,Kw]at W
  have mI:=A2 Zo.nm I
  simp only[qB,seval,gd,BS,jw,iN,D7,J,Y,V,r,H.lenI,iU,Z,ls,Nat.sub_zero,iW,hw,rP.froz1,hz,ajR,Xx,ajT,arN]
  clear J
  grind
 ·rintro f D _ J ⟨V,r,rfl,W⟩
  simp only[qB,seval,gd,D7,J,Y,V,r,H.lenI,Int.lt_irrefl,W,List.drop_length,Kw]
theorem aEs(r:List Zo)(D:T)(O:List T)(z1:iJ D r.length O)(z2:iK DB r O)(hzl:r.length≤100)(l:List Ap)(U a:T)(I:List T)(J:iJ a l.length I)(V:iK N4 l I)(hlen:l.length≤100)(fr:Fr)(lh:iL iy)(sh:List iy)
  (h1:an fr 1= .ptr .L 1 1 0) (h5:an fr 5= .i .i64 0) (F:a6 lh 1=⟨1,.cells [D,a,U] 0 true⟩):
  vw pE 96 D6 fr lh sh 2 2 (Kx (r.map Zo.nm) [] l) (fun H W=>a6 H 1=⟨1,.cells [D,a,U] 0 true⟩∧W=sh):=by
 refine jW K8 (fun k f H W=>an f 5= .i .i64 (k:Int)∧a6 H 1=⟨1,.cells [D,a,U] 0 true⟩∧W=sh∧Kx (r.map Zo.nm) [] l=Kx (r.map Zo.nm) ((l.take k).map Ap.cd) (l.drop k)) l.length ⟨h5,F,rfl,rfl⟩ ?_ ?_
 ·rintro k f H _ K N ⟨X,F,rfl,Y⟩
  have iU:(k:Int)<l.length:=by omega
  have wz:k≤l.length:=by omega
  have hw:=iX (k:=k) (by omega)
  obtain⟨rr,iW⟩:=MY J V k K
  have hp:=j3 (agl l[k].cd)
  have ls:=iK.len N4.len V
  obtain⟨ex,rfl⟩:=abK K J
  have nv:(l.take k).length=k:=by rw[List.length_take,Nat.min_eq_left wz]
  obtain⟨v,Xx,IP⟩:=abJ l[k].cd (l.take k) (.sl (I.take (k*2)) k (ex&&decide (k=l.length))) (I.take (k*2)) (by rw[nv];exact Or.inr ⟨_,rfl⟩) (iK.take N4.len k V) (by rw[nv];omega)
  obtain⟨u,Z,hu2⟩:=aji l[k].zn r D O z1 z2 (by omega)
  rw[List.drop_eq_getElem_cons K,Kx]at Y
  have mI:=A2 Ap.cd K
  simp only[qB,seval,gd,BS,jw,iN,D6,N,h1,X,F,J.lenI,iU,wz,ls,Nat.sub_zero,iW,hw,hp,aAn,Xx,acF,aAo,z1.froz,Z,ajT]
  clear N
  grind
 ·rintro f H _ N ⟨X,F,rfl,Y⟩
  simp only[qB,seval,gd,D6,N,h1,X,F,J.lenI,Int.lt_irrefl,Y,List.drop_length,Kx]
theorem aEt(t:Tt)(D F H:T)(W:ue t D F H)(ha:t.ap.length≤100)(hf:t.fl.length≤1000)(hN: ∀f∈t.fl,f.nu.length≤mh)(fr:Fr)(lh:iL iy)(sh:List iy)
  (X:an fr 1= .ptr .L 1 1 0) (h7:an fr 7= .i .i64 0) (r:a6 lh 1=⟨1,.cells [D,F,H] 0 true⟩):
  vw pE 96 D5 fr lh sh 4 2 (Jr (t.ap.map Ap.cd) none t.fl) (fun I K=>K=sh):=by
 have N:=W
 obtain⟨⟨zc,z1,z2⟩,⟨ac,a1,a2⟩,⟨fc,O,f2⟩⟩:=N
 refine jW Vq (fun k f I K=>an f 7= .i .i64 (k:Int)∧a6 I 1=⟨1,.cells [D,F,H] 0 true⟩∧K=sh∧Jr (t.ap.map Ap.cd) none t.fl=Jr (t.ap.map Ap.cd) (vY t.fl k) (t.fl.drop k)) t.fl.length ⟨h7,r,rfl,rfl⟩ ?_ ?_
 ·rintro k f I _ Y J ⟨U,r,rfl,V⟩
  have iU:(k:Int)<t.fl.length:=by omega
  have hw:=iX (k:=k) (by omega)
  have Z:=Qd t D F H W ha hf hN k Y
  rw[abH _ Y]at V
  simp only[qB,seval,gd,D5,J,X,U,r,z1.froz1,a1.froz1,O.froz1,O.lenI,iU,hw,Z,aAp]
  clear J Z
  unfold flS
  grind
 ·rintro f I _ J ⟨U,r,rfl,V⟩
  simp only[qB,seval,gd,D5,J,X,U,r,O.lenI,Int.lt_irrefl,V,List.drop_length,Jr]
theorem al0(t:Tt)(r D F:T)(J:ue t r D F)(X: ∀f∈t.fl,f.nu.length≤mh):be pE 36 [.agg [r,D,F]] []=some (.i .i64 (uf t),[]):=by
 have I:=J
 obtain⟨⟨K,H,N⟩,⟨ac,a1,a2⟩,⟨Y,O,Z⟩⟩:=I
 rw[iD arl (by simp[c36])]
 unfold uf
 by_cases q:t.zo.length≤16∧t.ap.length≤64∧t.fl.length≤200
 ·have U:=aEr t.zo D F r K H N (by omega)
  have V:=aEs t.zo r K H N (by omega) t.ap F D ac a1 a2 (by omega)
  have W:=aEt t r D F J (by omega) (by omega) X
  simp(maxDischargeDepth:=6) only[qB,seval,c36,K8,K9,H.lenI,a1.lenI,O.lenI,U,V,W]
  clear U V W
  grind
 ·simp only[qB,seval,c36,H.lenI,a1.lenI,O.lenI]
  grind
def Cf(sz:Nat):T→Bool
 | .sl r 1 _=>decide (r.length=sz∧0<sz)
 |_=>false
def F9(sz:Nat):T→Bool
 | .nilsl=>true
 | .isl .S _ _ 0 _ r=>decide (r=sz)
 |_=>false
def Se(sh:List iy)(k bytes g len sz:Nat)(r:List T)(e:iy):Option (T×List iy):=match e.ob with
 | .cells cs wm false=>if e.g=g∧len*sz=cs.length∧(len+1)*bytes≤roomy then some (.isl .S k (g+1) 0 (len+1) sz,iR sh k ⟨g+1,.cells (cs++r) wm false⟩)else none
 |_=>none
def anu(sh:List iy)(bytes sz:Nat):T→T→Option (T×List iy)
 | .nilsl,.sl r 1 _=>if bytes≤roomy then some (.isl .S sh.length 1 0 1 sz,iR sh sh.length ⟨1,.cells r 0 false⟩)else none
 | .isl .S k g 0 len _,.sl r 1 _=>Se sh k bytes g len sz r (iM sh k)
 |_,_=>none
theorem ju{sz:Nat}{r:List T}{ex:Bool}:Cf sz (.sl r 1 ex)=decide (r.length=sz∧0<sz):=nr rfl
theorem lI{sz:Nat}:F9 sz .nilsl=true:=nr rfl
theorem k8{k g len sz r:Nat}:F9 sz (.isl .S k g 0 len r)=decide (r=sz):=nr rfl
theorem mF{sh:List iy}{bytes sz:Nat}{r:List T}{ex:Bool}:anu sh bytes sz .nilsl (.sl r 1 ex)=if bytes≤roomy then some (.isl .S sh.length 1 0 1 sz,iR sh sh.length ⟨1,.cells r 0 false⟩)else none:=nr rfl
theorem mG{sh:List iy}{k g len bytes sz D:Nat}{r:List T}{ex:Bool}:anu sh bytes sz (.isl .S k g 0 len D) (.sl r 1 ex)=Se sh k bytes g len sz r (iM sh k):=nr rfl
theorem kE{sh:List iy}{k g r len bytes wm sz:Nat}{D:List T}{cs:List T}:Se sh k bytes g len sz D ⟨r,.cells cs wm false⟩=if r=g∧len*sz=cs.length∧(len+1)*bytes≤roomy then some (.isl .S k (g+1) 0 (len+1) sz,iR sh k ⟨g+1,.cells (cs++D) wm false⟩)else none:=nr rfl
theorem Cg{sz:Nat}{t:T}(h:Cf sz t=true): ∃r ex,t= .sl r 1 ex∧r.length=sz∧0<sz:=by
 unfold Cf at h
 grind
theorem Ga{sz:Nat}{t:T}(h:F9 sz t=true):t= .nilsl∨ ∃k g len,t= .isl .S k g 0 len sz:=by
 unfold F9 at h
 grind
section
variable{E:Env}{call:qT}{n:Nat}{fr:Fr}{lh:iL iy}{sh:List iy}{ds:List (List Nat×iz)}{jR:List FP}{d:Option Nat}{os:List iz}
theorem lC{H sz bytes:Nat}{s x:iS}(K:H<n)(r:Cf sz (rd fr x)=true)(hs:F9 sz (rd fr s)=true):iB E call n (⟨some H,.app sz bytes s x true false,none⟩::os) ⟨fr,lh,sh⟩=
  (anu sh bytes sz (rd fr s) (rd fr x)).bind fun q=>iB E call n os ⟨kJ fr H q.1,lh,q.2⟩:=by
 obtain⟨N,ex,r,A5,U⟩:=Cg r
 have D:N.length=1*sz:=by omega
 rw[qC (by rfl) (show Gz n (some H)from K)]
 unfold Ev.one
 rcases Ga hs with hs|⟨k,g,len,hs⟩
 ·simp only[jK,pN,jq,hs,r,j5,D,if_true,Q.run,Option.bind_some,mF]
  simp only[Nat.succ_ne_zero,if_false,Nat.one_mul]
  by_cases F:bytes≤roomy
  ·simp only[if_pos F,pn,Q.run,if_true];rfl
  ·simp only[if_neg F,Q.run];rfl
 ·have U4:(St.mk fr lh sh).get .S k=iM sh k:=rfl
  rw[hs,r,mG]
  generalize V:iM sh k=e at*
  obtain⟨O,ob⟩:=e
  unfold Se
  simp only[jK,pN,jq,hs,r,j5,D,if_true,Q.run,Option.bind_some]
  simp only[Nat.succ_ne_zero,if_false,decide_true,Bool.true_and,decide_eq_true_eq]
  by_cases F:(len+1)*bytes≤roomy
  ·simp only[Q.run,U4,if_true,F,and_true]
   by_cases I:O=g
   ·subst I
    simp only[if_true,true_and]
    cases ob with
    |none=>simp only[Q.run];rfl
    |map _ _ _=>simp only[Q.run];rfl
    |cells cs wm bx=>
     cases bx with
     |true=>simp only[Q.run];rfl
     |false=>
      simp only[]
      by_cases J:len*sz=cs.length
      ·simp only[if_pos J,Q.run];rfl
      ·simp only[if_neg J,Q.run];rfl
   ·simp only[Q.run,I,false_and,if_false]
    cases ob with
    |none=>rfl
    |map _ _ _=>rfl
    |cells cs wm bx=>cases bx <;> rfl
  ·simp only[F,if_false,Q.run,and_false]
   cases ob with
   |none=>rfl
   |map _ _ _=>rfl
   |cells cs wm bx=>cases bx <;> rfl
def NR(n:Nat):T→FP
 | .isl .S k _ _ _ _=>⟨false,[(.S,k)],[(.S,k)]⟩
 |_=>⟨true,[],[(.S,n)]⟩
theorem jY{r D:List (Sp×Nat)}{m:Nat}{t:T}(F:NV r=true)(H:NV D=true):apart ⟨false,r,D⟩ (NR m t)=true:=by
 have q: ∀(xs:List (Sp×Nat)) (k:Nat),NV xs=true→(xs.all fun x=> !([(Sp.S,k)]:List (Sp×Nat)).contains x)=true:=by
  intro xs k h
  rw[List.all_eq_true]
  intro x I
  have:=List.all_eq_true.1 h x I
  grind
 have J: ∀(xs:List (Sp×Nat)),(xs.all fun x=> !([]:List (Sp×Nat)).contains x)=true:=by intro xs;rw[List.all_eq_true];intro x _;rfl
 unfold NR
 split
 ·unfold apart nq
  rw[q D _ H,q r _ F];rfl
 ·unfold apart nq
  dsimp only
  rw[q D _ H,q r _ F,J,F,H];rfl
theorem mZ{u:List Nat}{H sz bytes:Nat}{s x:iS}(I:Cf sz (rd fr x)=true)(hs:F9 sz (rd fr s)=true):jc E call n ((u,⟨some H,.app sz bytes s x true false,none⟩)::ds) jR ⟨fr,lh,sh⟩=
  if meets u jR (NR sh.length (rd fr s))=true then ke E call n ds (jR++ [NR sh.length (rd fr s)]) (iB E call n [⟨some H,.app sz bytes s x true false,none⟩] ⟨fr,lh,sh⟩)else none:=by
 refine vn fun K=> ?_
 obtain⟨N,ex,I,A5,X⟩:=Cg I
 have O:j5 sz (rd fr x)= .ret (1,N):=by rw[I];simp only[j5,Nat.one_mul,A5,if_true]
 obtain⟨v,U,r,D⟩:=yQ (q:=pN H sz bytes (rd fr s) (rd fr x) true false) (by rfl) (by rw[lU];rfl) K
 unfold pN at r D
 rw[O]at r D
 simp only[Q.bind,Nat.one_ne_zero,if_false]at r D
 rcases Ga hs with hs|⟨k,g,len,hs⟩
 ·rw[hs]at r D ⊢
  simp only at r D
  by_cases F:1*bytes≤roomy
  ·rw[if_pos F]at r D
   simp only[pn,if_true,Q.run,Option.some.injEq,EF.val.injEq]at r
   obtain⟨rfl,rfl⟩:=r
   rw[D (by simp[pn,Q.asks])]
   rfl
  ·rw[if_neg F]at r
   simp[Q.run]at r
 ·rw[hs]at r D ⊢
  simp only[decide_true,Bool.true_and,decide_eq_true_eq]at r D
  by_cases F:(len+1)*bytes≤roomy
  ·rw[if_pos (by simp[F])]at r D
   simp only[Q.run]at r
   generalize J:(St.mk fr lh sh).get .S k=e at r D
   obtain⟨Y,ob⟩:=e
   simp only at r
   split at r
   ·rename_i V
    cases ob with
    |none=>simp[Q.run]at r
    |map a b c=>simp[Q.run]at r
    |cells U2 wm bx=>
     cases bx with
     |true=>simp[Q.run]at r
     |false=>
      simp only at r
      split at r
      ·rename_i W
       simp only[Q.run,Option.some.injEq,EF.val.injEq]at r
       obtain⟨rfl,rfl⟩:=r
       rw[D (by simp[nl,EH,J])]
       simp only[Q.asks,Q.log,J,V,W,if_true,kR,List.map_cons,List.map_nil,NR]
      ·simp[Q.run]at r
   ·simp[Q.run]at r
  ·rw[if_neg (by simp[F])]at r
   simp[Q.run]at r
end
mutual
def Fm.us(p:Int):Fm→Bool
 | .mk op num args=>if op=6 then decide (num=p)else usL p args
def usL(p:Int):List Fm→Bool
 | []=>false
 |x::xs=>x.us p||usL p xs
end
theorem Fm.us_eq(p:Int)(x:Fm):x.us p=if x.op=6 then decide (x.num=p)else usL p x.args:=by obtain⟨_,_,_⟩:=x;rw[Fm.us];rfl
theorem NS: ∀xs:List Fm,xs.length≤zl xs
 | []=>by simp[zl]
 |x::xs=>by
  have r:=NS xs
  have D:=x.sz_eq
  rw[zl,List.length_cons];omega
mutual
theorem Dy(r:List Nat→Int)(scope:Int): ∀x:Ex,(comp r scope x).sz≤x.nodes
 | .mk op num name args=>by
   have h:=NT r scope args
   rw[Ex.nodes_eq,tm]
   show Fm.sz (if op=1∨op=2∨op=3 then .mk 1 num []else if op=4 then .mk 1 1 []else if op=5 then .mk 1 0 []else if op=6 then(match Oa scope name with|some i=> .mk 6 (i:Int) []|none=> .mk 1 (r name) [])else .mk op 0 (mP r scope args))≤1+jX args
   have l: ∀(a b:Int),Fm.sz (.mk a b [])≤1+jX args:=fun a b=>by rw[Fm.sz_eq];show 1+zl []≤_;rw[zl];omega
   split
   ·exact l _ _
   split
   ·exact l _ _
   split
   ·exact l _ _
   split
   ·split <;> exact l _ _
   ·rw[Fm.sz_eq];show 1+zl (mP r scope args)≤_;omega
theorem NT(r:List Nat→Int)(scope:Int): ∀xs:List Ex,zl (mP r scope xs)≤jX xs
 | []=>by rw[mP,zl,jX];exact Nat.le_refl _
 |x::xs=>by
  have D:=Dy r scope x
  have F:=NT r scope xs
  rw[mP,zl,jX];omega
end
section
variable(p:Int)
def usP(f:Fm):Prop:= ∀(b:T) (D r:List T),iJ b f.args.length D→jl f.args D→f.sz≤100000→be pE 34 [.vp (.i .i64 f.op:: .i .i64 f.num::b::r),.i .i64 p] []=some (.b (f.us p),[])
theorem LI(op num:Int)(U:List T)(xs:List Fm)(ih: ∀y∈xs,usP p y)(a:T)(V:List T)(ha:iJ a xs.length V)(hx:jl xs V)(hn:zl xs≤100000)(r:Bool)(F:r=usL p xs)(o:Out)(W:o=if r then .ret else .ext 0)(fr:Fr)(lh:iL iy)(sh:List iy)
  (H:an fr 0= .vp (.i .i64 op:: .i .i64 num::a::U)) (I:an fr 1= .i .i64 p) (D:an fr 21= .i .i64 (xs.length:Int)) (Vg:an fr 22= .i .i64 0):
  qG 34 yD fr lh sh o∧
  ((r=true→an (pb pE 34 yD fr lh sh) 4= .b true)∧nB pE 34 yD fr lh sh=sh):=by
 refine jh (P:=fun jB je jk=>(r=true→an jB 4= .b true)∧jk=sh)
  (jx (fun k st=> ∃(fr:Fr) (O:iL iy),st=⟨fr,O,sh⟩∧r=usL p (xs.drop k)∧an fr 0= .vp (.i .i64 op:: .i .i64 num::a::U)∧an fr 1= .i .i64 p∧an fr 21= .i .i64 (xs.length:Int)∧an fr 22= .i .i64 (k:Int)) _ xs.length ?_ ?_ 0 _ (Nat.zero_le _) ⟨fr,lh,rfl,F,H,I,D,Vg⟩)
 ·rintro k _ J ⟨fr,O,rfl,F,H,I,D,Vg⟩
  have X:(k:Int)<xs.length:=by omega
  have Y:=NS xs
  have hyk:=Gr (List.getElem_mem J)
  have hw:=iZ (k:=k) (lK (by omega))
  obtain⟨b,cb,r2,Z,lE,uE⟩:=aaa ha hx k J
  have K:=ih xs[k] (List.getElem_mem J) b cb r2 lE uE (by omega)
  rw[List.drop_eq_getElem_cons J,usL]at F
  generalize xs[k]=y at*
  cases N:y.us p with
  |true=>
   right
   rw[N]at K
   rw[N,Bool.true_or]at F
   simp only[qA,seval,yD,H,I,D,Vg,X,Z,K,ari]
   refine⟨_,_,Lw,rfl,by rw[W,F];rfl,fun _=> ?_,rfl⟩
   simp only[qA,seval]
  |false=>
   left
   rw[N]at K
   rw[N,Bool.false_or]at F
   simp only[qA,seval,yD,H,I,D,Vg,X,Z,K,ari,hw]
   refine⟨_,rfl,_,_,rfl,F, ?_, ?_, ?_, ?_⟩ <;> simp only[qA,seval,H,I,D]
 ·rintro _ ⟨fr,O,rfl,F,H,I,D,Vg⟩
  rw[List.drop_length,usL]at F
  simp only[qA,seval,yD,D,Vg,Int.lt_irrefl]
  exact⟨_,_,oH,rfl,by rw[W,F];rfl,fun h=>(by rw[F]at h;cases h),rfl⟩
theorem aiI(f:Fm):usP p f:=by
 induction f using Fm.ind with
 |h f ih=>
  intro b N r H I W
  rw[iD ajH (by simp[c34]),Fm.us_eq]
  have hs:=f.sz_eq
  by_cases D:f.op=6
  ·simp only[qA,seval,c34,D]
  ·have F:=fun fr lh sh O U J Vg=>LI p f.op f.num r f.args (fun y V=>ih y V) b N H I (by omega) _ rfl _ rfl fr lh sh O U J Vg
   rw[if_neg D]
   cases K:usL p f.args with
   |true=>
    rw[K]at F
    simp only[qA,seval,c34,D,H.lenI,F]
   |false=>
    rw[K]at F
    simp only[qA,seval,c34,D,H.lenI,F]
end
theorem ko(R:List iy)(i j:Nat)(e:iy):iM (iR R i e) j=if j=i then e else iM R j:=tI _ _ _ _ _
theorem kD: ∀(R:List iy) (i:Nat) (a b:iy),iR (iR R i a) i b=iR R i b
 | [],0,a,b=>rfl
 | [],i+1,a,b=>by
   have:=kD [] i a b
   grind [iR,tq]
 |x::R,0,a,b=>rfl
 |x::R,i+1,a,b=>by simp_all[tW,kD]
theorem Cq: ∀(R:List iy) (e:iy),(iR R R.length e).length=R.length+1
 | [],e=>rfl
 |x::R,e=>by simp_all[List.length_cons,tW,Cq]
section
variable(lT:T)(m:List (List Nat×Nat))(kn:List (Nat×Int))(R:List iy)
theorem HU(i:Nat):iM (mw lT m kn R) (i+7)=iM R i:=nr rfl
theorem uc(i:Nat)(e:iy):iR (mw lT m kn R) (i+7) e=mw lT m kn (iR R i e):=nr rfl
theorem HV:(mw lT m kn R).length=R.length+7:=nr (by unfold mw;rw[List.length_append];show 7+R.length=_;omega)
end
def RlR(u:List Nat×Fm)(c:List T):Prop:= ∃r,c= .s u.1::r∧pA u.2 r
theorem RlR.len(u:List Nat×Fm)(c:List T)(h:RlR u c):c.length=4:=by obtain⟨r,rfl,h⟩:=h;rw[List.length_cons,h.len]
abbrev RL:=List (List Nat×Fm)
def A7(sz:Nat)(l:RL)(cs:List T):Prop:=(if sz=4 then iK RlR l cs else jl (l.map Prod.snd) cs)∧ ∀u∈l,u.2.sz≤1000
theorem A7.sz{sz:Nat}{l:RL}{cs:List T}(h:A7 sz l cs){u:List Nat×Fm}(r:u.2.sz≤1000): ∀v∈l++ [u],v.2.sz≤1000:=fun v hv=>by
 rcases List.mem_append.1 hv with hv|hv
 ·exact h.2 v hv
 ·grind
theorem A7.app4{l:RL}{cs:List T}(h:A7 4 l cs)(u:List Nat×Fm)(c:List T)(D:RlR u c)(F:u.2.sz≤1000):A7 4 (l++ [u]) (cs++c):=by
 refine⟨?_,h.sz F⟩
 have r:=h.1
 rw[if_pos rfl]at r ⊢
 exact iK.append r (iK.one D)
theorem A7.app3{l:RL}{cs:List T}(h:A7 3 l cs)(u:List Nat×Fm)(c:List T)(D:pA u.2 c)(F:u.2.sz≤1000):A7 3 (l++ [u]) (cs++c):=by
 refine⟨?_,h.sz F⟩
 have r:=h.1
 rw[if_neg (by decide)]at r ⊢
 rw[List.map_append]
 exact jl.append r (jl.one D)
theorem A7.nil(sz:Nat):A7 sz [] []:=by
 refine⟨?_,by simp⟩
 split
 ·rfl
 ·exact jl.nil
def RwK(R:List iy)(B:Nat)(p:Nat×T×RL):Prop:=(p.2.1= .nilsl∧p.2.2= [])∨ ∃i g n cs,p.2.1= .isl .S (i+7) g 0 n p.1∧iM R i=⟨g,.cells cs 0 false⟩∧i<R.length∧n*p.1=cs.length∧n≤B∧A7 p.1 p.2.2 cs
def kyZ:T→Option Nat
 | .isl .S k _ _ _ _=>some k
 |_=>none
theorem rB{k g o n s:Nat}:kyZ (.isl .S k g o n s)=some k:=rfl
def mr(R:List iy)(B:Nat)(r:List (Nat×T×RL)):Prop:=(∀p∈r,RwK R B p)∧ ∀i j:Nat,∀(hi:i<r.length) (D:j<r.length),i≠j→kyZ r[i].2.1=none∨kyZ r[i].2.1≠kyZ r[j].2.1
theorem RwK.mono{R:List iy}{B B':Nat}{p:Nat×T×RL}(h:RwK R B p)(J:B≤B'):RwK R B' p:=by
 rcases h with h|⟨i,g,n,cs,r,D,F,H,K,I⟩
 ·exact .inl h
 ·exact .inr ⟨i,g,n,cs,r,D,F,H,by omega,I⟩
theorem mr.mono{R:List iy}{B B':Nat}{r:List (Nat×T×RL)}(h:mr R B r)(D:B≤B'):mr R B' r:=⟨fun p F=>(h.1 p F).mono D,h.2⟩
theorem mr.new{R:List iy}{B:Nat}{D:List (Nat×T×RL)}(h:mr R B D)(U:1≤B)(j:Nat)(Z:j<D.length){sz:Nat}(qn:D[j].1=sz)(F:List T)(A5:F.length=sz)(l:RL)(V:A7 sz l F):
  mr (iR R R.length ⟨1,.cells F 0 false⟩) B (D.set j (sz,.isl .S (R.length+7) 1 0 1 sz,l)):=by
 have I: ∀p∈D,RwK (iR R R.length ⟨1,.cells F 0 false⟩) B p∧kyZ p.2.1≠some (R.length+7):=by
  intro p H
  rcases h.1 p H with r|⟨i,g,n,cs,r,J,h3,W,X,Y⟩
  ·exact⟨.inl r,by rw[r.1];simp[kyZ]⟩
  ·refine⟨.inr ⟨i,g,n,cs,r, ?_, ?_,W,X,Y⟩,by rw[r,rB];simp;omega⟩
   ·grind [ko]
   ·rw[Cq];omega
 refine⟨fun p H=> ?_,fun a b K O N=> ?_⟩
 ·rcases List.mem_or_eq_of_mem_set H with H|rfl
  ·grind
  ·exact .inr ⟨R.length,1,1,F,rfl,by rw[ko,if_pos rfl],by rw[Cq];omega,by simp[A5],U,V⟩
 ·rw[List.length_set]at K O
  rw[List.getElem_set,List.getElem_set]
  by_cases r:j=a
  ·grind [rB]
  ·rw[if_neg r]
   by_cases J:j=b
   ·rw[if_pos J]
    right
    rw[rB]
    exact(I D[a] (List.getElem_mem K)).2
   ·rw[if_neg J];exact h.2 a b K O N
theorem mr.app{R:List iy}{B:Nat}{D:List (Nat×T×RL)}(h:mr R B D)(j:Nat)(J:j<D.length){sz i g n:Nat}{cs:List T}(Z:D[j].1=sz)(K:D[j].2.1= .isl .S (i+7) g 0 n sz)(hE:iM R i=⟨g,.cells cs 0 false⟩)(hi:i<R.length)(W:n*sz=cs.length)(hB:n≤B)(H:List T)(A5:H.length=sz)(l:RL)(X:A7 sz l (cs++H))(I:Nat):
  mr (iR R i ⟨I,.cells (cs++H) 0 false⟩) (B+1) (D.set j (sz,.isl .S (i+7) I 0 (n+1) sz,l)):=by
 have U:(iR R i ⟨I,.cells (cs++H) 0 false⟩).length=R.length:=jQ _ _ _ hi
 refine⟨fun p Y=> ?_,fun a b r N O=> ?_⟩
 ·obtain⟨a,r,rfl⟩:=List.getElem_of_mem Y
  rw[List.length_set]at r
  rw[List.getElem_set]
  by_cases F:j=a
  ·rw[if_pos F]
   exact .inr ⟨i,I,n+1,cs++H,rfl,by rw[ko,if_pos rfl],by rw[U];exact hi,by rw[List.length_append,A5,Nat.add_mul,W,Nat.one_mul],by omega,X⟩
  ·rw[if_neg F]
   have hd:=h.2 j a J r F
   rw[K,rB]at hd
   rcases h.1 D[a] (List.getElem_mem r)with q|⟨i',g2,n',U2,q1,q2,q3,q4,q5,q6⟩
   ·exact .inl q
   ·refine .inr ⟨i',g2,n',U2,q1, ?_,by rw[U];exact q3,q4,by omega,q6⟩
    rw[q1,rB]at hd
    rw[ko,if_neg (fun e=>by subst e;rcases hd with hd|hd <;> simp at hd)]
    exact q2
 ·rw[List.length_set]at r N
  rw[List.getElem_set,List.getElem_set]
  by_cases F:j=a
  ·rw[if_pos F,if_neg (by omega)]
   have:=h.2 j b J N (by omega)
   rw[K,rB]at this
   rw[rB];exact this
  ·rw[if_neg F]
   by_cases V:j=b
   ·rw[if_pos V]
    have:=h.2 a j r J (by omega)
    rw[K,rB]at this
    rw[rB];exact this
   ·rw[if_neg V];exact h.2 a b r N O
end Go.Proofs.YtjniffjppoklpaaGreat
