/- Walks of functions of the program and of the reference, and their plain laws, part 8. Conditions: the theorems' own. -/
import Derived.Test.YtcpceiclnbmgiaaGreatM7
import Derived.KernelRfl
set_option maxRecDepth 100000
set_option linter.unusedSimpArgs false
set_option linter.unusedVariables false
set_option maxHeartbeats 16000000
namespace Go.Proofs.YtcpceiclnbmgiaaGreat
open Go Go.Ev
def upC(c:Nat):Prop:=(65:Int)≤c∧(c:Int)≤90
instance (c:Nat):Decidable (upC c):=by unfold upC;infer_instance
def ZE(c:Nat):Bool:=decide (upC c∨HU c)
def P3(s:List Nat):Bool:=decide (1≤s.length)&&(decide (s.length≤8)&&s.all ZE)
def Xn(s:List Nat):Bool:=decide (s.length=3)&&s.all fun c=>decide (upC c)
structure Ap where
 cd:List Nat
 zn:List Nat
structure Fl where
 nu:List Nat
 fr:List Nat
 to:List Nat
 dp:Int
 ar:Int
 ty:List Nat
 n0:Int
 n1:Int
 n2:Int
structure Tt where
 zo:List Zo
 ap:List Ap
 fl:List Fl
def No(z:Zo)(c:List T):Prop:= ∃a r,c= [.s z.nm,.i .i64 z.o,a]∧IsSl a z.sh.length r∧iA ZZ z.sh r
def ApR(u:Ap)(c:List T):Prop:=c= [.s u.cd,.s u.zn]
def I9(f:Fl):List T:= [.s f.nu,.s f.fr,.s f.to,.i .i64 f.dp,.i .i64 f.ar,.s f.ty,.i .i64 f.n0,.i .i64 f.n1,.i .i64 f.n2]
def Si(f:Fl)(c:List T):Prop:=c=I9 f
theorem No.len(z:Zo)(c:List T)(h:No z c):c.length=3:=by obtain⟨a,i,rfl,_⟩:=h;rfl
theorem ApR.len(u:Ap)(c:List T)(h:ApR u c):c.length=2:=by rw[h];rfl
theorem Si.len(f:Fl)(c:List T)(h:Si f c):c.length=9:=by rw[h];rfl
theorem agM{xs:List Zo}{a:T}{H:List T}(I:IsSl a xs.length H)(J:iA No xs H)(i:Nat)(hi:i<xs.length): ∃D F r,(∀kk,lY a (.i kk (i:Int)) 3=some (.vp (.s xs[i].nm:: .i .i64 xs[i].o::D::r)))∧IsSl D xs[i].sh.length F∧iA ZZ xs[i].sh F:=by
 obtain⟨c,r,e,h⟩:=py (k:=3) No.len I J i hi
 obtain⟨D,F,rfl,K,N⟩:=h
 exact⟨D,F,r,e,K,N⟩
theorem agN{xs:List Ap}{a:T}{D:List T}(F:IsSl a xs.length D)(H:iA ApR xs D)(i:Nat)(hi:i<xs.length): ∃r,∀kk,lY a (.i kk (i:Int)) 2=some (.vp (.s xs[i].cd:: .s xs[i].zn::r)):=by
 obtain⟨c,r,e,h⟩:=py (k:=2) ApR.len F H i hi
 rw[ApR]at h
 subst h
 exact⟨r,e⟩
theorem K6{xs:List Fl}{a:T}{D:List T}(F:IsSl a xs.length D)(H:iA Si xs D)(i:Nat)(hi:i<xs.length): ∃r,∀kk,lY a (.i kk (i:Int)) 9=some (.vp (.s xs[i].nu:: .s xs[i].fr:: .s xs[i].to:: .i .i64 xs[i].dp:: .i .i64 xs[i].ar:: .s xs[i].ty:: .i .i64 xs[i].n0:: .i .i64 xs[i].n1:: .i .i64 xs[i].n2::r)):=by
 obtain⟨c,r,e,h⟩:=py (k:=9) Si.len F H i hi
 rw[Si]at h
 subst h
 exact⟨r,e⟩
def Sg(seen:List (List Nat)):List Zo→Int
 | []=>0
 |z::r=>if oK z≠0 then oK z else if z.nm∈seen then 7 else Sg (seen++ [z.nm]) r
def Sh(i seen:List (List Nat)):List Ap→Int
 | []=>0
 |a::r=>if Xn a.cd=false then 1 else if a.cd∈seen then 7 else if a.zn∉i then 6 else Sh i (seen++ [a.cd]) r
def BY(n:Int):Bool:=decide (0≤n)&&decide (n≤8)
def Sj(f:Fl):Bool:=decide (2880≤f.dp)&&(decide (f.ar≤52593120)&&(decide (f.dp<f.ar)&&decide (f.ar-f.dp≤1440)))
def K3(i:List (List Nat))(f:Fl):Int:=
 if P3 f.nu=false then 1 else if ot f.ty=false then 1 else if f.fr∉i then 6 else if f.to∉i then 6 else if f.fr=f.to then 14 else if Sj f=false then 5 else if(BY f.n0&&(BY f.n1&&BY f.n2))=false then 5 else 0
def NS(f g:Fl):Bool:=if f.dp≠g.dp then decide (f.dp<g.dp)else wK f.nu g.nu
def I3(D:List (List Nat))(i:Option Fl):List Fl→Int
 | []=>0
 |f::r=>if K3 D f≠0 then K3 D f else if(match i with|some p=> !NS p f|none=>false)=true then 8 else I3 D (some f) r
def Tt.big(t:Tt):Prop:=16<t.zo.length∨64<t.ap.length∨200<t.fl.length
def uD(t:Tt):Int:=
 if 16<t.zo.length then 10 else if 64<t.ap.length then 10 else if 200<t.fl.length then 10 else if Sg [] t.zo≠0 then Sg [] t.zo else if Sh (t.zo.map Zo.nm) [] t.ap≠0 then Sh (t.zo.map Zo.nm) [] t.ap else I3 (t.ap.map Ap.cd) none t.fl
def TL(seen:List (List Nat)):List T:=(seen.map fun x=>(x,true)).map fun p=>sK p.1
def TM(seen:List (List Nat)):List T:=(seen.map fun x=>(x,true)).map fun p=>T.b p.2
theorem Ma(seen:List (List Nat))(s:List Nat):nI (.one .str) (TL seen) (TM seen) (.s s) (.b false) false=some (.b (decide (s∈seen))):=IQ seen s
theorem ZF(seen:List (List Nat))(s:List Nat)(h:s∉seen):qN (.one .str) (.s s) (.b true) (TL seen) (TM seen)=some (TL (seen++ [s]),TM (seen++ [s])):=E6 seen s h
theorem Mb{α β:Type}(f:α→β){l:List α}{k:Nat}(hk:k<l.length):(l.take (k+1)).map f=(l.take k).map f++ [f l[k]]:=by rw[List.take_succ_eq_append_getElem hk,List.map_append];rfl
theorem avi(s:List Nat)(hs:s.length≤8)(fr:Fr)(lh:iq b8)(sh:List b8)(K:an fr 0= .s s)(J:an fr 14= .i .i64 (s.length:Int))(N:an fr 15= .i .i64 0):
  LpC pE 37 yl fr lh sh 0 2 (s.all ZE=true) (.b false) (fun F H=>H=sh):=by
 refine xz QP (by simp[iW]) (fun k f F H=>an f 15= .i .i64 (k:Int)∧H=sh∧s.all ZE=(s.drop k).all ZE) s.length ⟨N,rfl,rfl⟩ ?_ ?_
 ·rintro k f F _ hk D ⟨I,rfl,hr⟩
  have O:(k:Int)<s.length:=by omega
  have U:=iN (k:=k) (by omega)
  have r:=GG hk
  rw[List.drop_eq_getElem_cons hk,List.all_cons]at hr
  simp only[qB,seval,gd,yl,D,K,J,I,O,r,U]
  clear D r
  unfold ZE upC HU at*
  grind
 ·rintro f F _ D ⟨I,rfl,hr⟩
  rw[List.drop_length,List.all_nil]at hr
  simp only[qB,seval,gd,yl,D,J,I,Int.lt_irrefl,hr]
theorem ZG(s:List Nat):be pE 136 [.s s] []=some (.b (P3 s),[]):=by
 rw[il aeC (by simp[QQ])]
 unfold P3
 by_cases h:s.length≤8
 ·have i:=avi s h
  simp only[qB,seval,QQ,i]
  clear i
  grind
 ·simp only[qB,seval,QQ]
  grind
theorem avj(s:List Nat)(hs:s.length=3)(fr:Fr)(lh:iq b8)(sh:List b8)(K:an fr 0= .s s)(J:an fr 8= .i .i64 (s.length:Int))(N:an fr 9= .i .i64 0):
  LpC pE 23 Dk fr lh sh 0 2 ((s.all fun c=>decide (upC c))=true) (.b false) (fun F H=>H=sh):=by
 refine xz TW (by simp[iW]) (fun k f F H=>an f 9= .i .i64 (k:Int)∧H=sh∧(s.all fun c=>decide (upC c))=(s.drop k).all fun c=>decide (upC c)) s.length ⟨N,rfl,rfl⟩ ?_ ?_
 ·rintro k f F _ hk D ⟨I,rfl,hr⟩
  have O:(k:Int)<s.length:=by omega
  have U:=iN (k:=k) (by omega)
  have r:=GG hk
  rw[List.drop_eq_getElem_cons hk,List.all_cons]at hr
  simp only[qB,seval,gd,Dk,D,K,J,I,O,r,U]
  clear D r
  unfold upC at*
  grind
 ·rintro f F _ D ⟨I,rfl,hr⟩
  rw[List.drop_length,List.all_nil]at hr
  simp only[qB,seval,gd,Dk,D,J,I,Int.lt_irrefl,hr]
theorem aea(s:List Nat):be pE 85 [.s s] []=some (.b (Xn s),[]):=by
 rw[il aqi (by simp[c85])]
 unfold Xn
 by_cases i:s.length=3
 ·have r:=avj s i
  rw[i]at r
  simp only[qB,seval,c85,i,r]
  clear r
  grind
 ·have DM: ¬(s.length:Int)=3:=by omega
  simp only[qA,seval,c85,i,DM]
theorem aCR(r D F:Int)(fr:Fr)(lh:iq b8)(sh:List b8)(I:an fr 62= .agg [.i .i64 r,.i .i64 D,.i .i64 F])(B6:an fr 63= .i .i64 0):
  xy pE 73 Dl fr lh sh 1 4 (if [r,D,F].all BY then 0 else 5) (fun J K=>K=sh):=by
 refine kj TX (fun k f J K=>an f 63= .i .i64 (k:Int)∧K=sh∧ [r,D,F].all BY=([r,D,F].drop k).all BY) 3 ⟨B6,rfl,rfl⟩ ?_ ?_
 ·rintro k f J _ hk H ⟨N,rfl,hr⟩
  have hc:k=0∨k=1∨k=2:=by omega
  unfold BY at*
  rcases hc with rfl|rfl|rfl <;> simp only[qB,seval,gd,aa5,Dl,H,I,N,Int.ofNat_zero,Int.ofNat_one] <;> clear H <;> simp at hr ⊢ <;> grind
 ·rintro f J _ H ⟨N,rfl,hr⟩
  simp only[qB,seval,gd,Dl,H,N,Int.lt_irrefl,hr]
theorem alM(r:List (List Nat))(f:Fl):be pE 86 [.agg (I9 f),.vm (TL r) (TM r)] []=some (.i .i64 (K3 r f),[]):=by
 have D:=kq (ZG f.nu)
 have F:=kq (zr f.ty)
 have H:=Ma r f.fr
 have I:=Ma r f.to
 have J:=aCR f.n0 f.n1 f.n2
 have O:= @js (f.ar-f.dp)
 rw[il aqk (by simp[c86])]
 unfold K3 I9
 by_cases K:f.fr∈r <;> by_cases N:f.to∈r <;> simp only[qB,seval,c86,D,F,aqJ,JX,H,I,K,N,J]
 all_goals clear J D F H I
 all_goals try unfold Sj
 all_goals grind (splits:=30)
theorem aeb(f g:Fl):be pE 87 [.agg (I9 f),.agg (I9 g)] []=some (.b (NS f g),[]):=by
 rw[il ahs (by simp[c87])]
 unfold NS I9
 by_cases h:f.dp=g.dp <;> simp only[qA,seval,c87,h]
theorem aCS(l:List Zo)(a:T)(O:List T)(ha:IsSl a l.length O)(hc:iA No l O)(U:l.length≤100)(g:Nat)(K TQ:b8)(fr:Fr)(lh:iq b8)(sh:List b8)
  (V:an fr 3= .mp .L 29 g) (I:an fr 31=a) (BS:an fr 32= .i .i64 (l.length:Int)) (Es:an fr 33= .i .i64 0) (F:b7 lh 1=K) (Mc:b7 lh 29=⟨g,.map [] [] false⟩) (C2:b7 lh 50=TQ):
  xy pE 106 Ao fr lh sh 0 2 (Sg [] l) (fun r N=>(Sg [] l=0→b7 r 29=⟨g,.map (TL (l.map Zo.nm)) (TM (l.map Zo.nm)) false⟩)∧b7 r 1=K∧b7 r 50=TQ∧N=sh):=by
 refine kj Jl (fun k f r N=>an f 33= .i .i64 (k:Int)∧b7 r 29=⟨g,.map (TL ((l.take k).map Zo.nm)) (TM ((l.take k).map Zo.nm)) false⟩∧b7 r 1=K∧b7 r 50=TQ∧N=sh∧Sg [] l=Sg ((l.take k).map Zo.nm) (l.drop k)) l.length ⟨Es,Mc,F,C2,rfl,rfl⟩ ?_ ?_
 ·rintro k f r _ hk H ⟨J,Mc,F,C2,rfl,hr⟩
  rw[List.drop_eq_getElem_cons hk,Sg]at hr
  have W:(k:Int)<l.length:=by omega
  have hw:=iN (k:=k) (by omega)
  obtain⟨sT,sc,rr,X,D,Fy⟩:=agM ha hc k hk
  have Y:=Ep l[k] sT sc D Fy
  have Z:=Ma ((l.take k).map Zo.nm) l[k].nm
  have oj:=ZF ((l.take k).map Zo.nm) l[k].nm
  have qG:=Mb Zo.nm hk
  by_cases hs:l[k].nm∈(l.take k).map Zo.nm
  ·simp only[qB,seval,gd,Ao,H,V,I,BS,J,Mc,F,C2,W,X,D.froz1,Y,aao,jF,Z,hs]
   clear H
   grind
  ·simp only[qB,seval,gd,Ao,H,V,I,BS,J,Mc,F,C2,W,X,hw,D.froz1,Y,aao,jF,Z,hs,tP,BN,oj hs,qG]
   clear H
   grind
 ·rintro f r _ H ⟨J,Mc,F,C2,rfl,hr⟩
  rw[List.take_length]at Mc
  simp only[qB,seval,gd,Ao,H,BS,J,Mc,F,C2,Int.lt_irrefl,hr,List.drop_length,Sg]
  exact fun _=>trivial
theorem aCT(r:List (List Nat))(l:List Ap)(a:T)(U:List T)(ha:IsSl a l.length U)(hc:iA ApR l U)(V:l.length≤100)(g g3:Nat)(J:b8)(fr:Fr)(lh:iq b8)(sh:List b8)
  (h3:an fr 3= .mp .L 29 g3) (W:an fr 7= .mp .L 50 g) (Tp:an fr 52=a) (K:an fr 53= .i .i64 (l.length:Int)) (uw:an fr 54= .i .i64 0) (F:b7 lh 1=J) (Mc:b7 lh 29=⟨g3,.map (TL r) (TM r) false⟩) (C2:b7 lh 50=⟨g,.map [] [] false⟩):
  xy pE 106 An fr lh sh 2 2 (Sh r [] l) (fun D N=>(Sh r [] l=0→b7 D 50=⟨g,.map (TL (l.map Ap.cd)) (TM (l.map Ap.cd)) false⟩)∧b7 D 1=J∧N=sh):=by
 refine kj Jk (fun k f D N=>an f 54= .i .i64 (k:Int)∧b7 D 50=⟨g,.map (TL ((l.take k).map Ap.cd)) (TM ((l.take k).map Ap.cd)) false⟩∧b7 D 1=J∧b7 D 29=⟨g3,.map (TL r) (TM r) false⟩∧N=sh∧Sh r [] l=Sh r ((l.take k).map Ap.cd) (l.drop k)) l.length ⟨uw,C2,F,Mc,rfl,rfl⟩ ?_ ?_
 ·rintro k f D _ hk H ⟨I,C2,F,Mc,rfl,hr⟩
  rw[List.drop_eq_getElem_cons hk,Sh]at hr
  have X:(k:Int)<l.length:=by omega
  have hw:=iN (k:=k) (by omega)
  obtain⟨rr,Y⟩:=agN ha hc k hk
  have Z:=kq (aea l[k].cd)
  have mg:=Ma ((l.take k).map Ap.cd) l[k].cd
  have oj:=ZF ((l.take k).map Ap.cd) l[k].cd
  have O:=Ma r l[k].zn
  have qG:=Mb Ap.cd hk
  by_cases hs:l[k].cd∈(l.take k).map Ap.cd
  ·simp only[qB,seval,gd,An,H,W,Tp,K,I,C2,F,Mc,X,Y,Z,aqj,jF,mg,hs]
   clear H
   grind
  ·by_cases hz:l[k].zn∈r <;> simp only[qB,seval,gd,An,H,h3,W,Tp,K,I,C2,F,Mc,X,Y,hw,Z,aqj,jF,mg,hs,O,hz,tP,BN,oj hs,qG] <;> clear H <;> grind
 ·rintro f D _ H ⟨I,C2,F,Mc,rfl,hr⟩
  rw[List.take_length]at C2
  simp only[qB,seval,gd,An,H,K,I,C2,F,Int.lt_irrefl,hr,List.drop_length,Sh]
  exact fun _=>trivial
def Aa(l:List Fl)(k:Nat):Option Fl:=if k=0 then none else l[k-1]?
theorem Tg{l:List Fl}{k:Nat}(i:0<k)(hk:k-1<l.length):Aa l k=some l[k-1]:=by
 unfold Aa;rw[if_neg (by omega),List.getElem?_eq_getElem hk]
theorem alN(i:List (List Nat)){l:List Fl}{k:Nat}(hk:k<l.length):I3 i (Aa l k) (l.drop k)=if K3 i l[k]≠0 then K3 i l[k]else if(match Aa l k with|some p=> !NS p l[k]|none=>false)=true then 8 else I3 i (Aa l (k+1)) (l.drop (k+1)):=by
 have e:Aa l (k+1)=some l[k]:=by unfold Aa;rw[if_neg (by omega),Nat.add_sub_cancel,List.getElem?_eq_getElem hk]
 rw[List.drop_eq_getElem_cons hk,e]
 conv=>lhs;unfold I3
 try rfl
theorem aCU(r:List (List Nat))(W X:T)(l:List Fl)(a:T)(Y:List T)(Z:IsSl a l.length Y)(hc:iA Si l Y)(hlen:l.length≤1000)(g:Nat)(fr:Fr)(lh:iq b8)(sh:List b8)
  (h1:an fr 1= .ptr .L 1 1 0) (h7:an fr 7= .mp .L 50 g) (H:an fr 79=a) (D:an fr 80= .i .i64 (l.length:Int)) (N:an fr 81= .i .i64 0) (I:b7 lh 1=⟨1,.cells [W,X,a] 0 true⟩) (C2:b7 lh 50=⟨g,.map (TL r) (TM r) false⟩):
  xy pE 106 Am fr lh sh 5 2 (I3 r none l) (fun J O=>O=sh):=by
 refine kj TP (fun k f J O=>an f 81= .i .i64 (k:Int)∧b7 J 1=⟨1,.cells [W,X,a] 0 true⟩∧(∃wm,b7 J 50=⟨g,.map (TL r) (TM r) wm⟩)∧O=sh∧I3 r none l=I3 r (Aa l k) (l.drop k)) l.length ⟨N,I,⟨_,C2⟩,rfl,rfl⟩ ?_ ?_
 ·rintro k f J _ hk F ⟨K,I,⟨wm,C2⟩,rfl,hr⟩
  rw[alN r hk]at hr
  have iX:(k:Int)<l.length:=by omega
  have hw:=iN (k:=k) (by omega)
  obtain⟨rr,jg⟩:=K6 Z hc k hk
  have U:=alM r l[k]
  unfold I9 at U
  by_cases Ml:k=0
  ·have V: ¬(0:Int)<k:=by omega
   have hp:Aa l k=none:=by rw[Ml];rfl
   simp only[qB,seval,gd,jI,Am,F,h7,H,D,K,I,C2,iX,jg,hw,U,aql,V]
   clear F
   grind
  ·have V:(0:Int)<k:=by omega
   have Ty:=uc (k:=k) (by omega) (by omega)
   obtain⟨r2,TF⟩:=K6 Z hc (k-1) (by omega)
   have hb:=kq (aeb l[k-1] l[k])
   have hp:=Tg (l:=l) (k:=k) (by omega) (by omega)
   unfold I9 at hb
   simp only[qB,seval,gd,jI,iE,Am,F,h1,h7,H,D,K,I,C2,iX,jg,hw,U,aql,V,Ty,TF,hb,ayb,ayc]
   clear F
   grind
 ·rintro f J _ F ⟨K,I,⟨wm,C2⟩,rfl,hr⟩
  simp only[qB,seval,gd,Am,F,D,K,Int.lt_irrefl,hr,List.drop_length,I3]
structure sZ (t:Tt) (zT aT fT:T):Prop where
 z: ∃c,IsSl zT t.zo.length c∧iA No t.zo c
 a: ∃c,IsSl aT t.ap.length c∧iA ApR t.ap c
 f: ∃c,IsSl fT t.fl.length c∧iA Si t.fl c
theorem Nr(t:Tt)(r D F:T)(W:sZ t r D F):be pE 49 [.agg [r,D,F]] []=some (.i .i64 (uD t),[]):=by
 obtain⟨⟨X,H,Y⟩,⟨ac,a1,a2⟩,⟨Z,I,f2⟩⟩:=W
 rw[il apO (by simp[c49])]
 unfold uD
 by_cases q:t.zo.length≤16∧t.ap.length≤64∧t.fl.length≤200
 ·have O:=fun fr lh sh J K BS Es N Mc C2=>lpO (aCS t.zo r X H Y (by omega) 1 ⟨1,.cells [r,D,F] 0 true⟩ ⟨0,.none⟩ fr lh sh J K BS Es N Mc C2) (by simp)
  have U:=fun fr lh sh J h7 Tp tZ uw N Mc C2=>lpO (aCT (t.zo.map Zo.nm) t.ap D ac a1 a2 (by omega) 1 1 ⟨1,.cells [r,D,F] 0 true⟩ fr lh sh J h7 Tp tZ uw N Mc C2) (by simp)
  have V:=aCU (t.ap.map Ap.cd) r D t.fl F Z I f2 (by omega) 1
  simp(maxDischargeDepth:=6) only[qB,seval,c49,Jk,Jl,H.lenI,a1.lenI,I.lenI,O,U,V]
  clear O U V
  grind
 ·simp only[qB,seval,c49,H.lenI,a1.lenI,I.lenI]
  grind
def ixA(s:List Nat):List (List Nat)→Nat→Int
 | [],_=> -1
 |x::r,k=>if x=s then(k:Int)else ixA s r (k+1)
theorem PG(s:List Nat): ∀(l:List (List Nat)) (k:Nat),ixA s l k<0↔s∉l
 | [],k=>by simp[ixA]
 |x::r,k=>by
  rw[ixA]
  by_cases h:x=s
  ·rw[if_pos h];subst h;simp
  ·rw[if_neg h,PG s r (k+1)]
   simp[Ne.symm h]
theorem XW(s:List Nat): ∀(ns:List (List Nat)) (k:Nat),ixA s ns k<0→ixA s ns k= -1
 | [],_,_=>rfl
 |x::ns,k,h=>by
  rw[ixA]at h ⊢
  by_cases e:x=s
  ·rw[if_pos e]at h;omega
  ·rw[if_neg e]at h ⊢; exact XW s ns _ h
def Bc(sz:Nat):T→Bool
 | .sl i 1 _=>decide (i.length=sz∧0<sz)
 |_=>false
def ED(sz:Nat):T→Bool
 | .nilsl=>true
 | .isl .S _ _ 0 _ i=>decide (i=sz)
 |_=>false
def QH(sh:List b8)(k bytes g len sz:Nat)(i:List T)(e:b8):Option (T×List b8):=match e.ob with
 | .cells cs wm false=>if e.g=g∧len*sz=cs.length∧(len+1)*bytes≤roomy then some (.isl .S k (g+1) 0 (len+1) sz,iH sh k ⟨g+1,.cells (cs++i) wm false⟩)else none
 |_=>none
def alO(sh:List b8)(bytes sz:Nat):T→T→Option (T×List b8)
 | .nilsl,.sl i 1 _=>if bytes≤roomy then some (.isl .S sh.length 1 0 1 sz,iH sh sh.length ⟨1,.cells i 0 false⟩)else none
 | .isl .S k g 0 len _,.sl i 1 _=>QH sh k bytes g len sz i (iz sh k)
 |_,_=>none
theorem iK{sz:Nat}{i:List T}{ex:Bool}:Bc sz (.sl i 1 ex)=decide (i.length=sz∧0<sz):=nr rfl
theorem jx{sz:Nat}:ED sz .nilsl=true:=nr rfl
theorem ju{k g len sz i:Nat}:ED sz (.isl .S k g 0 len i)=decide (i=sz):=nr rfl
theorem jR{sh:List b8}{bytes sz:Nat}{i:List T}{ex:Bool}:alO sh bytes sz .nilsl (.sl i 1 ex)=if bytes≤roomy then some (.isl .S sh.length 1 0 1 sz,iH sh sh.length ⟨1,.cells i 0 false⟩)else none:=nr rfl
theorem jS{sh:List b8}{k g len bytes sz r:Nat}{i:List T}{ex:Bool}:alO sh bytes sz (.isl .S k g 0 len r) (.sl i 1 ex)=QH sh k bytes g len sz i (iz sh k):=nr rfl
theorem jc{sh:List b8}{k g i len bytes wm sz:Nat}{r:List T}{cs:List T}:QH sh k bytes g len sz r ⟨i,.cells cs wm false⟩=if i=g∧len*sz=cs.length∧(len+1)*bytes≤roomy then some (.isl .S k (g+1) 0 (len+1) sz,iH sh k ⟨g+1,.cells (cs++r) wm false⟩)else none:=nr rfl
theorem Bd{sz:Nat}{t:T}(h:Bc sz t=true): ∃i ex,t= .sl i 1 ex∧i.length=sz∧0<sz:=by
 unfold Bc at h
 grind
theorem EF{sz:Nat}{t:T}(h:ED sz t=true):t= .nilsl∨ ∃k g len,t= .isl .S k g 0 len sz:=by
 unfold ED at h
 grind
section
variable{E:Env}{call:qa}{n:Nat}{fr:Fr}{lh:iq b8}{sh:List b8}{ds:List (List Nat×dy)}{jN:List FP}{d:Option Nat}{os:List dy}
theorem jV{r sz bytes:Nat}{s x:iF}(H:r<n)(hx:Bc sz (rd fr x)=true)(hs:ED sz (rd fr s)=true):eb E call n (⟨some r,.app sz bytes s x true false,none⟩::os) ⟨fr,lh,sh⟩=
  (alO sh bytes sz (rd fr s) (rd fr x)).bind fun q=>eb E call n os ⟨kg fr r q.1,lh,q.2⟩:=by
 obtain⟨I,ex,hx,K,N⟩:=Bd hx
 have Ys:I.length=1*sz:=by omega
 rw[pL (by rfl) (show Fe n (some r)from H)]
 unfold Ev.one
 rcases EF hs with hs|⟨k,g,len,hs⟩
 ·simp only[jk,qM,jh,hs,hx,jL,Ys,if_true,Q.run,Option.bind_some,jR]
  simp only[Nat.succ_ne_zero,if_false,Nat.one_mul]
  by_cases i:bytes≤roomy
  ·simp only[if_pos i,oc,Q.run,if_true];rfl
  ·simp only[if_neg i,Q.run];rfl
 ·have Pk:(St.mk fr lh sh).get .S k=iz sh k:=rfl
  rw[hs,hx,jS]
  generalize O:iz sh k=e at*
  obtain⟨J,ob⟩:=e
  unfold QH
  simp only[jk,qM,jh,hs,hx,jL,Ys,if_true,Q.run,Option.bind_some]
  simp only[Nat.succ_ne_zero,if_false,decide_true,Bool.true_and,decide_eq_true_eq]
  by_cases i:(len+1)*bytes≤roomy
  ·simp only[Q.run,Pk,if_true,i,and_true]
   by_cases D:J=g
   ·subst D
    simp only[if_true,true_and]
    cases ob with
    |none=>simp only[Q.run];rfl
    |map _ _ _=>simp only[Q.run];rfl
    |cells cs wm bx=>
     cases bx with
     |true=>simp only[Q.run];rfl
     |false=>
      simp only[]
      by_cases F:len*sz=cs.length
      ·simp only[if_pos F,Q.run];rfl
      ·simp only[if_neg F,Q.run];rfl
   ·simp only[Q.run,D,false_and,if_false]
    cases ob with
    |none=>rfl
    |map _ _ _=>rfl
    |cells cs wm bx=>cases bx <;> rfl
  ·simp only[i,if_false,Q.run,and_false]
   cases ob with
   |none=>rfl
   |map _ _ _=>rfl
   |cells cs wm bx=>cases bx <;> rfl
def rV(n:Nat):T→FP
 | .isl .S k _ _ _ _=>⟨false,[(.S,k)],[(.S,k)]⟩
 |_=>⟨true,[],[(.S,n)]⟩
theorem iQ{rs i:List (Sp×Nat)}{m:Nat}{t:T}(r:Mg rs=true)(D:Mg i=true):apart ⟨false,rs,i⟩ (rV m t)=true:=by
 have q: ∀(xs:List (Sp×Nat)) (k:Nat),Mg xs=true→(xs.all fun x=> !([(Sp.S,k)]:List (Sp×Nat)).contains x)=true:=by
  intro xs k h
  rw[List.all_eq_true]
  intro x hx
  have:=List.all_eq_true.1 h x hx
  grind
 have F: ∀(xs:List (Sp×Nat)),(xs.all fun x=> !([]:List (Sp×Nat)).contains x)=true:=by intro xs;rw[List.all_eq_true];intro x _;rfl
 unfold rV
 split
 ·unfold apart ml
  rw[q i _ D,q rs _ r];rfl
 ·unfold apart ml
  dsimp only
  rw[q i _ D,q rs _ r,F,r,D];rfl
theorem kl{u:List Nat}{D sz bytes:Nat}{s x:iF}(hx:Bc sz (rd fr x)=true)(hs:ED sz (rd fr s)=true):iP E call n ((u,⟨some D,.app sz bytes s x true false,none⟩)::ds) jN ⟨fr,lh,sh⟩=
  if meets u jN (rV sh.length (rd fr s))=true then ke E call n ds (jN++ [rV sh.length (rd fr s)]) (eb E call n [⟨some D,.app sz bytes s x true false,none⟩] ⟨fr,lh,sh⟩)else none:=by
 refine uC fun H=> ?_
 obtain⟨I,ex,hx,J,V⟩:=Bd hx
 have K:jL sz (rd fr x)= .ret (1,I):=by rw[hx];simp only[jL,Nat.one_mul,J,if_true]
 obtain⟨v,N,hr,i⟩:=wx (q:=qM D sz bytes (rd fr s) (rd fr x) true false) (by rfl) (by rw[lp];rfl) H
 unfold qM at hr i
 rw[K]at hr i
 simp only[Q.bind,Nat.one_ne_zero,if_false]at hr i
 rcases EF hs with hs|⟨k,g,len,hs⟩
 ·rw[hs]at hr i ⊢
  simp only at hr i
  by_cases r:1*bytes≤roomy
  ·rw[if_pos r]at hr i
   simp only[oc,if_true,Q.run,Option.some.injEq,Dq.val.injEq]at hr
   obtain⟨rfl,rfl⟩:=hr
   rw[i (by simp[oc,Q.asks])]
   rfl
  ·rw[if_neg r]at hr
   simp[Q.run]at hr
 ·rw[hs]at hr i ⊢
  simp only[decide_true,Bool.true_and,decide_eq_true_eq]at hr i
  by_cases r:(len+1)*bytes≤roomy
  ·rw[if_pos (by simp[r])]at hr i
   simp only[Q.run]at hr
   generalize F:(St.mk fr lh sh).get .S k=e at hr i
   obtain⟨W,ob⟩:=e
   simp only at hr
   split at hr
   ·rename_i O
    cases ob with
    |none=>simp[Q.run]at hr
    |map a b c=>simp[Q.run]at hr
    |cells Tj wm bx=>
     cases bx with
     |true=>simp[Q.run]at hr
     |false=>
      simp only at hr
      split at hr
      ·rename_i U
       simp only[Q.run,Option.some.injEq,Dq.val.injEq]at hr
       obtain⟨rfl,rfl⟩:=hr
       rw[i (by simp[inB,Bu,F])]
       simp only[Q.asks,Q.log,F,O,U,if_true,ki,List.map_cons,List.map_nil,rV]
      ·simp[Q.run]at hr
   ·simp[Q.run]at hr
  ·rw[if_neg (by simp[r])]at hr
   simp[Q.run]at hr
end
mutual
def Fm.us(p:Int):Fm→Bool
 | .mk op num args=>if op=6 then decide (num=p)else usL p args
def usL(p:Int):List Fm→Bool
 | []=>false
 |x::xs=>x.us p||usL p xs
end
theorem Fm.us_eq(p:Int)(x:Fm):x.us p=if x.op=6 then decide (x.num=p)else usL p x.args:=by obtain⟨_,_,_⟩:=x;rw[Fm.us];rfl
theorem Md: ∀xs:List Fm,xs.length≤xS xs
 | []=>by simp[xS]
 |x::xs=>by
  have i:=Md xs
  have r:=x.sz_eq
  rw[xS,List.length_cons];omega
mutual
theorem CD(r:List Nat→Int)(scope:Int): ∀x:Ex,(comp r scope x).sz≤x.nodes
 | .mk op num name args=>by
   have h:=Me r scope args
   rw[Ex.nodes_eq,rY]
   show Fm.sz (if op=1∨op=2∨op=3 then .mk 1 num []else if op=4 then .mk 1 1 []else if op=5 then .mk 1 0 []else if op=6 then(match PH scope name with|some i=> .mk 6 (i:Int) []|none=> .mk 1 (r name) [])else .mk op 0 (l7 r scope args))≤1+jQ args
   have l: ∀(a b:Int),Fm.sz (.mk a b [])≤1+jQ args:=fun a b=>by rw[Fm.sz_eq];show 1+xS []≤_;rw[xS];omega
   split
   ·exact l _ _
   split
   ·exact l _ _
   split
   ·exact l _ _
   split
   ·split <;> exact l _ _
   ·rw[Fm.sz_eq];show 1+xS (l7 r scope args)≤_;omega
theorem Me(i:List Nat→Int)(scope:Int): ∀xs:List Ex,xS (l7 i scope xs)≤jQ xs
 | []=>by rw[l7,xS,jQ];exact Nat.le_refl _
 |x::xs=>by
  have r:=CD i scope x
  have D:=Me i scope xs
  rw[l7,xS,jQ];omega
end
section
variable(p:Int)
def usP(f:Fm):Prop:= ∀(b:T) (D r:List T),IsSl b f.args.length D→iS f.args D→f.sz≤100000→be pE 53 [.vp (.i .i64 f.op:: .i .i64 f.num::b::r),.i .i64 p] []=some (.b (f.us p),[])
theorem J3(op num:Int)(N:List T)(xs:List Fm)(ih: ∀y∈xs,usP p y)(a:T)(O:List T)(Y:IsSl a xs.length O)(hx:iS xs O)(hn:xS xs≤100000)(r:Bool)(hr:r=usL p xs)(o:Out)(U:o=if r then .ret else .ext 0)(fr:Fr)(lh:iq b8)(sh:List b8)
  (F:an fr 0= .vp (.i .i64 op:: .i .i64 num::a::N)) (H:an fr 1= .i .i64 p) (D:an fr 21= .i .i64 (xs.length:Int)) (Ja:an fr 22= .i .i64 0):
  wS 34 xe fr lh sh o∧
  ((r=true→an (tO pE 34 xe fr lh sh) 4= .b true)∧oH pE 34 xe fr lh sh=sh):=by
 refine jJ (P:=fun Z iR iT=>(r=true→an Z 4= .b true)∧iT=sh)
  (j6 (fun k st=> ∃(fr:Fr) (K:iq b8),st=⟨fr,K,sh⟩∧r=usL p (xs.drop k)∧an fr 0= .vp (.i .i64 op:: .i .i64 num::a::N)∧an fr 1= .i .i64 p∧an fr 21= .i .i64 (xs.length:Int)∧an fr 22= .i .i64 (k:Int)) _ xs.length ?_ ?_ 0 _ (Nat.zero_le _) ⟨fr,lh,rfl,hr,F,H,D,Ja⟩)
 ·rintro k _ hk ⟨fr,K,rfl,hr,F,H,D,Ja⟩
  have V:(k:Int)<xs.length:=by omega
  have W:=Md xs
  have hyk:=E3 (List.getElem_mem hk)
  have hw:=ji (k:=k) (oy (by omega))
  obtain⟨b,cb,r2,X,m9,sx⟩:=X1 Y hx k hk
  have I:=ih xs[k] (List.getElem_mem hk) b cb r2 m9 sx (by omega)
  rw[List.drop_eq_getElem_cons hk,usL]at hr
  generalize xs[k]=y at*
  cases J:y.us p with
  |true=>
   right
   rw[J]at I
   rw[J,Bool.true_or]at hr
   simp only[qA,seval,xe,F,H,D,Ja,V,X,I,apR]
   refine⟨_,_,UE,rfl,by rw[U,hr];rfl,fun _=> ?_,rfl⟩
   simp only[qA,seval]
  |false=>
   left
   rw[J]at I
   rw[J,Bool.false_or]at hr
   simp only[qA,seval,xe,F,H,D,Ja,V,X,I,apR,hw]
   refine⟨_,rfl,_,_,rfl,hr, ?_, ?_, ?_, ?_⟩ <;> simp only[qA,seval,F,H,D]
 ·rintro _ ⟨fr,K,rfl,hr,F,H,D,Ja⟩
  rw[List.drop_length,usL]at hr
  simp only[qA,seval,xe,D,Ja,Int.lt_irrefl]
  exact⟨_,_,uO,rfl,by rw[U,hr];rfl,fun h=>(by rw[hr]at h;cases h),rfl⟩
theorem afZ(f:Fm):usP p f:=by
 induction f using Fm.ind with
 |h f ih=>
  intro b J r F ZX U
  rw[il ahk (by simp[c53]),Fm.us_eq]
  have hs:=f.sz_eq
  by_cases i:f.op=6
  ·simp only[qA,seval,c53,i]
  ·have D:=fun fr lh sh K N H Ja=>J3 p f.op f.num r f.args (fun y O=>ih y O) b J F ZX (by omega) _ rfl _ rfl fr lh sh K N H Ja
   rw[if_neg i]
   cases I:usL p f.args with
   |true=>
    rw[I]at D
    simp only[qA,seval,c53,i,F.lenI,D]
   |false=>
    rw[I]at D
    simp only[qA,seval,c53,i,F.lenI,D]
end
theorem jY(R:List b8)(i j:Nat)(e:b8):iz (iH R i e) j=if j=i then e else iz R j:=sD _ _ _ _ _
theorem ko: ∀(R:List b8) (i:Nat) (a b:b8),iH (iH R i a) i b=iH R i b
 | [],0,a,b=>rfl
 | [],i+1,a,b=>by
   have:=ko [] i a b
   grind [iH,sa]
 |x::R,0,a,b=>rfl
 |x::R,i+1,a,b=>by simp_all[sU,ko]
theorem Br: ∀(R:List b8) (e:b8),(iH R R.length e).length=R.length+1
 | [],e=>rfl
 |x::R,e=>by simp_all[List.length_cons,sU,Br]
section
variable(lT:T)(m:List (List Nat×Nat))(kn:List (Nat×Int))(R:List b8)
theorem GL(i:Nat):iz (lL lT m kn R) (i+7)=iz R i:=nr rfl
theorem sY(i:Nat)(e:b8):iH (lL lT m kn R) (i+7) e=lL lT m kn (iH R i e):=nr rfl
theorem GM:(lL lT m kn R).length=R.length+7:=nr (by unfold lL;rw[List.length_append];show 7+R.length=_;omega)
end
def ZW(u:List Nat×Fm)(c:List T):Prop:= ∃i,c= .s u.1::i∧oB u.2 i
theorem ZW.len(u:List Nat×Fm)(c:List T)(h:ZW u c):c.length=4:=by obtain⟨i,rfl,h⟩:=h;rw[List.length_cons,h.len]
abbrev RL:=List (List Nat×Fm)
def Ac(sz:Nat)(l:RL)(cs:List T):Prop:=(if sz=4 then iA ZW l cs else iS (l.map Prod.snd) cs)∧ ∀u∈l,u.2.sz≤1000
theorem Ac.sz{sz:Nat}{l:RL}{cs:List T}(h:Ac sz l cs){u:List Nat×Fm}(i:u.2.sz≤1000): ∀v∈l++ [u],v.2.sz≤1000:=fun v hv=>by
 rcases List.mem_append.1 hv with hv|hv
 ·exact h.2 v hv
 ·grind
theorem Ac.app4{l:RL}{cs:List T}(h:Ac 4 l cs)(u:List Nat×Fm)(c:List T)(hc:ZW u c)(r:u.2.sz≤1000):Ac 4 (l++ [u]) (cs++c):=by
 refine⟨?_,h.sz r⟩
 have i:=h.1
 rw[if_pos rfl]at i ⊢
 exact iA.append i (iA.one hc)
theorem Ac.app3{l:RL}{cs:List T}(h:Ac 3 l cs)(u:List Nat×Fm)(c:List T)(hc:oB u.2 c)(r:u.2.sz≤1000):Ac 3 (l++ [u]) (cs++c):=by
 refine⟨?_,h.sz r⟩
 have i:=h.1
 rw[if_neg (by decide)]at i ⊢
 rw[List.map_append]
 exact iS.append i (iS.one hc)
theorem Ac.nil(sz:Nat):Ac sz [] []:=by
 refine⟨?_,by simp⟩
 split
 ·rfl
 ·exact iS.nil
def RwK(R:List b8)(B:Nat)(p:Nat×T×RL):Prop:=(p.2.1= .nilsl∧p.2.2= [])∨ ∃i g n cs,p.2.1= .isl .S (i+7) g 0 n p.1∧iz R i=⟨g,.cells cs 0 false⟩∧i<R.length∧n*p.1=cs.length∧n≤B∧Ac p.1 p.2.2 cs
def kyZ:T→Option Nat
 | .isl .S k _ _ _ _=>some k
 |_=>none
theorem qC{k g o n s:Nat}:kyZ (.isl .S k g o n s)=some k:=rfl
def lK(R:List b8)(B:Nat)(r:List (Nat×T×RL)):Prop:=(∀p∈r,RwK R B p)∧ ∀i j:Nat,∀(hi:i<r.length) (D:j<r.length),i≠j→kyZ r[i].2.1=none∨kyZ r[i].2.1≠kyZ r[j].2.1
theorem RwK.mono{R:List b8}{B B':Nat}{p:Nat×T×RL}(h:RwK R B p)(J:B≤B'):RwK R B' p:=by
 rcases h with h|⟨i,g,n,cs,r,D,F,H,K,I⟩
 ·exact .inl h
 ·exact .inr ⟨i,g,n,cs,r,D,F,H,by omega,I⟩
theorem lK.mono{R:List b8}{B B':Nat}{i:List (Nat×T×RL)}(h:lK R B i)(r:B≤B'):lK R B' i:=⟨fun p D=>(h.1 p D).mono r,h.2⟩
theorem lK.new{R:List b8}{B:Nat}{D:List (Nat×T×RL)}(h:lK R B D)(O:1≤B)(j:Nat)(Z:j<D.length){sz:Nat}(po:D[j].1=sz)(F:List T)(U:F.length=sz)(l:RL)(V:Ac sz l F):
  lK (iH R R.length ⟨1,.cells F 0 false⟩) B (D.set j (sz,.isl .S (R.length+7) 1 0 1 sz,l)):=by
 have ZM: ∀p∈D,RwK (iH R R.length ⟨1,.cells F 0 false⟩) B p∧kyZ p.2.1≠some (R.length+7):=by
  intro p H
  rcases h.1 p H with r|⟨i,g,n,cs,r,I,h3,W,X,Y⟩
  ·exact⟨.inl r,by rw[r.1];simp[kyZ]⟩
  ·refine⟨.inr ⟨i,g,n,cs,r, ?_, ?_,W,X,Y⟩,by rw[r,qC];simp;omega⟩
   ·grind [jY]
   ·rw[Br];omega
 refine⟨fun p H=> ?_,fun a b J N K=> ?_⟩
 ·rcases List.mem_or_eq_of_mem_set H with H|rfl
  ·grind
  ·exact .inr ⟨R.length,1,1,F,rfl,by rw[jY,if_pos rfl],by rw[Br];omega,by simp[U],O,V⟩
 ·rw[List.length_set]at J N
  rw[List.getElem_set,List.getElem_set]
  by_cases r:j=a
  ·grind [qC]
  ·rw[if_neg r]
   by_cases I:j=b
   ·rw[if_pos I]
    right
    rw[qC]
    exact(ZM D[a] (List.getElem_mem J)).2
   ·rw[if_neg I];exact h.2 a b J N K
theorem lK.app{R:List b8}{B:Nat}{D:List (Nat×T×RL)}(h:lK R B D)(j:Nat)(J:j<D.length){sz i g n:Nat}{cs:List T}(po:D[j].1=sz)(K:D[j].2.1= .isl .S (i+7) g 0 n sz)(hE:iz R i=⟨g,.cells cs 0 false⟩)(hi:i<R.length)(W:n*sz=cs.length)(hB:n≤B)(H:List T)(X:H.length=sz)(l:RL)(Y:Ac sz l (cs++H))(I:Nat):
  lK (iH R i ⟨I,.cells (cs++H) 0 false⟩) (B+1) (D.set j (sz,.isl .S (i+7) I 0 (n+1) sz,l)):=by
 have U:(iH R i ⟨I,.cells (cs++H) 0 false⟩).length=R.length:=jM _ _ _ hi
 refine⟨fun p Z=> ?_,fun a b r N O=> ?_⟩
 ·obtain⟨a,r,rfl⟩:=List.getElem_of_mem Z
  rw[List.length_set]at r
  rw[List.getElem_set]
  by_cases F:j=a
  ·rw[if_pos F]
   exact .inr ⟨i,I,n+1,cs++H,rfl,by rw[jY,if_pos rfl],by rw[U];exact hi,by rw[List.length_append,X,Nat.add_mul,W,Nat.one_mul],by omega,Y⟩
  ·rw[if_neg F]
   have hd:=h.2 j a J r F
   rw[K,qC]at hd
   rcases h.1 D[a] (List.getElem_mem r)with q|⟨i',g2,n',Tj,q1,q2,q3,q4,q5,q6⟩
   ·exact .inl q
   ·refine .inr ⟨i',g2,n',Tj,q1, ?_,by rw[U];exact q3,q4,by omega,q6⟩
    rw[q1,qC]at hd
    rw[jY,if_neg (fun e=>by subst e;rcases hd with hd|hd <;> simp at hd)]
    exact q2
 ·rw[List.length_set]at r N
  rw[List.getElem_set,List.getElem_set]
  by_cases F:j=a
  ·rw[if_pos F,if_neg (by omega)]
   have:=h.2 j b J N (by omega)
   rw[K,qC]at this
   rw[qC];exact this
  ·rw[if_neg F]
   by_cases V:j=b
   ·rw[if_pos V]
    have:=h.2 a j r J (by omega)
    rw[K,qC]at this
    rw[qC];exact this
   ·rw[if_neg V];exact h.2 a b r N O
end Go.Proofs.YtcpceiclnbmgiaaGreat
