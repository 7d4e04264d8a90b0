/- Walks of functions of the program and of the reference, and their plain laws, part 8. Conditions: the theorems' own. -/
import Derived.Test.YtcpceiclnbmgiaaGreatM7
import Derived.KernelRfl
set_option maxRecDepth 100000
set_option linter.unusedSimpArgs false
set_option linter.unusedVariables false
set_option maxHeartbeats 16000000
namespace Go.Proofs.YtcpceiclnbmgiaaGreat
open Go Go.Ev
def upC(c:Nat):Prop:=(65:Int)≤c∧(c:Int)≤90
instance (c:Nat):Decidable (upC c):=by unfold upC;infer_instance
def Zm(c:Nat):Bool:=decide (upC c∨HK c)
def PH(s:List Nat):Bool:=decide (1≤s.length)&&(decide (s.length≤8)&&s.all Zm)
def WZ(s:List Nat):Bool:=decide (s.length=3)&&s.all fun c=>decide (upC c)
structure Ap where
 cd:List Nat
 zn:List Nat
structure Fl where
 nu:List Nat
 fr:List Nat
 to:List Nat
 dp:Int
 ar:Int
 ty:List Nat
 n0:Int
 n1:Int
 n2:Int
structure Tt where
 zo:List Zo
 ap:List Ap
 fl:List Fl
def MT(z:Zo)(c:List T):Prop:= ∃a r,c= [.s z.nm,.i .i64 z.o,a]∧IsSl a z.sh.length r∧iA ZL z.sh r
def ApR(u:Ap)(c:List T):Prop:=c= [.s u.cd,.s u.zn]
def IV(f:Fl):List T:= [.s f.nu,.s f.fr,.s f.to,.i .i64 f.dp,.i .i64 f.ar,.s f.ty,.i .i64 f.n0,.i .i64 f.n1,.i .i64 f.n2]
def RX(f:Fl)(c:List T):Prop:=c=IV f
theorem MT.len(z:Zo)(c:List T)(h:MT z c):c.length=3:=by obtain⟨a,i,rfl,_⟩:=h;rfl
theorem ApR.len(u:Ap)(c:List T)(h:ApR u c):c.length=2:=by rw[h];rfl
theorem RX.len(f:Fl)(c:List T)(h:RX f c):c.length=9:=by rw[h];rfl
theorem agk{xs:List Zo}{a:T}{H:List T}(I:IsSl a xs.length H)(J:iA MT xs H)(i:Nat)(hi:i<xs.length): ∃D F r,(∀kk,lR a (.i kk (i:Int)) 3=some (.vp (.s xs[i].nm:: .i .i64 xs[i].o::D::r)))∧IsSl D xs[i].sh.length F∧iA ZL xs[i].sh F:=by
 obtain⟨c,r,e,h⟩:=pt (k:=3) MT.len I J i hi
 obtain⟨D,F,rfl,K,N⟩:=h
 exact⟨D,F,r,e,K,N⟩
theorem agl{xs:List Ap}{a:T}{D:List T}(F:IsSl a xs.length D)(H:iA ApR xs D)(i:Nat)(hi:i<xs.length): ∃r,∀kk,lR a (.i kk (i:Int)) 2=some (.vp (.s xs[i].cd:: .s xs[i].zn::r)):=by
 obtain⟨c,r,e,h⟩:=pt (k:=2) ApR.len F H i hi
 rw[ApR]at h
 subst h
 exact⟨r,e⟩
theorem Xa{xs:List Fl}{a:T}{D:List T}(F:IsSl a xs.length D)(H:iA RX xs D)(i:Nat)(hi:i<xs.length): ∃r,∀kk,lR a (.i kk (i:Int)) 9=some (.vp (.s xs[i].nu:: .s xs[i].fr:: .s xs[i].to:: .i .i64 xs[i].dp:: .i .i64 xs[i].ar:: .s xs[i].ty:: .i .i64 xs[i].n0:: .i .i64 xs[i].n1:: .i .i64 xs[i].n2::r)):=by
 obtain⟨c,r,e,h⟩:=pt (k:=9) RX.len F H i hi
 rw[RX]at h
 subst h
 exact⟨r,e⟩
def RV(seen:List (List Nat)):List Zo→Int
 | []=>0
 |z::r=>if oD z≠0 then oD z else if z.nm∈seen then 7 else RV (seen++ [z.nm]) r
def RW(i seen:List (List Nat)):List Ap→Int
 | []=>0
 |a::r=>if WZ a.cd=false then 1 else if a.cd∈seen then 7 else if a.zn∉i then 6 else RW i (seen++ [a.cd]) r
def BK(n:Int):Bool:=decide (0≤n)&&decide (n≤8)
def RY(f:Fl):Bool:=decide (2880≤f.dp)&&(decide (f.ar≤52593120)&&(decide (f.dp<f.ar)&&decide (f.ar-f.dp≤1440)))
def KP(i:List (List Nat))(f:Fl):Int:=
 if PH f.nu=false then 1 else if oe f.ty=false then 1 else if f.fr∉i then 6 else if f.to∉i then 6 else if f.fr=f.to then 14 else if RY f=false then 5 else if(BK f.n0&&(BK f.n1&&BK f.n2))=false then 5 else 0
def Nu(f g:Fl):Bool:=if f.dp≠g.dp then decide (f.dp<g.dp)else wv f.nu g.nu
def IN(D:List (List Nat))(i:Option Fl):List Fl→Int
 | []=>0
 |f::r=>if KP D f≠0 then KP D f else if(match i with|some p=> !Nu p f|none=>false)=true then 8 else IN D (some f) r
def Tt.big(t:Tt):Prop:=16<t.zo.length∨64<t.ap.length∨200<t.fl.length
def uo(t:Tt):Int:=
 if 16<t.zo.length then 10 else if 64<t.ap.length then 10 else if 200<t.fl.length then 10 else if RV [] t.zo≠0 then RV [] t.zo else if RW (t.zo.map Zo.nm) [] t.ap≠0 then RW (t.zo.map Zo.nm) [] t.ap else IN (t.ap.map Ap.cd) none t.fl
def Ti(seen:List (List Nat)):List T:=(seen.map fun x=>(x,true)).map fun p=>sK p.1
def Tj(seen:List (List Nat)):List T:=(seen.map fun x=>(x,true)).map fun p=>T.b p.2
theorem LM(seen:List (List Nat))(s:List Nat):nz (.one .str) (Ti seen) (Tj seen) (.s s) (.b false) false=some (.b (decide (s∈seen))):=IB seen s
theorem Zn(seen:List (List Nat))(s:List Nat)(h:s∉seen):qE (.one .str) (.s s) (.b true) (Ti seen) (Tj seen)=some (Ti (seen++ [s]),Tj (seen++ [s])):=ET seen s h
theorem LN{α β:Type}(f:α→β){l:List α}{k:Nat}(hk:k<l.length):(l.take (k+1)).map f=(l.take k).map f++ [f l[k]]:=by rw[List.take_succ_eq_append_getElem hk,List.map_append];rfl
theorem auZ(s:List Nat)(hs:s.length≤8)(fr:Fr)(lh:iw b8)(sh:List b8)(K:an fr 0= .s s)(J:an fr 14= .i .i64 (s.length:Int))(N:an fr 15= .i .i64 0):
  LpC pE 37 ye fr lh sh 0 2 (s.all Zm=true) (.b false) (fun F H=>H=sh):=by
 refine xm Qv (by simp[iT]) (fun k f F H=>an f 15= .i .i64 (k:Int)∧H=sh∧s.all Zm=(s.drop k).all Zm) s.length ⟨N,rfl,rfl⟩ ?_ ?_
 ·rintro k f F _ hk D ⟨I,rfl,hr⟩
  have O:(k:Int)<s.length:=by omega
  have U:=iO (k:=k) (by omega)
  have r:=Gx hk
  rw[List.drop_eq_getElem_cons hk,List.all_cons]at hr
  simp only[qB,seval,gd,ye,D,K,J,I,O,r,U]
  clear D r
  unfold Zm upC HK at*
  grind
 ·rintro f F _ D ⟨I,rfl,hr⟩
  rw[List.drop_length,List.all_nil]at hr
  simp only[qB,seval,gd,ye,D,J,I,Int.lt_irrefl,hr]
theorem Zp(s:List Nat):be pE 136 [.s s] []=some (.b (PH s),[]):=by
 rw[il aeg (by simp[Qw])]
 unfold PH
 by_cases h:s.length≤8
 ·have i:=auZ s h
  simp only[qB,seval,Qw,i]
  clear i
  grind
 ·simp only[qB,seval,Qw]
  grind
theorem au0(s:List Nat)(hs:s.length=3)(fr:Fr)(lh:iw b8)(sh:List b8)(K:an fr 0= .s s)(J:an fr 8= .i .i64 (s.length:Int))(N:an fr 9= .i .i64 0):
  LpC pE 23 C4 fr lh sh 0 2 ((s.all fun c=>decide (upC c))=true) (.b false) (fun F H=>H=sh):=by
 refine xm Tw (by simp[iT]) (fun k f F H=>an f 9= .i .i64 (k:Int)∧H=sh∧(s.all fun c=>decide (upC c))=(s.drop k).all fun c=>decide (upC c)) s.length ⟨N,rfl,rfl⟩ ?_ ?_
 ·rintro k f F _ hk D ⟨I,rfl,hr⟩
  have O:(k:Int)<s.length:=by omega
  have U:=iO (k:=k) (by omega)
  have r:=Gx hk
  rw[List.drop_eq_getElem_cons hk,List.all_cons]at hr
  simp only[qB,seval,gd,C4,D,K,J,I,O,r,U]
  clear D r
  unfold upC at*
  grind
 ·rintro f F _ D ⟨I,rfl,hr⟩
  rw[List.drop_length,List.all_nil]at hr
  simp only[qB,seval,gd,C4,D,J,I,Int.lt_irrefl,hr]
theorem adP(s:List Nat):be pE 85 [.s s] []=some (.b (WZ s),[]):=by
 rw[il apY (by simp[c85])]
 unfold WZ
 by_cases i:s.length=3
 ·have r:=au0 s i
  rw[i]at r
  simp only[qB,seval,c85,i,r]
  clear r
  grind
 ·have Du: ¬(s.length:Int)=3:=by omega
  simp only[qA,seval,c85,i,Du]
theorem aCl(r D F:Int)(fr:Fr)(lh:iw b8)(sh:List b8)(I:an fr 62= .agg [.i .i64 r,.i .i64 D,.i .i64 F])(BT:an fr 63= .i .i64 0):
  xl pE 73 C5 fr lh sh 1 4 (if [r,D,F].all BK then 0 else 5) (fun J K=>K=sh):=by
 refine kj Tx (fun k f J K=>an f 63= .i .i64 (k:Int)∧K=sh∧ [r,D,F].all BK=([r,D,F].drop k).all BK) 3 ⟨BT,rfl,rfl⟩ ?_ ?_
 ·rintro k f J _ hk H ⟨N,rfl,hr⟩
  have hc:k=0∨k=1∨k=2:=by omega
  unfold BK at*
  rcases hc with rfl|rfl|rfl <;> simp only[qB,seval,gd,aaS,C5,H,I,N,Int.ofNat_zero,Int.ofNat_one] <;> clear H <;> simp at hr ⊢ <;> grind
 ·rintro f J _ H ⟨N,rfl,hr⟩
  simp only[qB,seval,gd,C5,H,N,Int.lt_irrefl,hr]
theorem alc(r:List (List Nat))(f:Fl):be pE 86 [.agg (IV f),.vm (Ti r) (Tj r)] []=some (.i .i64 (KP r f),[]):=by
 have D:=kq (Zp f.nu)
 have F:=kq (zd f.ty)
 have H:=LM r f.fr
 have I:=LM r f.to
 have J:=aCl f.n0 f.n1 f.n2
 have O:= @jw (f.ar-f.dp)
 rw[il ap0 (by simp[c86])]
 unfold KP IV
 by_cases K:f.fr∈r <;> by_cases N:f.to∈r <;> simp only[qB,seval,c86,D,F,aqp,JJ,H,I,K,N,J]
 all_goals clear J D F H I
 all_goals try unfold RY
 all_goals grind (splits:=30)
theorem adQ(f g:Fl):be pE 87 [.agg (IV f),.agg (IV g)] []=some (.b (Nu f g),[]):=by
 rw[il ag0 (by simp[c87])]
 unfold Nu IV
 by_cases h:f.dp=g.dp <;> simp only[qA,seval,c87,h]
theorem aCm(l:List Zo)(a:T)(O:List T)(ha:IsSl a l.length O)(hc:iA MT l O)(U:l.length≤100)(g:Nat)(J To:b8)(fr:Fr)(lh:iw b8)(sh:List b8)
  (V:an fr 3= .mp .L 29 g) (H:an fr 31=a) (BF:an fr 32= .i .i64 (l.length:Int)) (D9:an fr 33= .i .i64 0) (D:b7 lh 1=J) (LO:b7 lh 29=⟨g,.map [] [] false⟩) (CH:b7 lh 50=To):
  xl pE 106 Ad fr lh sh 0 2 (RV [] l) (fun r K=>(RV [] l=0→b7 r 29=⟨g,.map (Ti (l.map Zo.nm)) (Tj (l.map Zo.nm)) false⟩)∧b7 r 1=J∧b7 r 50=To∧K=sh):=by
 refine kj I7 (fun k f r K=>an f 33= .i .i64 (k:Int)∧b7 r 29=⟨g,.map (Ti ((l.take k).map Zo.nm)) (Tj ((l.take k).map Zo.nm)) false⟩∧b7 r 1=J∧b7 r 50=To∧K=sh∧RV [] l=RV ((l.take k).map Zo.nm) (l.drop k)) l.length ⟨D9,LO,D,CH,rfl,rfl⟩ ?_ ?_
 ·rintro k f r _ hk F ⟨I,LO,D,CH,rfl,hr⟩
  rw[List.drop_eq_getElem_cons hk,RV]at hr
  have W:(k:Int)<l.length:=by omega
  have hw:=iO (k:=k) (by omega)
  obtain⟨sT,sc,rr,X,N,Fg⟩:=agk ha hc k hk
  have Y:=D7 l[k] sT sc N Fg
  have Z:=LM ((l.take k).map Zo.nm) l[k].nm
  have n6:=Zn ((l.take k).map Zo.nm) l[k].nm
  have qv:=LN Zo.nm hk
  by_cases hs:l[k].nm∈(l.take k).map Zo.nm
  ·simp only[qB,seval,gd,Ad,F,V,H,BF,I,LO,D,CH,W,X,N.froz1,Y,aac,jF,Z,hs]
   clear F
   grind
  ·simp only[qB,seval,gd,Ad,F,V,H,BF,I,LO,D,CH,W,X,hw,N.froz1,Y,aac,jF,Z,hs,tE,BB,n6 hs,qv]
   clear F
   grind
 ·rintro f r _ F ⟨I,LO,D,CH,rfl,hr⟩
  rw[List.take_length]at LO
  simp only[qB,seval,gd,Ad,F,BF,I,LO,D,CH,Int.lt_irrefl,hr,List.drop_length,RV]
  exact fun _=>trivial
theorem aCn(r:List (List Nat))(l:List Ap)(a:T)(U:List T)(ha:IsSl a l.length U)(hc:iA ApR l U)(V:l.length≤100)(g g3:Nat)(J:b8)(fr:Fr)(lh:iw b8)(sh:List b8)
  (h3:an fr 3= .mp .L 29 g3) (W:an fr 7= .mp .L 50 g) (S1:an fr 52=a) (K:an fr 53= .i .i64 (l.length:Int)) (ue:an fr 54= .i .i64 0) (F:b7 lh 1=J) (LO:b7 lh 29=⟨g3,.map (Ti r) (Tj r) false⟩) (CH:b7 lh 50=⟨g,.map [] [] false⟩):
  xl pE 106 Ac fr lh sh 2 2 (RW r [] l) (fun D N=>(RW r [] l=0→b7 D 50=⟨g,.map (Ti (l.map Ap.cd)) (Tj (l.map Ap.cd)) false⟩)∧b7 D 1=J∧N=sh):=by
 refine kj I6 (fun k f D N=>an f 54= .i .i64 (k:Int)∧b7 D 50=⟨g,.map (Ti ((l.take k).map Ap.cd)) (Tj ((l.take k).map Ap.cd)) false⟩∧b7 D 1=J∧b7 D 29=⟨g3,.map (Ti r) (Tj r) false⟩∧N=sh∧RW r [] l=RW r ((l.take k).map Ap.cd) (l.drop k)) l.length ⟨ue,CH,F,LO,rfl,rfl⟩ ?_ ?_
 ·rintro k f D _ hk H ⟨I,CH,F,LO,rfl,hr⟩
  rw[List.drop_eq_getElem_cons hk,RW]at hr
  have X:(k:Int)<l.length:=by omega
  have hw:=iO (k:=k) (by omega)
  obtain⟨rr,Y⟩:=agl ha hc k hk
  have Z:=kq (adP l[k].cd)
  have mb:=LM ((l.take k).map Ap.cd) l[k].cd
  have n6:=Zn ((l.take k).map Ap.cd) l[k].cd
  have O:=LM r l[k].zn
  have qv:=LN Ap.cd hk
  by_cases hs:l[k].cd∈(l.take k).map Ap.cd
  ·simp only[qB,seval,gd,Ac,H,W,S1,K,I,CH,F,LO,X,Y,Z,apZ,jF,mb,hs]
   clear H
   grind
  ·by_cases hz:l[k].zn∈r <;> simp only[qB,seval,gd,Ac,H,h3,W,S1,K,I,CH,F,LO,X,Y,hw,Z,apZ,jF,mb,hs,O,hz,tE,BB,n6 hs,qv] <;> clear H <;> grind
 ·rintro f D _ H ⟨I,CH,F,LO,rfl,hr⟩
  rw[List.take_length]at CH
  simp only[qB,seval,gd,Ac,H,K,I,CH,F,Int.lt_irrefl,hr,List.drop_length,RW]
  exact fun _=>trivial
def zR(l:List Fl)(k:Nat):Option Fl:=if k=0 then none else l[k-1]?
theorem SU{l:List Fl}{k:Nat}(i:0<k)(hk:k-1<l.length):zR l k=some l[k-1]:=by
 unfold zR;rw[if_neg (by omega),List.getElem?_eq_getElem hk]
theorem ald(i:List (List Nat)){l:List Fl}{k:Nat}(hk:k<l.length):IN i (zR l k) (l.drop k)=if KP i l[k]≠0 then KP i l[k]else if(match zR l k with|some p=> !Nu p l[k]|none=>false)=true then 8 else IN i (zR l (k+1)) (l.drop (k+1)):=by
 have e:zR l (k+1)=some l[k]:=by unfold zR;rw[if_neg (by omega),Nat.add_sub_cancel,List.getElem?_eq_getElem hk]
 rw[List.drop_eq_getElem_cons hk,e]
 conv=>lhs;unfold IN
 try rfl
theorem aCo(r:List (List Nat))(W X:T)(l:List Fl)(a:T)(Y:List T)(Z:IsSl a l.length Y)(hc:iA RX l Y)(hlen:l.length≤1000)(g:Nat)(fr:Fr)(lh:iw b8)(sh:List b8)
  (h1:an fr 1= .ptr .L 1 1 0) (h7:an fr 7= .mp .L 50 g) (H:an fr 79=a) (D:an fr 80= .i .i64 (l.length:Int)) (N:an fr 81= .i .i64 0) (I:b7 lh 1=⟨1,.cells [W,X,a] 0 true⟩) (CH:b7 lh 50=⟨g,.map (Ti r) (Tj r) false⟩):
  xl pE 106 Ab fr lh sh 5 2 (IN r none l) (fun J O=>O=sh):=by
 refine kj Tn (fun k f J O=>an f 81= .i .i64 (k:Int)∧b7 J 1=⟨1,.cells [W,X,a] 0 true⟩∧(∃wm,b7 J 50=⟨g,.map (Ti r) (Tj r) wm⟩)∧O=sh∧IN r none l=IN r (zR l k) (l.drop k)) l.length ⟨N,I,⟨_,CH⟩,rfl,rfl⟩ ?_ ?_
 ·rintro k f J _ hk F ⟨K,I,⟨wm,CH⟩,rfl,hr⟩
  rw[ald r hk]at hr
  have iW:(k:Int)<l.length:=by omega
  have hw:=iO (k:=k) (by omega)
  obtain⟨rr,je⟩:=Xa Z hc k hk
  have U:=alc r l[k]
  unfold IV at U
  by_cases LX:k=0
  ·have V: ¬(0:Int)<k:=by omega
   have hp:zR l k=none:=by rw[LX];rfl
   simp only[qB,seval,gd,jG,Ab,F,h7,H,D,K,I,CH,iW,je,hw,U,ap1,V]
   clear F
   grind
  ·have V:(0:Int)<k:=by omega
   have S7:=tQ (k:=k) (by omega) (by omega)
   obtain⟨r2,YN⟩:=Xa Z hc (k-1) (by omega)
   have hb:=kq (adQ l[k-1] l[k])
   have hp:=SU (l:=l) (k:=k) (by omega) (by omega)
   unfold IV at hb
   simp only[qB,seval,gd,jG,iE,Ab,F,h1,h7,H,D,K,I,CH,iW,je,hw,U,ap1,V,S7,YN,hb,axM,axN]
   clear F
   grind
 ·rintro f J _ F ⟨K,I,⟨wm,CH⟩,rfl,hr⟩
  simp only[qB,seval,gd,Ab,F,D,K,Int.lt_irrefl,hr,List.drop_length,IN]
structure uf (t:Tt) (zT aT fT:T):Prop where
 z: ∃c,IsSl zT t.zo.length c∧iA MT t.zo c
 a: ∃c,IsSl aT t.ap.length c∧iA ApR t.ap c
 f: ∃c,IsSl fT t.fl.length c∧iA RX t.fl c
theorem MW(t:Tt)(r D F:T)(W:uf t r D F):be pE 49 [.agg [r,D,F]] []=some (.i .i64 (uo t),[]):=by
 obtain⟨⟨X,H,Y⟩,⟨ac,a1,a2⟩,⟨Z,I,f2⟩⟩:=W
 rw[il apt (by simp[c49])]
 unfold uo
 by_cases q:t.zo.length≤16∧t.ap.length≤64∧t.fl.length≤200
 ·have O:=fun fr lh sh J K BF D9 N LO CH=>lpO (aCm t.zo r X H Y (by omega) 1 ⟨1,.cells [r,D,F] 0 true⟩ ⟨0,.none⟩ fr lh sh J K BF D9 N LO CH) (by simp)
  have U:=fun fr lh sh J h7 S1 tM ue N LO CH=>lpO (aCn (t.zo.map Zo.nm) t.ap D ac a1 a2 (by omega) 1 1 ⟨1,.cells [r,D,F] 0 true⟩ fr lh sh J h7 S1 tM ue N LO CH) (by simp)
  have V:=aCo (t.ap.map Ap.cd) r D t.fl F Z I f2 (by omega) 1
  simp(maxDischargeDepth:=6) only[qB,seval,c49,I6,I7,H.lenI,a1.lenI,I.lenI,O,U,V]
  clear O U V
  grind
 ·simp only[qB,seval,c49,H.lenI,a1.lenI,I.lenI]
  grind
def ixA(s:List Nat):List (List Nat)→Nat→Int
 | [],_=> -1
 |x::r,k=>if x=s then(k:Int)else ixA s r (k+1)
theorem Pl(s:List Nat): ∀(l:List (List Nat)) (k:Nat),ixA s l k<0↔s∉l
 | [],k=>by simp[ixA]
 |x::r,k=>by
  rw[ixA]
  by_cases h:x=s
  ·rw[if_pos h];subst h;simp
  ·rw[if_neg h,Pl s r (k+1)]
   simp[Ne.symm h]
theorem Xx(s:List Nat): ∀(ns:List (List Nat)) (k:Nat),ixA s ns k<0→ixA s ns k= -1
 | [],_,_=>rfl
 |x::ns,k,h=>by
  rw[ixA]at h ⊢
  by_cases e:x=s
  ·rw[if_pos e]at h;omega
  ·rw[if_neg e]at h ⊢; exact Xx s ns _ h
def A1(sz:Nat):T→Bool
 | .sl i 1 _=>decide (i.length=sz∧0<sz)
 |_=>false
def Ej(sz:Nat):T→Bool
 | .nilsl=>true
 | .isl .S _ _ 0 _ i=>decide (i=sz)
 |_=>false
def Qn(sh:List b8)(k bytes g len sz:Nat)(i:List T)(e:b8):Option (T×List b8):=match e.ob with
 | .cells cs wm false=>if e.g=g∧len*sz=cs.length∧(len+1)*bytes≤roomy then some (.isl .S k (g+1) 0 (len+1) sz,iH sh k ⟨g+1,.cells (cs++i) wm false⟩)else none
 |_=>none
def ale(sh:List b8)(bytes sz:Nat):T→T→Option (T×List b8)
 | .nilsl,.sl i 1 _=>if bytes≤roomy then some (.isl .S sh.length 1 0 1 sz,iH sh sh.length ⟨1,.cells i 0 false⟩)else none
 | .isl .S k g 0 len _,.sl i 1 _=>Qn sh k bytes g len sz i (iz sh k)
 |_,_=>none
theorem iK{sz:Nat}{i:List T}{ex:Bool}:A1 sz (.sl i 1 ex)=decide (i.length=sz∧0<sz):=nr rfl
theorem jx{sz:Nat}:Ej sz .nilsl=true:=nr rfl
theorem jt{k g len sz i:Nat}:Ej sz (.isl .S k g 0 len i)=decide (i=sz):=nr rfl
theorem jQ{sh:List b8}{bytes sz:Nat}{i:List T}{ex:Bool}:ale sh bytes sz .nilsl (.sl i 1 ex)=if bytes≤roomy then some (.isl .S sh.length 1 0 1 sz,iH sh sh.length ⟨1,.cells i 0 false⟩)else none:=nr rfl
theorem jR{sh:List b8}{k g len bytes sz r:Nat}{i:List T}{ex:Bool}:ale sh bytes sz (.isl .S k g 0 len r) (.sl i 1 ex)=Qn sh k bytes g len sz i (iz sh k):=nr rfl
theorem jc{sh:List b8}{k g i len bytes wm sz:Nat}{r:List T}{cs:List T}:Qn sh k bytes g len sz r ⟨i,.cells cs wm false⟩=if i=g∧len*sz=cs.length∧(len+1)*bytes≤roomy then some (.isl .S k (g+1) 0 (len+1) sz,iH sh k ⟨g+1,.cells (cs++r) wm false⟩)else none:=nr rfl
theorem A2{sz:Nat}{t:T}(h:A1 sz t=true): ∃i ex,t= .sl i 1 ex∧i.length=sz∧0<sz:=by
 unfold A1 at h
 grind
theorem Ek{sz:Nat}{t:T}(h:Ej sz t=true):t= .nilsl∨ ∃k g len,t= .isl .S k g 0 len sz:=by
 unfold Ej at h
 grind
section
variable{E:Env}{call:pU}{n:Nat}{fr:Fr}{lh:iw b8}{sh:List b8}{ds:List (List Nat×dy)}{jJ:List FP}{d:Option Nat}{os:List dy}
theorem jV{r sz bytes:Nat}{s x:iF}(H:r<n)(hx:A1 sz (rd fr x)=true)(hs:Ej sz (rd fr s)=true):dE E call n (⟨some r,.app sz bytes s x true false,none⟩::os) ⟨fr,lh,sh⟩=
  (ale sh bytes sz (rd fr s) (rd fr x)).bind fun q=>dE E call n os ⟨kg fr r q.1,lh,q.2⟩:=by
 obtain⟨I,ex,hx,K,N⟩:=A2 hx
 have X4:I.length=1*sz:=by omega
 rw[pG (by rfl) (show EZ n (some r)from H)]
 unfold Ev.one
 rcases Ek hs with hs|⟨k,g,len,hs⟩
 ·simp only[jk,qD,jh,hs,hx,jL,X4,if_true,Q.run,Option.bind_some,jQ]
  simp only[Nat.succ_ne_zero,if_false,Nat.one_mul]
  by_cases i:bytes≤roomy
  ·simp only[if_pos i,nW,Q.run,if_true];rfl
  ·simp only[if_neg i,Q.run];rfl
 ·have OZ:(St.mk fr lh sh).get .S k=iz sh k:=rfl
  rw[hs,hx,jR]
  generalize O:iz sh k=e at*
  obtain⟨J,ob⟩:=e
  unfold Qn
  simp only[jk,qD,jh,hs,hx,jL,X4,if_true,Q.run,Option.bind_some]
  simp only[Nat.succ_ne_zero,if_false,decide_true,Bool.true_and,decide_eq_true_eq]
  by_cases i:(len+1)*bytes≤roomy
  ·simp only[Q.run,OZ,if_true,i,and_true]
   by_cases D:J=g
   ·subst D
    simp only[if_true,true_and]
    cases ob with
    |none=>simp only[Q.run];rfl
    |map _ _ _=>simp only[Q.run];rfl
    |cells cs wm bx=>
     cases bx with
     |true=>simp only[Q.run];rfl
     |false=>
      simp only[]
      by_cases F:len*sz=cs.length
      ·simp only[if_pos F,Q.run];rfl
      ·simp only[if_neg F,Q.run];rfl
   ·simp only[Q.run,D,false_and,if_false]
    cases ob with
    |none=>rfl
    |map _ _ _=>rfl
    |cells cs wm bx=>cases bx <;> rfl
  ·simp only[i,if_false,Q.run,and_false]
   cases ob with
   |none=>rfl
   |map _ _ _=>rfl
   |cells cs wm bx=>cases bx <;> rfl
def rP(n:Nat):T→FP
 | .isl .S k _ _ _ _=>⟨false,[(.S,k)],[(.S,k)]⟩
 |_=>⟨true,[],[(.S,n)]⟩
theorem iQ{rs i:List (Sp×Nat)}{m:Nat}{t:T}(r:LR rs=true)(D:LR i=true):apart ⟨false,rs,i⟩ (rP m t)=true:=by
 have q: ∀(xs:List (Sp×Nat)) (k:Nat),LR xs=true→(xs.all fun x=> !([(Sp.S,k)]:List (Sp×Nat)).contains x)=true:=by
  intro xs k h
  rw[List.all_eq_true]
  intro x hx
  have:=List.all_eq_true.1 h x hx
  grind
 have F: ∀(xs:List (Sp×Nat)),(xs.all fun x=> !([]:List (Sp×Nat)).contains x)=true:=by intro xs;rw[List.all_eq_true];intro x _;rfl
 unfold rP
 split
 ·unfold apart mh
  rw[q i _ D,q rs _ r];rfl
 ·unfold apart mh
  dsimp only
  rw[q i _ D,q rs _ r,F,r,D];rfl
theorem kl{u:List Nat}{D sz bytes:Nat}{s x:iF}(hx:A1 sz (rd fr x)=true)(hs:Ej sz (rd fr s)=true):iN E call n ((u,⟨some D,.app sz bytes s x true false,none⟩)::ds) jJ ⟨fr,lh,sh⟩=
  if meets u jJ (rP sh.length (rd fr s))=true then ke E call n ds (jJ++ [rP sh.length (rd fr s)]) (dE E call n [⟨some D,.app sz bytes s x true false,none⟩] ⟨fr,lh,sh⟩)else none:=by
 refine uk fun H=> ?_
 obtain⟨I,ex,hx,J,V⟩:=A2 hx
 have K:jL sz (rd fr x)= .ret (1,I):=by rw[hx];simp only[jL,Nat.one_mul,J,if_true]
 obtain⟨v,N,hr,i⟩:=wb (q:=qD D sz bytes (rd fr s) (rd fr x) true false) (by rfl) (by rw[lj];rfl) H
 unfold qD at hr i
 rw[K]at hr i
 simp only[Q.bind,Nat.one_ne_zero,if_false]at hr i
 rcases Ek hs with hs|⟨k,g,len,hs⟩
 ·rw[hs]at hr i ⊢
  simp only at hr i
  by_cases r:1*bytes≤roomy
  ·rw[if_pos r]at hr i
   simp only[nW,if_true,Q.run,Option.some.injEq,C9.val.injEq]at hr
   obtain⟨rfl,rfl⟩:=hr
   rw[i (by simp[nW,Q.asks])]
   rfl
  ·rw[if_neg r]at hr
   simp[Q.run]at hr
 ·rw[hs]at hr i ⊢
  simp only[decide_true,Bool.true_and,decide_eq_true_eq]at hr i
  by_cases r:(len+1)*bytes≤roomy
  ·rw[if_pos (by simp[r])]at hr i
   simp only[Q.run]at hr
   generalize F:(St.mk fr lh sh).get .S k=e at hr i
   obtain⟨W,ob⟩:=e
   simp only at hr
   split at hr
   ·rename_i O
    cases ob with
    |none=>simp[Q.run]at hr
    |map a b c=>simp[Q.run]at hr
    |cells SX wm bx=>
     cases bx with
     |true=>simp[Q.run]at hr
     |false=>
      simp only at hr
      split at hr
      ·rename_i U
       simp only[Q.run,Option.some.injEq,C9.val.injEq]at hr
       obtain⟨rfl,rfl⟩:=hr
       rw[i (by simp[inB,Bi,F])]
       simp only[Q.asks,Q.log,F,O,U,if_true,ki,List.map_cons,List.map_nil,rP]
      ·simp[Q.run]at hr
   ·simp[Q.run]at hr
  ·rw[if_neg (by simp[r])]at hr
   simp[Q.run]at hr
end
mutual
def Fm.us(p:Int):Fm→Bool
 | .mk op num args=>if op=6 then decide (num=p)else usL p args
def usL(p:Int):List Fm→Bool
 | []=>false
 |x::xs=>x.us p||usL p xs
end
theorem Fm.us_eq(p:Int)(x:Fm):x.us p=if x.op=6 then decide (x.num=p)else usL p x.args:=by obtain⟨_,_,_⟩:=x;rw[Fm.us];rfl
theorem LP: ∀xs:List Fm,xs.length≤xM xs
 | []=>by simp[xM]
 |x::xs=>by
  have i:=LP xs
  have r:=x.sz_eq
  rw[xM,List.length_cons];omega
mutual
theorem Ci(r:List Nat→Int)(scope:Int): ∀x:Ex,(comp r scope x).sz≤x.nodes
 | .mk op num name args=>by
   have h:=LQ r scope args
   rw[Ex.nodes_eq,rS]
   show Fm.sz (if op=1∨op=2∨op=3 then .mk 1 num []else if op=4 then .mk 1 1 []else if op=5 then .mk 1 0 []else if op=6 then(match Pm scope name with|some i=> .mk 6 (i:Int) []|none=> .mk 1 (r name) [])else .mk op 0 (lY r scope args))≤1+jP args
   have l: ∀(a b:Int),Fm.sz (.mk a b [])≤1+jP args:=fun a b=>by rw[Fm.sz_eq];show 1+xM []≤_;rw[xM];omega
   split
   ·exact l _ _
   split
   ·exact l _ _
   split
   ·exact l _ _
   split
   ·split <;> exact l _ _
   ·rw[Fm.sz_eq];show 1+xM (lY r scope args)≤_;omega
theorem LQ(i:List Nat→Int)(scope:Int): ∀xs:List Ex,xM (lY i scope xs)≤jP xs
 | []=>by rw[lY,xM,jP];exact Nat.le_refl _
 |x::xs=>by
  have r:=Ci i scope x
  have D:=LQ i scope xs
  rw[lY,xM,jP];omega
end
section
variable(p:Int)
def usP(f:Fm):Prop:= ∀(b:T) (D r:List T),IsSl b f.args.length D→iR f.args D→f.sz≤100000→be pE 53 [.vp (.i .i64 f.op:: .i .i64 f.num::b::r),.i .i64 p] []=some (.b (f.us p),[])
theorem JP(op num:Int)(K:List T)(xs:List Fm)(ih: ∀y∈xs,usP p y)(a:T)(N:List T)(X:IsSl a xs.length N)(hx:iR xs N)(hn:xM xs≤100000)(r:Bool)(hr:r=usL p xs)(o:Out)(O:o=if r then .ret else .ext 0)(fr:Fr)(lh:iw b8)(sh:List b8)
  (D:an fr 0= .vp (.i .i64 op:: .i .i64 num::a::K)) (F:an fr 1= .i .i64 p) (YY:an fr 21= .i .i64 (xs.length:Int)) (EB:an fr 22= .i .i64 0):
  wJ 34 wT fr lh sh o∧
  ((r=true→an (tD pE 34 wT fr lh sh) 4= .b true)∧ow pE 34 wT fr lh sh=sh):=by
 refine jH (P:=fun Y iU Z=>(r=true→an Y 4= .b true)∧Z=sh)
  (j6 (fun k st=> ∃(fr:Fr) (J:iw b8),st=⟨fr,J,sh⟩∧r=usL p (xs.drop k)∧an fr 0= .vp (.i .i64 op:: .i .i64 num::a::K)∧an fr 1= .i .i64 p∧an fr 21= .i .i64 (xs.length:Int)∧an fr 22= .i .i64 (k:Int)) _ xs.length ?_ ?_ 0 _ (Nat.zero_le _) ⟨fr,lh,rfl,hr,D,F,YY,EB⟩)
 ·rintro k _ hk ⟨fr,J,rfl,hr,D,F,YY,EB⟩
  have U:(k:Int)<xs.length:=by omega
  have V:=LP xs
  have hyk:=EP (List.getElem_mem hk)
  have hw:=ji (k:=k) (oi (by omega))
  obtain⟨b,cb,r2,W,mZ,sg⟩:=XB X hx k hk
  have H:=ih xs[k] (List.getElem_mem hk) b cb r2 mZ sg (by omega)
  rw[List.drop_eq_getElem_cons hk,usL]at hr
  generalize xs[k]=y at*
  cases I:y.us p with
  |true=>
   right
   rw[I]at H
   rw[I,Bool.true_or]at hr
   simp only[qA,seval,wT,D,F,YY,EB,U,W,H,apw]
   refine⟨_,_,Ud,rfl,by rw[O,hr];rfl,fun _=> ?_,rfl⟩
   simp only[qA,seval]
  |false=>
   left
   rw[I]at H
   rw[I,Bool.false_or]at hr
   simp only[qA,seval,wT,D,F,YY,EB,U,W,H,apw,hw]
   refine⟨_,rfl,_,_,rfl,hr, ?_, ?_, ?_, ?_⟩ <;> simp only[qA,seval,D,F,YY]
 ·rintro _ ⟨fr,J,rfl,hr,D,F,YY,EB⟩
  rw[List.drop_length,usL]at hr
  simp only[qA,seval,wT,YY,EB,Int.lt_irrefl]
  exact⟨_,_,uC,rfl,by rw[O,hr];rfl,fun h=>(by rw[hr]at h;cases h),rfl⟩
theorem afC(f:Fm):usP p f:=by
 induction f using Fm.ind with
 |h f ih=>
  intro b I r F ZI O
  rw[il agS (by simp[c53]),Fm.us_eq]
  have hs:=f.sz_eq
  by_cases i:f.op=6
  ·simp only[qA,seval,c53,i]
  ·have D:=fun fr lh sh J K YY EB=>JP p f.op f.num r f.args (fun y N=>ih y N) b I F ZI (by omega) _ rfl _ rfl fr lh sh J K YY EB
   rw[if_neg i]
   cases H:usL p f.args with
   |true=>
    rw[H]at D
    simp only[qA,seval,c53,i,F.lenI,D]
   |false=>
    rw[H]at D
    simp only[qA,seval,c53,i,F.lenI,D]
end
theorem jY(R:List b8)(i j:Nat)(e:b8):iz (iH R i e) j=if j=i then e else iz R j:=sq _ _ _ _ _
theorem ko: ∀(R:List b8) (i:Nat) (a b:b8),iH (iH R i a) i b=iH R i b
 | [],0,a,b=>rfl
 | [],i+1,a,b=>by
   have:=ko [] i a b
   grind [iH,rU]
 |x::R,0,a,b=>rfl
 |x::R,i+1,a,b=>by simp_all[sL,ko]
theorem Bf: ∀(R:List b8) (e:b8),(iH R R.length e).length=R.length+1
 | [],e=>rfl
 |x::R,e=>by simp_all[List.length_cons,sL,Bf]
section
variable(lT:T)(m:List (List Nat×Nat))(kn:List (Nat×Int))(R:List b8)
theorem GD(i:Nat):iz (lI lT m kn R) (i+7)=iz R i:=nr rfl
theorem sQ(i:Nat)(e:b8):iH (lI lT m kn R) (i+7) e=lI lT m kn (iH R i e):=nr rfl
theorem GF:(lI lT m kn R).length=R.length+7:=nr (by unfold lI;rw[List.length_append];show 7+R.length=_;omega)
end
def ZH(u:List Nat×Fm)(c:List T):Prop:= ∃i,c= .s u.1::i∧om u.2 i
theorem ZH.len(u:List Nat×Fm)(c:List T)(h:ZH u c):c.length=4:=by obtain⟨i,rfl,h⟩:=h;rw[List.length_cons,h.len]
abbrev RL:=List (List Nat×Fm)
def zU(sz:Nat)(l:RL)(cs:List T):Prop:=(if sz=4 then iA ZH l cs else iR (l.map Prod.snd) cs)∧ ∀u∈l,u.2.sz≤1000
theorem zU.sz{sz:Nat}{l:RL}{cs:List T}(h:zU sz l cs){u:List Nat×Fm}(i:u.2.sz≤1000): ∀v∈l++ [u],v.2.sz≤1000:=fun v hv=>by
 rcases List.mem_append.1 hv with hv|hv
 ·exact h.2 v hv
 ·grind
theorem zU.app4{l:RL}{cs:List T}(h:zU 4 l cs)(u:List Nat×Fm)(c:List T)(hc:ZH u c)(r:u.2.sz≤1000):zU 4 (l++ [u]) (cs++c):=by
 refine⟨?_,h.sz r⟩
 have i:=h.1
 rw[if_pos rfl]at i ⊢
 exact iA.append i (iA.one hc)
theorem zU.app3{l:RL}{cs:List T}(h:zU 3 l cs)(u:List Nat×Fm)(c:List T)(hc:om u.2 c)(r:u.2.sz≤1000):zU 3 (l++ [u]) (cs++c):=by
 refine⟨?_,h.sz r⟩
 have i:=h.1
 rw[if_neg (by decide)]at i ⊢
 rw[List.map_append]
 exact iR.append i (iR.one hc)
theorem zU.nil(sz:Nat):zU sz [] []:=by
 refine⟨?_,by simp⟩
 split
 ·rfl
 ·exact iR.nil
def RwK(R:List b8)(B:Nat)(p:Nat×T×RL):Prop:=(p.2.1= .nilsl∧p.2.2= [])∨ ∃i g n cs,p.2.1= .isl .S (i+7) g 0 n p.1∧iz R i=⟨g,.cells cs 0 false⟩∧i<R.length∧n*p.1=cs.length∧n≤B∧zU p.1 p.2.2 cs
def kyZ:T→Option Nat
 | .isl .S k _ _ _ _=>some k
 |_=>none
theorem qq{k g o n s:Nat}:kyZ (.isl .S k g o n s)=some k:=rfl
def lH(R:List b8)(B:Nat)(r:List (Nat×T×RL)):Prop:=(∀p∈r,RwK R B p)∧ ∀i j:Nat,∀(hi:i<r.length) (D:j<r.length),i≠j→kyZ r[i].2.1=none∨kyZ r[i].2.1≠kyZ r[j].2.1
theorem RwK.mono{R:List b8}{B B':Nat}{p:Nat×T×RL}(h:RwK R B p)(J:B≤B'):RwK R B' p:=by
 rcases h with h|⟨i,g,n,cs,r,D,F,H,K,I⟩
 ·exact .inl h
 ·exact .inr ⟨i,g,n,cs,r,D,F,H,by omega,I⟩
theorem lH.mono{R:List b8}{B B':Nat}{i:List (Nat×T×RL)}(h:lH R B i)(r:B≤B'):lH R B' i:=⟨fun p D=>(h.1 p D).mono r,h.2⟩
theorem lH.new{R:List b8}{B:Nat}{D:List (Nat×T×RL)}(h:lH R B D)(O:1≤B)(j:Nat)(Z:j<D.length){sz:Nat}(ph:D[j].1=sz)(F:List T)(U:F.length=sz)(l:RL)(V:zU sz l F):
  lH (iH R R.length ⟨1,.cells F 0 false⟩) B (D.set j (sz,.isl .S (R.length+7) 1 0 1 sz,l)):=by
 have Zw: ∀p∈D,RwK (iH R R.length ⟨1,.cells F 0 false⟩) B p∧kyZ p.2.1≠some (R.length+7):=by
  intro p H
  rcases h.1 p H with r|⟨i,g,n,cs,r,I,h3,W,X,Y⟩
  ·exact⟨.inl r,by rw[r.1];simp[kyZ]⟩
  ·refine⟨.inr ⟨i,g,n,cs,r, ?_, ?_,W,X,Y⟩,by rw[r,qq];simp;omega⟩
   ·grind [jY]
   ·rw[Bf];omega
 refine⟨fun p H=> ?_,fun a b J N K=> ?_⟩
 ·rcases List.mem_or_eq_of_mem_set H with H|rfl
  ·grind
  ·exact .inr ⟨R.length,1,1,F,rfl,by rw[jY,if_pos rfl],by rw[Bf];omega,by simp[U],O,V⟩
 ·rw[List.length_set]at J N
  rw[List.getElem_set,List.getElem_set]
  by_cases r:j=a
  ·grind [qq]
  ·rw[if_neg r]
   by_cases I:j=b
   ·rw[if_pos I]
    right
    rw[qq]
    exact(Zw D[a] (List.getElem_mem J)).2
   ·rw[if_neg I];exact h.2 a b J N K
theorem lH.app{R:List b8}{B:Nat}{D:List (Nat×T×RL)}(h:lH R B D)(j:Nat)(J:j<D.length){sz i g n:Nat}{cs:List T}(ph:D[j].1=sz)(K:D[j].2.1= .isl .S (i+7) g 0 n sz)(hE:iz R i=⟨g,.cells cs 0 false⟩)(hi:i<R.length)(W:n*sz=cs.length)(hB:n≤B)(H:List T)(X:H.length=sz)(l:RL)(Y:zU sz l (cs++H))(I:Nat):
  lH (iH R i ⟨I,.cells (cs++H) 0 false⟩) (B+1) (D.set j (sz,.isl .S (i+7) I 0 (n+1) sz,l)):=by
 have U:(iH R i ⟨I,.cells (cs++H) 0 false⟩).length=R.length:=jM _ _ _ hi
 refine⟨fun p Z=> ?_,fun a b r N O=> ?_⟩
 ·obtain⟨a,r,rfl⟩:=List.getElem_of_mem Z
  rw[List.length_set]at r
  rw[List.getElem_set]
  by_cases F:j=a
  ·rw[if_pos F]
   exact .inr ⟨i,I,n+1,cs++H,rfl,by rw[jY,if_pos rfl],by rw[U];exact hi,by rw[List.length_append,X,Nat.add_mul,W,Nat.one_mul],by omega,Y⟩
  ·rw[if_neg F]
   have hd:=h.2 j a J r F
   rw[K,qq]at hd
   rcases h.1 D[a] (List.getElem_mem r)with q|⟨i',g2,n',SX,q1,q2,q3,q4,q5,q6⟩
   ·exact .inl q
   ·refine .inr ⟨i',g2,n',SX,q1, ?_,by rw[U];exact q3,q4,by omega,q6⟩
    rw[q1,qq]at hd
    rw[jY,if_neg (fun e=>by subst e;rcases hd with hd|hd <;> simp at hd)]
    exact q2
 ·rw[List.length_set]at r N
  rw[List.getElem_set,List.getElem_set]
  by_cases F:j=a
  ·rw[if_pos F,if_neg (by omega)]
   have:=h.2 j b J N (by omega)
   rw[K,qq]at this
   rw[qq];exact this
  ·rw[if_neg F]
   by_cases V:j=b
   ·rw[if_pos V]
    have:=h.2 a j r J (by omega)
    rw[K,qq]at this
    rw[qq];exact this
   ·rw[if_neg V];exact h.2 a b r N O
end Go.Proofs.YtcpceiclnbmgiaaGreat
