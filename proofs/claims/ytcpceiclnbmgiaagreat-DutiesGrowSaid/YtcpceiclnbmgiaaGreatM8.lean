/- Walks of functions of the program and of the reference, and their plain laws, part 8. Conditions: the theorems' own. -/
import Derived.Test.YtcpceiclnbmgiaaGreatM7
import Derived.KernelRfl
set_option maxRecDepth 100000
set_option linter.unusedSimpArgs false
set_option linter.unusedVariables false
set_option maxHeartbeats 16000000
namespace Go.Proofs.YtcpceiclnbmgiaaGreat
open Go Go.Ev
def upC(c:Nat):Prop:=(65:Int)≤c∧(c:Int)≤90
instance (c:Nat):Decidable (upC c):=by unfold upC;infer_instance
def YS(c:Nat):Bool:=decide (upC c∨Hi c)
def Pj(s:List Nat):Bool:=decide (1≤s.length)&&(decide (s.length≤8)&&s.all YS)
def WA(s:List Nat):Bool:=decide (s.length=3)&&s.all fun c=>decide (upC c)
structure Ap where
 cd:List Nat
 zn:List Nat
structure Fl where
 nu:List Nat
 fr:List Nat
 to:List Nat
 dp:Int
 ar:Int
 ty:List Nat
 n0:Int
 n1:Int
 n2:Int
structure Tt where
 zo:List Zo
 ap:List Ap
 fl:List Fl
def Mr(z:Zo)(c:List T):Prop:= ∃a r,c= [.s z.nm,.i .i64 z.o,a]∧IsSl a z.sh.length r∧hZ Zf z.sh r
def ApR(u:Ap)(c:List T):Prop:=c= [.s u.cd,.s u.zn]
def Io(f:Fl):List T:= [.s f.nu,.s f.fr,.s f.to,.i .i64 f.dp,.i .i64 f.ar,.s f.ty,.i .i64 f.n0,.i .i64 f.n1,.i .i64 f.n2]
def Rq(f:Fl)(c:List T):Prop:=c=Io f
theorem Mr.len(z:Zo)(c:List T)(h:Mr z c):c.length=3:=by obtain⟨a,i,rfl,_⟩:=h;rfl
theorem ApR.len(u:Ap)(c:List T)(h:ApR u c):c.length=2:=by rw[h];rfl
theorem Rq.len(f:Fl)(c:List T)(h:Rq f c):c.length=9:=by rw[h];rfl
theorem afQ{xs:List Zo}{a:T}{H:List T}(I:IsSl a xs.length H)(J:hZ Mr xs H)(i:Nat)(hi:i<xs.length): ∃D F r,(∀kk,lH a (.i kk (i:Int)) 3=some (.vp (.s xs[i].nm:: .i .i64 xs[i].o::D::r)))∧IsSl D xs[i].sh.length F∧hZ Zf xs[i].sh F:=by
 obtain⟨c,r,e,h⟩:=oY (k:=3) Mr.len I J i hi
 obtain⟨D,F,rfl,K,N⟩:=h
 exact⟨D,F,r,e,K,N⟩
theorem afR{xs:List Ap}{a:T}{D:List T}(F:IsSl a xs.length D)(H:hZ ApR xs D)(i:Nat)(hi:i<xs.length): ∃r,∀kk,lH a (.i kk (i:Int)) 2=some (.vp (.s xs[i].cd:: .s xs[i].zn::r)):=by
 obtain⟨c,r,e,h⟩:=oY (k:=2) ApR.len F H i hi
 rw[ApR]at h
 subst h
 exact⟨r,e⟩
theorem WL{xs:List Fl}{a:T}{D:List T}(F:IsSl a xs.length D)(H:hZ Rq xs D)(i:Nat)(hi:i<xs.length): ∃r,∀kk,lH a (.i kk (i:Int)) 9=some (.vp (.s xs[i].nu:: .s xs[i].fr:: .s xs[i].to:: .i .i64 xs[i].dp:: .i .i64 xs[i].ar:: .s xs[i].ty:: .i .i64 xs[i].n0:: .i .i64 xs[i].n1:: .i .i64 xs[i].n2::r)):=by
 obtain⟨c,r,e,h⟩:=oY (k:=9) Rq.len F H i hi
 rw[Rq]at h
 subst h
 exact⟨r,e⟩
def Ro(seen:List (List Nat)):List Zo→Int
 | []=>0
 |z::r=>if oj z≠0 then oj z else if z.nm∈seen then 7 else Ro (seen++ [z.nm]) r
def Rp(i seen:List (List Nat)):List Ap→Int
 | []=>0
 |a::r=>if WA a.cd=false then 1 else if a.cd∈seen then 7 else if a.zn∉i then 6 else Rp i (seen++ [a.cd]) r
def Bn(n:Int):Bool:=decide (0≤n)&&decide (n≤8)
def Rr(f:Fl):Bool:=decide (2880≤f.dp)&&(decide (f.ar≤52593120)&&(decide (f.dp<f.ar)&&decide (f.ar-f.dp≤1440)))
def Km(i:List (List Nat))(f:Fl):Int:=
 if Pj f.nu=false then 1 else if nV f.ty=false then 1 else if f.fr∉i then 6 else if f.to∉i then 6 else if f.fr=f.to then 14 else if Rr f=false then 5 else if(Bn f.n0&&(Bn f.n1&&Bn f.n2))=false then 5 else 0
def MV(f g:Fl):Bool:=if f.dp≠g.dp then decide (f.dp<g.dp)else vQ f.nu g.nu
def Ig(D:List (List Nat))(i:Option Fl):List Fl→Int
 | []=>0
 |f::r=>if Km D f≠0 then Km D f else if(match i with|some p=> !MV p f|none=>false)=true then 8 else Ig D (some f) r
def Tt.big(t:Tt):Prop:=16<t.zo.length∨64<t.ap.length∨200<t.fl.length
def tW(t:Tt):Int:=
 if 16<t.zo.length then 10 else if 64<t.ap.length then 10 else if 200<t.fl.length then 10 else if Ro [] t.zo≠0 then Ro [] t.zo else if Rp (t.zo.map Zo.nm) [] t.ap≠0 then Rp (t.zo.map Zo.nm) [] t.ap else Ig (t.ap.map Ap.cd) none t.fl
def SM(seen:List (List Nat)):List T:=(seen.map fun x=>(x,true)).map fun p=>sK p.1
def SN(seen:List (List Nat)):List T:=(seen.map fun x=>(x,true)).map fun p=>T.b p.2
theorem Ld(seen:List (List Nat))(s:List Nat):na (.one .str) (SM seen) (SN seen) (.s s) (.b false) false=some (.b (decide (s∈seen))):=H6 seen s
theorem YT(seen:List (List Nat))(s:List Nat)(h:s∉seen):qj (.one .str) (.s s) (.b true) (SM seen) (SN seen)=some (SM (seen++ [s]),SN (seen++ [s])):=Em seen s h
theorem Le{α β:Type}(f:α→β){l:List α}{k:Nat}(hk:k<l.length):(l.take (k+1)).map f=(l.take k).map f++ [f l[k]]:=by rw[List.take_succ_eq_append_getElem hk,List.map_append];rfl
theorem aum(s:List Nat)(hs:s.length≤8)(fr:Fr)(lh:gW b8)(sh:List b8)(K:an fr 0= .s s)(J:an fr 14= .i .i64 (s.length:Int))(N:an fr 15= .i .i64 0):
  LpC pE 37 xu fr lh sh 0 2 (s.all YS=true) (.b false) (fun F H=>H=sh):=by
 refine wI P0 (by simp[iG]) (fun k f F H=>an f 15= .i .i64 (k:Int)∧H=sh∧s.all YS=(s.drop k).all YS) s.length ⟨N,rfl,rfl⟩ ?_ ?_
 ·rintro k f F _ hk D ⟨I,rfl,hr⟩
  have O:(k:Int)<s.length:=by omega
  have U:=iJ (k:=k) (by omega)
  have r:=FW hk
  rw[List.drop_eq_getElem_cons hk,List.all_cons]at hr
  simp only[qB,seval,gd,xu,D,K,J,I,O,r,U]
  clear D r
  unfold YS upC Hi at*
  grind
 ·rintro f F _ D ⟨I,rfl,hr⟩
  rw[List.drop_length,List.all_nil]at hr
  simp only[qB,seval,gd,xu,D,J,I,Int.lt_irrefl,hr]
theorem YU(s:List Nat):be pE 136 [.s s] []=some (.b (Pj s),[]):=by
 rw[gQ adE (by simp[P3])]
 unfold Pj
 by_cases h:s.length≤8
 ·have i:=aum s h
  simp only[qB,seval,P3,i]
  clear i
  grind
 ·simp only[qB,seval,P3]
  grind
theorem aun(s:List Nat)(hs:s.length=3)(fr:Fr)(lh:gW b8)(sh:List b8)(K:an fr 0= .s s)(J:an fr 8= .i .i64 (s.length:Int))(N:an fr 9= .i .i64 0):
  LpC pE 23 CF fr lh sh 0 2 ((s.all fun c=>decide (upC c))=true) (.b false) (fun F H=>H=sh):=by
 refine wI SX (by simp[iG]) (fun k f F H=>an f 9= .i .i64 (k:Int)∧H=sh∧(s.all fun c=>decide (upC c))=(s.drop k).all fun c=>decide (upC c)) s.length ⟨N,rfl,rfl⟩ ?_ ?_
 ·rintro k f F _ hk D ⟨I,rfl,hr⟩
  have O:(k:Int)<s.length:=by omega
  have U:=iJ (k:=k) (by omega)
  have r:=FW hk
  rw[List.drop_eq_getElem_cons hk,List.all_cons]at hr
  simp only[qB,seval,gd,CF,D,K,J,I,O,r,U]
  clear D r
  unfold upC at*
  grind
 ·rintro f F _ D ⟨I,rfl,hr⟩
  rw[List.drop_length,List.all_nil]at hr
  simp only[qB,seval,gd,CF,D,J,I,Int.lt_irrefl,hr]
theorem adb(s:List Nat):be pE 85 [.s s] []=some (.b (WA s),[]):=by
 rw[gQ apj (by simp[c85])]
 unfold WA
 by_cases i:s.length=3
 ·have r:=aun s i
  rw[i]at r
  simp only[qB,seval,c85,i,r]
  clear r
  grind
 ·have GO: ¬(s.length:Int)=3:=by omega
  simp only[qA,seval,c85,i,GO]
theorem aBv(r D F:Int)(fr:Fr)(lh:gW b8)(sh:List b8)(I:an fr 62= .agg [.i .i64 r,.i .i64 D,.i .i64 F])(Bw:an fr 63= .i .i64 0):
  wH pE 73 CG fr lh sh 1 4 (if [r,D,F].all Bn then 0 else 5) (fun J K=>K=sh):=by
 refine jY SY (fun k f J K=>an f 63= .i .i64 (k:Int)∧K=sh∧ [r,D,F].all Bn=([r,D,F].drop k).all Bn) 3 ⟨Bw,rfl,rfl⟩ ?_ ?_
 ·rintro k f J _ hk H ⟨N,rfl,hr⟩
  have hc:k=0∨k=1∨k=2:=by omega
  unfold Bn at*
  rcases hc with rfl|rfl|rfl <;> simp only[qB,seval,gd,aak,CG,H,I,N,Int.ofNat_zero,Int.ofNat_one] <;> clear H <;> simp at hr ⊢ <;> grind
 ·rintro f J _ H ⟨N,rfl,hr⟩
  simp only[qB,seval,gd,CG,H,N,Int.lt_irrefl,hr]
theorem akV(r:List (List Nat))(f:Fl):be pE 86 [.agg (Io f),.vm (SM r) (SN r)] []=some (.i .i64 (Km r f),[]):=by
 have D:=j2 (YU f.nu)
 have F:=j2 (yt f.ty)
 have H:=Ld r f.fr
 have I:=Ld r f.to
 have J:=aBv f.n0 f.n1 f.n2
 have O:= @jj (f.ar-f.dp)
 rw[gQ apl (by simp[c86])]
 unfold Km Io
 by_cases K:f.fr∈r <;> by_cases N:f.to∈r <;> simp only[qB,seval,c86,D,F,apM,Je,H,I,K,N,J]
 all_goals clear J D F H I
 all_goals try unfold Rr
 all_goals grind (splits:=30)
theorem ade(f g:Fl):be pE 87 [.agg (Io f),.agg (Io g)] []=some (.b (MV f g),[]):=by
 rw[gQ agr (by simp[c87])]
 unfold MV Io
 by_cases h:f.dp=g.dp <;> simp only[qA,seval,c87,h]
theorem aBw(l:List Zo)(a:T)(O:List T)(ha:IsSl a l.length O)(hc:hZ Mr l O)(U:l.length≤100)(g:Nat)(J SR:b8)(fr:Fr)(lh:gW b8)(sh:List b8)
  (V:an fr 3= .mp .L 29 g) (H:an fr 31=a) (Bh:an fr 32= .i .i64 (l.length:Int)) (DO:an fr 33= .i .i64 0) (D:b7 lh 1=J) (Lf:b7 lh 29=⟨g,.map [] [] false⟩) (Ck:b7 lh 50=SR):
  wH pE 106 zE fr lh sh 0 2 (Ro [] l) (fun r K=>(Ro [] l=0→b7 r 29=⟨g,.map (SM (l.map Zo.nm)) (SN (l.map Zo.nm)) false⟩)∧b7 r 1=J∧b7 r 50=SR∧K=sh):=by
 refine jY Iz (fun k f r K=>an f 33= .i .i64 (k:Int)∧b7 r 29=⟨g,.map (SM ((l.take k).map Zo.nm)) (SN ((l.take k).map Zo.nm)) false⟩∧b7 r 1=J∧b7 r 50=SR∧K=sh∧Ro [] l=Ro ((l.take k).map Zo.nm) (l.drop k)) l.length ⟨DO,Lf,D,Ck,rfl,rfl⟩ ?_ ?_
 ·rintro k f r _ hk F ⟨I,Lf,D,Ck,rfl,hr⟩
  rw[List.drop_eq_getElem_cons hk,Ro]at hr
  have W:(k:Int)<l.length:=by omega
  have hw:=iJ (k:=k) (by omega)
  obtain⟨sT,sc,rr,X,N,EJ⟩:=afQ ha hc k hk
  have Y:=DM l[k] sT sc N EJ
  have Z:=Ld ((l.take k).map Zo.nm) l[k].nm
  have nO:=YT ((l.take k).map Zo.nm) l[k].nm
  have qc:=Le Zo.nm hk
  by_cases hs:l[k].nm∈(l.take k).map Zo.nm
  ·simp only[qB,seval,gd,zE,F,V,H,Bh,I,Lf,D,Ck,W,X,N.froz1,Y,ZF,ju,Z,hs]
   clear F
   grind
  ·simp only[qB,seval,gd,zE,F,V,H,Bh,I,Lf,D,Ck,W,X,hw,N.froz1,Y,ZF,ju,Z,hs,th,Bd,nO hs,qc]
   clear F
   grind
 ·rintro f r _ F ⟨I,Lf,D,Ck,rfl,hr⟩
  rw[List.take_length]at Lf
  simp only[qB,seval,gd,zE,F,Bh,I,Lf,D,Ck,Int.lt_irrefl,hr,List.drop_length,Ro]
  exact fun _=>trivial
theorem aBx(r:List (List Nat))(l:List Ap)(a:T)(U:List T)(ha:IsSl a l.length U)(hc:hZ ApR l U)(V:l.length≤100)(g g3:Nat)(J:b8)(fr:Fr)(lh:gW b8)(sh:List b8)
  (h3:an fr 3= .mp .L 29 g3) (W:an fr 7= .mp .L 50 g) (Su:an fr 52=a) (K:an fr 53= .i .i64 (l.length:Int)) (tO:an fr 54= .i .i64 0) (F:b7 lh 1=J) (Lf:b7 lh 29=⟨g3,.map (SM r) (SN r) false⟩) (Ck:b7 lh 50=⟨g,.map [] [] false⟩):
  wH pE 106 zD fr lh sh 2 2 (Rp r [] l) (fun D N=>(Rp r [] l=0→b7 D 50=⟨g,.map (SM (l.map Ap.cd)) (SN (l.map Ap.cd)) false⟩)∧b7 D 1=J∧N=sh):=by
 refine jY Iy (fun k f D N=>an f 54= .i .i64 (k:Int)∧b7 D 50=⟨g,.map (SM ((l.take k).map Ap.cd)) (SN ((l.take k).map Ap.cd)) false⟩∧b7 D 1=J∧b7 D 29=⟨g3,.map (SM r) (SN r) false⟩∧N=sh∧Rp r [] l=Rp r ((l.take k).map Ap.cd) (l.drop k)) l.length ⟨tO,Ck,F,Lf,rfl,rfl⟩ ?_ ?_
 ·rintro k f D _ hk H ⟨I,Ck,F,Lf,rfl,hr⟩
  rw[List.drop_eq_getElem_cons hk,Rp]at hr
  have X:(k:Int)<l.length:=by omega
  have hw:=iJ (k:=k) (by omega)
  obtain⟨rr,Y⟩:=afR ha hc k hk
  have Z:=j2 (adb l[k].cd)
  have lQ:=Ld ((l.take k).map Ap.cd) l[k].cd
  have nO:=YT ((l.take k).map Ap.cd) l[k].cd
  have O:=Ld r l[k].zn
  have qc:=Le Ap.cd hk
  by_cases hs:l[k].cd∈(l.take k).map Ap.cd
  ·simp only[qB,seval,gd,zD,H,W,Su,K,I,Ck,F,Lf,X,Y,Z,apk,ju,lQ,hs]
   clear H
   grind
  ·by_cases hz:l[k].zn∈r <;> simp only[qB,seval,gd,zD,H,h3,W,Su,K,I,Ck,F,Lf,X,Y,hw,Z,apk,ju,lQ,hs,O,hz,th,Bd,nO hs,qc] <;> clear H <;> grind
 ·rintro f D _ H ⟨I,Ck,F,Lf,rfl,hr⟩
  rw[List.take_length]at Ck
  simp only[qB,seval,gd,zD,H,K,I,Ck,F,Int.lt_irrefl,hr,List.drop_length,Rp]
  exact fun _=>trivial
def zg(l:List Fl)(k:Nat):Option Fl:=if k=0 then none else l[k-1]?
theorem Sk{l:List Fl}{k:Nat}(i:0<k)(hk:k-1<l.length):zg l k=some l[k-1]:=by
 unfold zg;rw[if_neg (by omega),List.getElem?_eq_getElem hk]
theorem akW(i:List (List Nat)){l:List Fl}{k:Nat}(hk:k<l.length):Ig i (zg l k) (l.drop k)=if Km i l[k]≠0 then Km i l[k]else if(match zg l k with|some p=> !MV p l[k]|none=>false)=true then 8 else Ig i (zg l (k+1)) (l.drop (k+1)):=by
 have e:zg l (k+1)=some l[k]:=by unfold zg;rw[if_neg (by omega),Nat.add_sub_cancel,List.getElem?_eq_getElem hk]
 rw[List.drop_eq_getElem_cons hk,e]
 conv=>lhs;unfold Ig
 try rfl
theorem aBy(r:List (List Nat))(X Y:T)(l:List Fl)(a:T)(Z:List T)(ha:IsSl a l.length Z)(hc:hZ Rq l Z)(hlen:l.length≤1000)(g:Nat)(fr:Fr)(lh:gW b8)(sh:List b8)
  (h1:an fr 1= .ptr .L 1 1 0) (h7:an fr 7= .mp .L 50 g) (H:an fr 79=a) (D:an fr 80= .i .i64 (l.length:Int)) (N:an fr 81= .i .i64 0) (I:b7 lh 1=⟨1,.cells [X,Y,a] 0 true⟩) (Ck:b7 lh 50=⟨g,.map (SM r) (SN r) false⟩):
  wH pE 106 zw fr lh sh 5 2 (Ig r none l) (fun J O=>O=sh):=by
 refine jY SQ (fun k f J O=>an f 81= .i .i64 (k:Int)∧b7 J 1=⟨1,.cells [X,Y,a] 0 true⟩∧(∃wm,b7 J 50=⟨g,.map (SM r) (SN r) wm⟩)∧O=sh∧Ig r none l=Ig r (zg l k) (l.drop k)) l.length ⟨N,I,⟨_,Ck⟩,rfl,rfl⟩ ?_ ?_
 ·rintro k f J _ hk F ⟨K,I,⟨wm,Ck⟩,rfl,hr⟩
  rw[akW r hk]at hr
  have iP:(k:Int)<l.length:=by omega
  have hw:=iJ (k:=k) (by omega)
  obtain⟨rr,iU⟩:=WL ha hc k hk
  have U:=akV r l[k]
  unfold Io at U
  by_cases OT:k=0
  ·have V: ¬(0:Int)<k:=by omega
   have hp:zg l k=none:=by rw[OT];rfl
   simp only[qB,seval,gd,jq,zw,F,h7,H,D,K,I,Ck,iP,iU,hw,U,apm,V]
   clear F
   grind
  ·have V:(0:Int)<k:=by omega
   have SA:=tB (k:=k) (by omega) (by omega)
   obtain⟨r2,W⟩:=WL ha hc (k-1) (by omega)
   have hb:=j2 (ade l[k-1] l[k])
   have hp:=Sk (l:=l) (k:=k) (by omega) (by omega)
   unfold Io at hb
   simp only[qB,seval,gd,jq,ig,zw,F,h1,h7,H,D,K,I,Ck,iP,iU,hw,U,apm,V,SA,W,hb,awR,awS]
   clear F
   grind
 ·rintro f J _ F ⟨K,I,⟨wm,Ck⟩,rfl,hr⟩
  simp only[qB,seval,gd,zw,F,D,K,Int.lt_irrefl,hr,List.drop_length,Ig]
structure wM (t:Tt) (zT aT fT:T):Prop where
 z: ∃c,IsSl zT t.zo.length c∧hZ Mr t.zo c
 a: ∃c,IsSl aT t.ap.length c∧hZ ApR t.ap c
 f: ∃c,IsSl fT t.fl.length c∧hZ Rq t.fl c
theorem Mu(t:Tt)(r D F:T)(W:wM t r D F):be pE 49 [.agg [r,D,F]] []=some (.i .i64 (tW t),[]):=by
 obtain⟨⟨X,H,Y⟩,⟨ac,a1,a2⟩,⟨Z,I,f2⟩⟩:=W
 rw[gQ aoS (by simp[c49])]
 unfold tW
 by_cases q:t.zo.length≤16∧t.ap.length≤64∧t.fl.length≤200
 ·have O:=fun fr lh sh J K Bh DO N Lf Ck=>lpO (aBw t.zo r X H Y (by omega) 1 ⟨1,.cells [r,D,F] 0 true⟩ ⟨0,.none⟩ fr lh sh J K Bh DO N Lf Ck) (by simp)
  have U:=fun fr lh sh J h7 Su tu tO N Lf Ck=>lpO (aBx (t.zo.map Zo.nm) t.ap D ac a1 a2 (by omega) 1 1 ⟨1,.cells [r,D,F] 0 true⟩ fr lh sh J h7 Su tu tO N Lf Ck) (by simp)
  have V:=aBy (t.ap.map Ap.cd) r D t.fl F Z I f2 (by omega) 1
  simp(maxDischargeDepth:=6) only[qB,seval,c49,Iy,Iz,H.lenI,a1.lenI,I.lenI,O,U,V]
  clear O U V
  grind
 ·simp only[qB,seval,c49,H.lenI,a1.lenI,I.lenI]
  grind
def ixA(s:List Nat):List (List Nat)→Nat→Int
 | [],_=> -1
 |x::r,k=>if x=s then(k:Int)else ixA s r (k+1)
theorem OS(s:List Nat): ∀(l:List (List Nat)) (k:Nat),ixA s l k<0↔s∉l
 | [],k=>by simp[ixA]
 |x::r,k=>by
  rw[ixA]
  by_cases h:x=s
  ·rw[if_pos h];subst h;simp
  ·rw[if_neg h,OS s r (k+1)]
   simp[Ne.symm h]
theorem W6(s:List Nat): ∀(ns:List (List Nat)) (k:Nat),ixA s ns k<0→ixA s ns k= -1
 | [],_,_=>rfl
 |x::ns,k,h=>by
  rw[ixA]at h ⊢
  by_cases e:x=s
  ·rw[if_pos e]at h;omega
  ·rw[if_neg e]at h ⊢; exact W6 s ns _ h
def Az(sz:Nat):T→Bool
 | .sl ps 1 _=>decide (ps.length=sz∧0<sz)
 |_=>false
def DW(sz:Nat):T→Bool
 | .nilsl=>true
 | .isl .S _ _ 0 _ i=>decide (i=sz)
 |_=>false
def PS(sh:List b8)(k bytes g len sz:Nat)(ps:List T)(e:b8):Option (T×List b8):=match e.ob with
 | .cells cs wm false=>if e.g=g∧len*sz=cs.length∧(len+1)*bytes≤roomy then some (.isl .S k (g+1) 0 (len+1) sz,iu sh k ⟨g+1,.cells (cs++ps) wm false⟩)else none
 |_=>none
def akX(sh:List b8)(bytes sz:Nat):T→T→Option (T×List b8)
 | .nilsl,.sl ps 1 _=>if bytes≤roomy then some (.isl .S sh.length 1 0 1 sz,iu sh sh.length ⟨1,.cells ps 0 false⟩)else none
 | .isl .S k g 0 len _,.sl ps 1 _=>PS sh k bytes g len sz ps (gY sh k)
 |_,_=>none
theorem iz{sz:Nat}{ps:List T}{ex:Bool}:Az sz (.sl ps 1 ex)=decide (ps.length=sz∧0<sz):=nr rfl
theorem jk{sz:Nat}:DW sz .nilsl=true:=nr rfl
theorem jf{k g len sz i:Nat}:DW sz (.isl .S k g 0 len i)=decide (i=sz):=nr rfl
theorem jC{sh:List b8}{bytes sz:Nat}{ps:List T}{ex:Bool}:akX sh bytes sz .nilsl (.sl ps 1 ex)=if bytes≤roomy then some (.isl .S sh.length 1 0 1 sz,iu sh sh.length ⟨1,.cells ps 0 false⟩)else none:=nr rfl
theorem jD{sh:List b8}{k g len bytes sz i:Nat}{ps:List T}{ex:Bool}:akX sh bytes sz (.isl .S k g 0 len i) (.sl ps 1 ex)=PS sh k bytes g len sz ps (gY sh k):=nr rfl
theorem iO{sh:List b8}{k g i len bytes wm sz:Nat}{ps:List T}{cs:List T}:PS sh k bytes g len sz ps ⟨i,.cells cs wm false⟩=if i=g∧len*sz=cs.length∧(len+1)*bytes≤roomy then some (.isl .S k (g+1) 0 (len+1) sz,iu sh k ⟨g+1,.cells (cs++ps) wm false⟩)else none:=nr rfl
theorem AA{sz:Nat}{t:T}(h:Az sz t=true): ∃ps ex,t= .sl ps 1 ex∧ps.length=sz∧0<sz:=by
 unfold Az at h
 grind
theorem DX{sz:Nat}{t:T}(h:DW sz t=true):t= .nilsl∨ ∃k g len,t= .isl .S k g 0 len sz:=by
 unfold DW at h
 grind
section
variable{E:Env}{call:pw}{n:Nat}{fr:Fr}{lh:gW b8}{sh:List b8}{ds:List (List Nat×dy)}{jl:List FP}{d:Option Nat}{os:List dy}
theorem jH{r sz bytes:Nat}{s x:im}(H:r<n)(hx:Az sz (rd fr x)=true)(hs:DW sz (rd fr s)=true):dE E call n (⟨some r,.app sz bytes s x true false,none⟩::os) ⟨fr,lh,sh⟩=
  (akX sh bytes sz (rd fr s) (rd fr x)).bind fun q=>dE E call n os ⟨jV fr r q.1,lh,q.2⟩:=by
 obtain⟨ps,ex,hx,J,K⟩:=AA hx
 have XF:ps.length=1*sz:=by omega
 rw[pg (by rfl) (show Eu n (some r)from H)]
 unfold Ev.one
 rcases DX hs with hs|⟨k,g,len,hs⟩
 ·simp only[iX,oh,iS,hs,hx,jm,XF,if_true,Q.run,Option.bind_some,jC]
  simp only[Nat.succ_ne_zero,if_false,Nat.one_mul]
  by_cases i:bytes≤roomy
  ·simp only[if_pos i,nH,Q.run,if_true];rfl
  ·simp only[if_neg i,Q.run];rfl
 ·have Ot:(St.mk fr lh sh).get .S k=gY sh k:=rfl
  rw[hs,hx,jD]
  generalize N:gY sh k=e at*
  obtain⟨I,ob⟩:=e
  unfold PS
  simp only[iX,oh,iS,hs,hx,jm,XF,if_true,Q.run,Option.bind_some]
  simp only[Nat.succ_ne_zero,if_false,decide_true,Bool.true_and,decide_eq_true_eq]
  by_cases i:(len+1)*bytes≤roomy
  ·simp only[Q.run,Ot,if_true,i,and_true]
   by_cases D:I=g
   ·subst D
    simp only[if_true,true_and]
    cases ob with
    |none=>simp only[Q.run];rfl
    |map _ _ _=>simp only[Q.run];rfl
    |cells cs wm bx=>
     cases bx with
     |true=>simp only[Q.run];rfl
     |false=>
      simp only[]
      by_cases F:len*sz=cs.length
      ·simp only[if_pos F,Q.run];rfl
      ·simp only[if_neg F,Q.run];rfl
   ·simp only[Q.run,D,false_and,if_false]
    cases ob with
    |none=>rfl
    |map _ _ _=>rfl
    |cells cs wm bx=>cases bx <;> rfl
  ·simp only[i,if_false,Q.run,and_false]
   cases ob with
   |none=>rfl
   |map _ _ _=>rfl
   |cells cs wm bx=>cases bx <;> rfl
def ri(n:Nat):T→FP
 | .isl .S k _ _ _ _=>⟨false,[(.S,k)],[(.S,k)]⟩
 |_=>⟨true,[],[(.S,n)]⟩
theorem iD{rs i:List (Sp×Nat)}{m:Nat}{t:T}(r:Lk rs=true)(D:Lk i=true):apart ⟨false,rs,i⟩ (ri m t)=true:=by
 have q: ∀(xs:List (Sp×Nat)) (k:Nat),Lk xs=true→(xs.all fun x=> !([(Sp.S,k)]:List (Sp×Nat)).contains x)=true:=by
  intro xs k h
  rw[List.all_eq_true]
  intro x hx
  have:=List.all_eq_true.1 h x hx
  grind
 have F: ∀(xs:List (Sp×Nat)),(xs.all fun x=> !([]:List (Sp×Nat)).contains x)=true:=by intro xs;rw[List.all_eq_true];intro x _;rfl
 unfold ri
 split
 ·unfold apart lW
  rw[q i _ D,q rs _ r];rfl
 ·unfold apart lW
  dsimp only
  rw[q i _ D,q rs _ r,F,r,D];rfl
theorem jZ{u:List Nat}{D sz bytes:Nat}{s x:im}(hx:Az sz (rd fr x)=true)(hs:DW sz (rd fr s)=true):iw E call n ((u,⟨some D,.app sz bytes s x true false,none⟩)::ds) jl ⟨fr,lh,sh⟩=
  if meets u jl (ri sh.length (rd fr s))=true then ke E call n ds (jl++ [ri sh.length (rd fr s)]) (dE E call n [⟨some D,.app sz bytes s x true false,none⟩] ⟨fr,lh,sh⟩)else none:=by
 refine sk fun H=> ?_
 obtain⟨ps,ex,hx,I,U⟩:=AA hx
 have J:jm sz (rd fr x)= .ret (1,ps):=by rw[hx];simp only[jm,Nat.one_mul,I,if_true]
 obtain⟨v,K,hr,i⟩:=tU (q:=oh D sz bytes (rd fr s) (rd fr x) true false) (by rfl) (by rw[ko];rfl) H
 unfold oh at hr i
 rw[J]at hr i
 simp only[Q.bind,Nat.one_ne_zero,if_false]at hr i
 rcases DX hs with hs|⟨k,g,len,hs⟩
 ·rw[hs]at hr i ⊢
  simp only at hr i
  by_cases r:1*bytes≤roomy
  ·rw[if_pos r]at hr i
   simp only[nH,if_true,Q.run,Option.some.injEq,CN.val.injEq]at hr
   obtain⟨rfl,rfl⟩:=hr
   rw[i (by simp[nH,Q.asks])]
   rfl
  ·rw[if_neg r]at hr
   simp[Q.run]at hr
 ·rw[hs]at hr i ⊢
  simp only[decide_true,Bool.true_and,decide_eq_true_eq]at hr i
  by_cases r:(len+1)*bytes≤roomy
  ·rw[if_pos (by simp[r])]at hr i
   simp only[Q.run]at hr
   generalize F:(St.mk fr lh sh).get .S k=e at hr i
   obtain⟨V,ob⟩:=e
   simp only at hr
   split at hr
   ·rename_i N
    cases ob with
    |none=>simp[Q.run]at hr
    |map a b c=>simp[Q.run]at hr
    |cells So wm bx=>
     cases bx with
     |true=>simp[Q.run]at hr
     |false=>
      simp only at hr
      split at hr
      ·rename_i O
       simp only[Q.run,Option.some.injEq,CN.val.injEq]at hr
       obtain⟨rfl,rfl⟩:=hr
       rw[i (by simp[inB,AP,F])]
       simp only[Q.asks,Q.log,F,N,O,if_true,jX,List.map_cons,List.map_nil,ri]
      ·simp[Q.run]at hr
   ·simp[Q.run]at hr
  ·rw[if_neg (by simp[r])]at hr
   simp[Q.run]at hr
end
mutual
def Fm.us(p:Int):Fm→Bool
 | .mk op num args=>if op=6 then decide (num=p)else usL p args
def usL(p:Int):List Fm→Bool
 | []=>false
 |x::xs=>x.us p||usL p xs
end
theorem Fm.us_eq(p:Int)(x:Fm):x.us p=if x.op=6 then decide (x.num=p)else usL p x.args:=by obtain⟨_,_,_⟩:=x;rw[Fm.us];rfl
theorem Lh: ∀xs:List Fm,xs.length≤wZ xs
 | []=>by simp[wZ]
 |x::xs=>by
  have i:=Lh xs
  have r:=x.sz_eq
  rw[wZ,List.length_cons];omega
mutual
theorem BW(r:List Nat→Int)(scope:Int): ∀x:Ex,(comp r scope x).sz≤x.nodes
 | .mk op num name args=>by
   have h:=Lj r scope args
   rw[Ex.nodes_eq,rm]
   show Fm.sz (if op=1∨op=2∨op=3 then .mk 1 num []else if op=4 then .mk 1 1 []else if op=5 then .mk 1 0 []else if op=6 then(match OU scope name with|some i=> .mk 6 (i:Int) []|none=> .mk 1 (r name) [])else .mk op 0 (lJ r scope args))≤1+jB args
   have l: ∀(a b:Int),Fm.sz (.mk a b [])≤1+jB args:=fun a b=>by rw[Fm.sz_eq];show 1+wZ []≤_;rw[wZ];omega
   split
   ·exact l _ _
   split
   ·exact l _ _
   split
   ·exact l _ _
   split
   ·split <;> exact l _ _
   ·rw[Fm.sz_eq];show 1+wZ (lJ r scope args)≤_;omega
theorem Lj(i:List Nat→Int)(scope:Int): ∀xs:List Ex,wZ (lJ i scope xs)≤jB xs
 | []=>by rw[lJ,wZ,jB];exact Nat.le_refl _
 |x::xs=>by
  have r:=BW i scope x
  have D:=Lj i scope xs
  rw[lJ,wZ,jB];omega
end
section
variable(p:Int)
def usP(f:Fm):Prop:= ∀(b:T) (D r:List T),IsSl b f.args.length D→iF f.args D→f.sz≤100000→be pE 53 [.vp (.i .i64 f.op:: .i .i64 f.num::b::r),.i .i64 p] []=some (.b (f.us p),[])
theorem Jk(op num:Int)(N:List T)(xs:List Fm)(ih: ∀y∈xs,usP p y)(a:T)(O:List T)(Y:IsSl a xs.length O)(hx:iF xs O)(hn:wZ xs≤100000)(r:Bool)(hr:r=usL p xs)(o:Out)(U:o=if r then .ret else .ext 0)(fr:Fr)(lh:gW b8)(sh:List b8)
  (F:an fr 0= .vp (.i .i64 op:: .i .i64 num::a::N)) (H:an fr 1= .i .i64 p) (D:an fr 21= .i .i64 (xs.length:Int)) (Ip:an fr 22= .i .i64 0):
  wJ 34 wh fr lh sh o∧
  ((r=true→an (tT pE 34 wh fr lh sh) 4= .b true)∧oi pE 34 wh fr lh sh=sh):=by
 refine jv (P:=fun Z iI iE=>(r=true→an Z 4= .b true)∧iE=sh)
  (jR (fun k st=> ∃(fr:Fr) (K:gW b8),st=⟨fr,K,sh⟩∧r=usL p (xs.drop k)∧an fr 0= .vp (.i .i64 op:: .i .i64 num::a::N)∧an fr 1= .i .i64 p∧an fr 21= .i .i64 (xs.length:Int)∧an fr 22= .i .i64 (k:Int)) _ xs.length ?_ ?_ 0 _ (Nat.zero_le _) ⟨fr,lh,rfl,hr,F,H,D,Ip⟩)
 ·rintro k _ hk ⟨fr,K,rfl,hr,F,H,D,Ip⟩
  have V:(k:Int)<xs.length:=by omega
  have W:=Lh xs
  have hyk:=Ej (List.getElem_mem hk)
  have hw:=iT (k:=k) (nY (by omega))
  obtain⟨b,cb,r2,X,mP,sL⟩:=Xc Y hx k hk
  have I:=ih xs[k] (List.getElem_mem hk) b cb r2 mP sL (by omega)
  rw[List.drop_eq_getElem_cons hk,usL]at hr
  generalize xs[k]=y at*
  cases J:y.us p with
  |true=>
   right
   rw[J]at I
   rw[J,Bool.true_or]at hr
   simp only[qA,seval,wh,F,H,D,Ip,V,X,I,aoV]
   refine⟨_,_,TJ,rfl,by rw[U,hr];rfl,fun _=> ?_,rfl⟩
   simp only[qA,seval]
  |false=>
   left
   rw[J]at I
   rw[J,Bool.false_or]at hr
   simp only[qA,seval,wh,F,H,D,Ip,V,X,I,aoV,hw]
   refine⟨_,rfl,_,_,rfl,hr, ?_, ?_, ?_, ?_⟩ <;> simp only[qA,seval,F,H,D]
 ·rintro _ ⟨fr,K,rfl,hr,F,H,D,Ip⟩
  rw[List.drop_length,usL]at hr
  simp only[qA,seval,wh,D,Ip,Int.lt_irrefl]
  exact⟨_,_,ui,rfl,by rw[U,hr];rfl,fun h=>(by rw[hr]at h;cases h),rfl⟩
theorem ae4(f:Fm):usP p f:=by
 induction f using Fm.ind with
 |h f ih=>
  intro b J r F Zc U
  rw[gQ agl (by simp[c53]),Fm.us_eq]
  have hs:=f.sz_eq
  by_cases i:f.op=6
  ·simp only[qA,seval,c53,i]
  ·have D:=fun fr lh sh K N H Ip=>Jk p f.op f.num r f.args (fun y O=>ih y O) b J F Zc (by omega) _ rfl _ rfl fr lh sh K N H Ip
   rw[if_neg i]
   cases I:usL p f.args with
   |true=>
    rw[I]at D
    simp only[qA,seval,c53,i,F.lenI,D]
   |false=>
    rw[I]at D
    simp only[qA,seval,c53,i,F.lenI,D]
end
theorem jK(R:List b8)(i j:Nat)(e:b8):gY (iu R i e) j=if j=i then e else gY R j:=rS _ _ _ _ _
theorem j1: ∀(R:List b8) (i:Nat) (a b:b8),iu (iu R i a) i b=iu R i b
 | [],0,a,b=>rfl
 | [],i+1,a,b=>by
   have:=j1 [] i a b
   grind [iu,rv]
 |x::R,0,a,b=>rfl
 |x::R,i+1,a,b=>by simp_all[sr,j1]
theorem AM: ∀(R:List b8) (e:b8),(iu R R.length e).length=R.length+1
 | [],e=>rfl
 |x::R,e=>by simp_all[List.length_cons,sr,AM]
section
variable(lT:T)(m:List (List Nat×Nat))(kn:List (Nat×Int))(R:List b8)
theorem F2(i:Nat):gY (ln lT m kn R) (i+7)=gY R i:=nr rfl
theorem sx(i:Nat)(e:b8):iu (ln lT m kn R) (i+7) e=ln lT m kn (iu R i e):=nr rfl
theorem F3:(ln lT m kn R).length=R.length+7:=nr (by unfold ln;rw[List.length_append];show 7+R.length=_;omega)
end
def Zb(u:List Nat×Fm)(c:List T):Prop:= ∃i,c= .s u.1::i∧n4 u.2 i
theorem Zb.len(u:List Nat×Fm)(c:List T)(h:Zb u c):c.length=4:=by obtain⟨i,rfl,h⟩:=h;rw[List.length_cons,h.len]
abbrev RL:=List (List Nat×Fm)
def zi(sz:Nat)(l:RL)(cs:List T):Prop:=(if sz=4 then hZ Zb l cs else iF (l.map Prod.snd) cs)∧ ∀u∈l,u.2.sz≤1000
theorem zi.sz{sz:Nat}{l:RL}{cs:List T}(h:zi sz l cs){u:List Nat×Fm}(i:u.2.sz≤1000): ∀v∈l++ [u],v.2.sz≤1000:=fun v hv=>by
 rcases List.mem_append.1 hv with hv|hv
 ·exact h.2 v hv
 ·grind
theorem zi.app4{l:RL}{cs:List T}(h:zi 4 l cs)(u:List Nat×Fm)(c:List T)(hc:Zb u c)(r:u.2.sz≤1000):zi 4 (l++ [u]) (cs++c):=by
 refine⟨?_,h.sz r⟩
 have i:=h.1
 rw[if_pos rfl]at i ⊢
 exact hZ.append i (hZ.one hc)
theorem zi.app3{l:RL}{cs:List T}(h:zi 3 l cs)(u:List Nat×Fm)(c:List T)(hc:n4 u.2 c)(r:u.2.sz≤1000):zi 3 (l++ [u]) (cs++c):=by
 refine⟨?_,h.sz r⟩
 have i:=h.1
 rw[if_neg (by decide)]at i ⊢
 rw[List.map_append]
 exact iF.append i (iF.one hc)
theorem zi.nil(sz:Nat):zi sz [] []:=by
 refine⟨?_,by simp⟩
 split
 ·rfl
 ·exact iF.nil
def RwK(R:List b8)(B:Nat)(p:Nat×T×RL):Prop:=(p.2.1= .nilsl∧p.2.2= [])∨ ∃i g n cs,p.2.1= .isl .S (i+7) g 0 n p.1∧gY R i=⟨g,.cells cs 0 false⟩∧i<R.length∧n*p.1=cs.length∧n≤B∧zi p.1 p.2.2 cs
def kyZ:T→Option Nat
 | .isl .S k _ _ _ _=>some k
 |_=>none
theorem p6{k g o n s:Nat}:kyZ (.isl .S k g o n s)=some k:=rfl
def ll(R:List b8)(B:Nat)(r:List (Nat×T×RL)):Prop:=(∀p∈r,RwK R B p)∧ ∀i j:Nat,∀(hi:i<r.length) (D:j<r.length),i≠j→kyZ r[i].2.1=none∨kyZ r[i].2.1≠kyZ r[j].2.1
theorem RwK.mono{R:List b8}{B B':Nat}{p:Nat×T×RL}(h:RwK R B p)(J:B≤B'):RwK R B' p:=by
 rcases h with h|⟨i,g,n,cs,r,D,F,H,K,I⟩
 ·exact .inl h
 ·exact .inr ⟨i,g,n,cs,r,D,F,H,by omega,I⟩
theorem ll.mono{R:List b8}{B B':Nat}{i:List (Nat×T×RL)}(h:ll R B i)(r:B≤B'):ll R B' i:=⟨fun p D=>(h.1 p D).mono r,h.2⟩
theorem ll.new{R:List b8}{B:Nat}{D:List (Nat×T×RL)}(h:ll R B D)(N:1≤B)(j:Nat)(Y:j<D.length){sz:Nat}(Z:D[j].1=sz)(ps:List T)(O:ps.length=sz)(l:RL)(U:zi sz l ps):
  ll (iu R R.length ⟨1,.cells ps 0 false⟩) B (D.set j (sz,.isl .S (R.length+7) 1 0 1 sz,l)):=by
 have Y1: ∀p∈D,RwK (iu R R.length ⟨1,.cells ps 0 false⟩) B p∧kyZ p.2.1≠some (R.length+7):=by
  intro p F
  rcases h.1 p F with r|⟨i,g,n,cs,r,H,h3,V,W,X⟩
  ·exact⟨.inl r,by rw[r.1];simp[kyZ]⟩
  ·refine⟨.inr ⟨i,g,n,cs,r, ?_, ?_,V,W,X⟩,by rw[r,p6];simp;omega⟩
   ·grind [jK]
   ·rw[AM];omega
 refine⟨fun p F=> ?_,fun a b I K J=> ?_⟩
 ·rcases List.mem_or_eq_of_mem_set F with F|rfl
  ·grind
  ·exact .inr ⟨R.length,1,1,ps,rfl,by rw[jK,if_pos rfl],by rw[AM];omega,by simp[O],N,U⟩
 ·rw[List.length_set]at I K
  rw[List.getElem_set,List.getElem_set]
  by_cases r:j=a
  ·grind [p6]
  ·rw[if_neg r]
   by_cases H:j=b
   ·rw[if_pos H]
    right
    rw[p6]
    exact(Y1 D[a] (List.getElem_mem I)).2
   ·rw[if_neg H];exact h.2 a b I K J
theorem ll.app{R:List b8}{B:Nat}{D:List (Nat×T×RL)}(h:ll R B D)(j:Nat)(I:j<D.length){sz i g n:Nat}{cs:List T}(Z:D[j].1=sz)(J:D[j].2.1= .isl .S (i+7) g 0 n sz)(hE:gY R i=⟨g,.cells cs 0 false⟩)(hi:i<R.length)(V:n*sz=cs.length)(hB:n≤B)(ps:List T)(W:ps.length=sz)(l:RL)(X:zi sz l (cs++ps))(H:Nat):
  ll (iu R i ⟨H,.cells (cs++ps) 0 false⟩) (B+1) (D.set j (sz,.isl .S (i+7) H 0 (n+1) sz,l)):=by
 have O:(iu R i ⟨H,.cells (cs++ps) 0 false⟩).length=R.length:=jz _ _ _ hi
 refine⟨fun p Y=> ?_,fun a b r K N=> ?_⟩
 ·obtain⟨a,r,rfl⟩:=List.getElem_of_mem Y
  rw[List.length_set]at r
  rw[List.getElem_set]
  by_cases F:j=a
  ·rw[if_pos F]
   exact .inr ⟨i,H,n+1,cs++ps,rfl,by rw[jK,if_pos rfl],by rw[O];exact hi,by rw[List.length_append,W,Nat.add_mul,V,Nat.one_mul],by omega,X⟩
  ·rw[if_neg F]
   have hd:=h.2 j a I r F
   rw[J,p6]at hd
   rcases h.1 D[a] (List.getElem_mem r)with q|⟨i',g2,n',So,q1,q2,q3,q4,q5,q6⟩
   ·exact .inl q
   ·refine .inr ⟨i',g2,n',So,q1, ?_,by rw[O];exact q3,q4,by omega,q6⟩
    rw[q1,p6]at hd
    rw[jK,if_neg (fun e=>by subst e;rcases hd with hd|hd <;> simp at hd)]
    exact q2
 ·rw[List.length_set]at r K
  rw[List.getElem_set,List.getElem_set]
  by_cases F:j=a
  ·rw[if_pos F,if_neg (by omega)]
   have:=h.2 j b I K (by omega)
   rw[J,p6]at this
   rw[p6];exact this
  ·rw[if_neg F]
   by_cases U:j=b
   ·rw[if_pos U]
    have:=h.2 a j r I (by omega)
    rw[J,p6]at this
    rw[p6];exact this
   ·rw[if_neg U];exact h.2 a b r K N
end Go.Proofs.YtcpceiclnbmgiaaGreat
