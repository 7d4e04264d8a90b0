/- Walks of functions of the program and of the reference, and their plain laws, part 11. Conditions: the theorems' own. -/
import Derived.Test.YtnkgnjecmfkcfaaGreatGS
import Derived.Test.YtnkgnjecmfkcfaaGreatM6
import Derived.Test.YtnkgnjecmfkcfaaGreatM10
import Derived.KernelRfl
set_option maxRecDepth 100000
set_option linter.unusedSimpArgs false
set_option linter.unusedVariables false
set_option maxHeartbeats 16000000
namespace Go.Proofs.YtnkgnjecmfkcfaaGreat
open Go Go.Ev
theorem awG(s:List Nat)(hs:s.length≤8)(fr:Fr)(lh:aD ah)(sh:List ah)(h0:aa fr 0= .s s)(J:aa fr 14= .i .i64 (s.length:Int))(K:aa fr 15= .i .i64 0):
  LpC pE 37 ui fr lh sh 0 2 (s.all FO=true) (.b false) (fun D F=>F=sh):=by
 refine m8 P0 (by simp[aQ]) (fun k f D F=>aa f 15= .i .i64 (k:Int)∧F=sh∧s.all FO=(s.drop k).all FO) s.length ⟨K,rfl,rfl⟩ ?_ ?_
 ·rintro k f D _ hk r ⟨H,rfl,hr⟩
  have I:(k:Int)<s.length:=yv
  have N:=aG (k:=k) yv
  have Rk:=yk hk
  rw[List.drop_eq_getElem_cons hk,List.all_cons]at hr
  simp only[qB,seval,gd,ui,r,h0,J,H,I,Rk,N]
  clear r Rk
  unfold FO G3 FD at*
  grind
 ·rintro f D _ r ⟨H,rfl,hr⟩
  rw[List.drop_length,List.all_nil]at hr
  simp only[qB,seval,gd,ui,r,J,H,Int.lt_irrefl,hr]
theorem X8(s:List Nat):ae pE 210 [.s s] []=some (.b (D3 s),[]):=by
 rw[au agV (by simp[P1])]
 unfold D3
 by_cases h:s.length≤8
 ·have r:=awG s h
  simp only[qB,seval,P1,r]
  clear r
  grind
 ·simp only[qB,seval,P1]
  grind
theorem vv(c:Nat):ae pE 236 [.i .u8 c] []=some (.b (decide (G3 c)),[]):=by
 rw[au ahf (by simp[P8])]
 by_cases h1:(65:Int)≤c
 ·by_cases h2:(c:Int)≤90 <;> simp only[qA,seval,P8,h1,h2,G3]
 ·simp only[qA,seval,P8,h1,G3]
theorem awH(s:List Nat)(hs:s.length≤gm)(fr:Fr)(lh:aD ah)(sh:List ah)(h0:aa fr 0= .s s)(h3:aa fr 3= .i .i64 0):
  LpC pE 30 uj fr lh sh 0 2 (s.all FO=true) (.b false) (fun D F=>F=sh):=by
 refine m8 Dn (by simp[aQ]) (fun k f D F=>aa f 3= .i .i64 (k:Int)∧F=sh∧s.all FO=(s.drop k).all FO) s.length ⟨h3,rfl,rfl⟩ ?_ ?_
 ·rintro k f D _ hk r ⟨H,rfl,hr⟩
  have I:(k:Int)<s.length:=yv
  have N:=X9 (k:=k) yv
  have Rk:=yk hk
  have J:=cG (vv s[k])
  have K:=cG (DS s[k])
  rw[List.drop_eq_getElem_cons hk,List.all_cons]at hr
  simp only[qB,seval,gd,uj,r,h0,H,I,Rk,N,J,K,ahg,agw]
  clear r Rk J K
  unfold FO at*
  grind
 ·rintro f D _ r ⟨H,rfl,hr⟩
  rw[List.drop_length,List.all_nil]at hr
  simp only[qB,seval,gd,uj,r,h0,H,Int.lt_irrefl,hr]
theorem Ya(s:List Nat)(hs:s.length≤gm):ae pE 237 [.s s] []=some (.b (D3 s),[]):=by
 rw[au ahh (by simp[Ud])]
 unfold D3
 have r:=awH s hs
 simp only[qB,seval,Ud,Dn,r]
 clear r
 grind
theorem awI(s:List Nat)(hs:s.length=3)(fr:Fr)(lh:aD ah)(sh:List ah)(h0:aa fr 0= .s s)(J:aa fr 8= .i .i64 (s.length:Int))(K:aa fr 9= .i .i64 0):
  LpC pE 23 tT fr lh sh 0 2 ((s.all fun c=>decide (G3 c))=true) (.b false) (fun D F=>F=sh):=by
 refine m8 PF (by simp[aQ]) (fun k f D F=>aa f 9= .i .i64 (k:Int)∧F=sh∧(s.all fun c=>decide (G3 c))=(s.drop k).all fun c=>decide (G3 c)) s.length ⟨K,rfl,rfl⟩ ?_ ?_
 ·rintro k f D _ hk r ⟨H,rfl,hr⟩
  have I:(k:Int)<s.length:=yv
  have N:=aG (k:=k) yv
  have Rk:=yk hk
  rw[List.drop_eq_getElem_cons hk,List.all_cons]at hr
  simp only[qB,seval,gd,tT,r,h0,J,H,I,Rk,N]
  clear r Rk
  unfold G3 at*
  grind
 ·rintro f D _ r ⟨H,rfl,hr⟩
  rw[List.drop_length,List.all_nil]at hr
  simp only[qB,seval,gd,tT,r,J,H,Int.lt_irrefl,hr]
theorem adY(s:List Nat):ae pE 127 [.s s] []=some (.b (CU s),[]):=by
 rw[au afZ (by simp[PG])]
 unfold CU
 by_cases h1:s.length=3
 ·have r:=awI s h1
  rw[h1]at r
  simp only[qB,seval,PG,h1,r]
  clear r
  grind
 ·have D: ¬(s.length:Int)=3:=yv
  simp only[qA,seval,PG,h1,D]
theorem adZ(s:List Nat):ae pE 163 [.s s] []=some (.b (CU s),[]):=by
 rw[au agr (by simp[PQ])]
 by_cases h1:s.length=3
 ·obtain⟨a,b,c,rfl⟩: ∃a b c,s= [a,b,c]:=by
   match s,h1 with
   | [a,b,c],_=>exact⟨a,b,c,rfl⟩
  have r:=vv a
  have D:=vv b
  have F:=vv c
  have H: ∀kk,CM (.s [a,b,c]) (.i kk 0)=some (.i .u8 (a:Int)):=fun kk=>yk (s:= [a,b,c]) (k:=0) xv kk
  have I: ∀kk,CM (.s [a,b,c]) (.i kk 1)=some (.i .u8 (b:Int)):=fun kk=>yk (s:= [a,b,c]) (k:=1) xv kk
  have J: ∀kk,CM (.s [a,b,c]) (.i kk 2)=some (.i .u8 (c:Int)):=fun kk=>yk (s:= [a,b,c]) (k:=2) xv kk
  have e:CU [a,b,c]=(decide (G3 a)&&(decide (G3 b)&&decide (G3 c))):=by simp[CU]
  rw[e]
  cases h1:decide (G3 a) <;> cases h2:decide (G3 b) <;> cases h3:decide (G3 c) <;> rw[h1]at r <;> rw[h2]at D <;> rw[h3]at F <;> simp only[qA,seval,PQ,H,I,J,r,D,F,ahg]
 ·have K: ¬(s.length:Int)=3:=yv
  have e:CU s=false:=by simp[CU,h1]
  rw[e]
  simp only[qA,seval,PQ,K]
theorem aC4(r D F:Int)(fr:Fr)(lh:aD ah)(sh:List ah)(I:aa fr 62= .agg [.i .i64 r,.i .i64 D,.i .i64 F])(AH:aa fr 63= .i .i64 0):
  pG pE 73 tU fr lh sh 1 4 (if [r,D,F].all pJ then 0 else 5) (fun J K=>K=sh):=by
 refine bX PH (fun k f J K=>aa f 63= .i .i64 (k:Int)∧K=sh∧ [r,D,F].all pJ=([r,D,F].drop k).all pJ) 3 ⟨AH,rfl,rfl⟩ ?_ ?_
 ·rintro k f J _ hk H ⟨N,rfl,hr⟩
  have hc:k=0∨k=1∨k=2:=yv
  unfold pJ at*
  rcases hc with rfl|rfl|rfl <;> simp only[qB,seval,gd,abY,tU,H,I,N,Int.ofNat_zero,Int.ofNat_one] <;> clear H <;> simp at hr ⊢ <;> grind
 ·rintro f J _ H ⟨N,rfl,hr⟩
  simp only[qB,seval,gd,tU,H,N,Int.lt_irrefl,hr]
theorem alD(r:List (List Nat))(f:Fl):ae pE 128 [.agg (ti f),.vm (SN r) (SO r)] []=some (.i .i64 (CV r f),[]):=by
 have D:=cG (X8 f.nu)
 have F:=cG (ve f.ty)
 have H:=Je r f.fr
 have I:=Je r f.to
 have J:=aC4 f.n0 f.n1 f.n2
 have O:= @bj (f.ar-f.dp)
 rw[au af1 (by simp[Tq])]
 unfold CV ti
 by_cases K:f.fr∈r <;> by_cases N:f.to∈r <;> simp only[qB,seval,Tq,D,F,aud,Qk,H,I,K,N,J]
 all_goals clear J D F H I
 all_goals try unfold Jd
 all_goals grind (splits:=30)
theorem ad0(f g:Fl):ae pE 129 [.agg (ti f),.agg (ti g)] []=some (.b (FQ f g),[]):=by
 rw[au UJ (by simp[Ts])]
 unfold FQ ti
 by_cases h:f.dp=g.dp <;> simp only[qA,seval,Ts,h]
theorem aC5(l:List Zo)(a:T)(Y:List T)(ha:IsSl a l.length Y)(hc:aB Ci l Y)(Z:l.length≤100)(g:Nat)(U D:ah)(fr:Fr)(lh:aD ah)(sh:List ah)
  (h3:aa fr 3= .mp .L 29 g) (J:aa fr 31=a) (V:aa fr 32= .i .i64 (l.length:Int)) (Bs:aa fr 33= .i .i64 0) (F:ab lh 1=U) (Jf:ab lh 29=⟨g,.map [] [] false⟩) (H:ab lh 50=D):
  pG pE 106 wJ fr lh sh 0 2 (G5 [] l) (fun r W=>(G5 [] l=0→ab r 29=⟨g,.map (SN (l.map Zo.nm)) (SO (l.map Zo.nm)) false⟩)∧ab r 1=U∧ab r 50=D∧W=sh):=by
 refine bX HA (fun k f r W=>aa f 33= .i .i64 (k:Int)∧ab r 29=⟨g,.map (SN ((l.take k).map Zo.nm)) (SO ((l.take k).map Zo.nm)) false⟩∧ab r 1=U∧ab r 50=D∧W=sh∧G5 [] l=G5 ((l.take k).map Zo.nm) (l.drop k)) l.length ⟨Bs,Jf,F,H,rfl,rfl⟩ ?_ ?_
 ·rintro k f r _ hk I ⟨O,Jf,F,H,rfl,hr⟩
  rw[List.drop_eq_getElem_cons hk,G5]at hr
  have K:(k:Int)<l.length:=yv
  have hw:=aG (k:=k) yv
  obtain⟨sT,sc,rr,N,X,GX⟩:=Jb ha hc k hk
  have hz:=Bv l[k] sT sc X GX
  have fg:=Je ((l.take k).map Zo.nm) l[k].nm
  have iQ:=X7 ((l.take k).map Zo.nm) l[k].nm
  have iw:=vu Zo.nm hk
  by_cases hs:l[k].nm∈(l.take k).map Zo.nm
  ·simp only[qB,seval,gd,wJ,I,h3,J,V,O,Jf,F,H,K,N,X.froz1,hz,M7,bW,fg,hs]
   clear I
   grind
  ·simp only[qB,seval,gd,wJ,I,h3,J,V,O,Jf,F,H,K,N,hw,X.froz1,hz,M7,bW,fg,hs,oU,yj,iQ hs,iw]
   clear I
   grind
 ·rintro f r _ I ⟨O,Jf,F,H,rfl,hr⟩
  rw[List.take_length]at Jf
  simp only[qB,seval,gd,wJ,I,V,O,Jf,F,H,Int.lt_irrefl,hr,List.drop_length,G5]
  exact fun _=>trivial
theorem aC7(r:List (List Nat))(l:List Ap)(a:T)(X:List T)(ha:IsSl a l.length X)(hc:aB L3 l X)(Y:l.length≤100)(g O:Nat)(U:ah)(fr:Fr)(lh:aD ah)(sh:List ah)
  (h3:aa fr 3= .mp .L 29 O) (Z:aa fr 7= .mp .L 50 g) (SP:aa fr 52=a) (D4:aa fr 53= .i .i64 (l.length:Int)) (G8:aa fr 54= .i .i64 0) (H:ab lh 1=U) (Jf:ab lh 29=⟨O,.map (SN r) (SO r) false⟩) (F:ab lh 50=⟨g,.map [] [] false⟩):
  pG pE 106 wI fr lh sh 2 2 (G6 r [] l) (fun D V=>(G6 r [] l=0→ab D 50=⟨g,.map (SN (l.map Ap.cd)) (SO (l.map Ap.cd)) false⟩)∧ab D 1=U∧V=sh):=by
 refine bX Hz (fun k f D V=>aa f 54= .i .i64 (k:Int)∧ab D 50=⟨g,.map (SN ((l.take k).map Ap.cd)) (SO ((l.take k).map Ap.cd)) false⟩∧ab D 1=U∧ab D 29=⟨O,.map (SN r) (SO r) false⟩∧V=sh∧G6 r [] l=G6 r ((l.take k).map Ap.cd) (l.drop k)) l.length ⟨G8,F,H,Jf,rfl,rfl⟩ ?_ ?_
 ·rintro k f D _ hk I ⟨N,F,H,Jf,rfl,hr⟩
  rw[List.drop_eq_getElem_cons hk,G6]at hr
  have J:(k:Int)<l.length:=yv
  have hw:=aG (k:=k) yv
  obtain⟨rr,K⟩:=Jc ha hc k hk
  have hp:=cG (adY l[k].cd)
  have fg:=Je ((l.take k).map Ap.cd) l[k].cd
  have iQ:=X7 ((l.take k).map Ap.cd) l[k].cd
  have W:=Je r l[k].zn
  have iw:=vu Ap.cd hk
  by_cases hs:l[k].cd∈(l.take k).map Ap.cd
  ·simp only[qB,seval,gd,wI,I,Z,SP,D4,N,F,H,Jf,J,K,hp,af0,bW,fg,hs]
   clear I
   grind
  ·by_cases hz:l[k].zn∈r <;> simp only[qB,seval,gd,wI,I,h3,Z,SP,D4,N,F,H,Jf,J,K,hw,hp,af0,bW,fg,hs,W,hz,oU,yj,iQ hs,iw] <;> clear I <;> grind
 ·rintro f D _ I ⟨N,F,H,Jf,rfl,hr⟩
  rw[List.take_length]at F
  simp only[qB,seval,gd,wI,I,D4,N,F,H,Int.lt_irrefl,hr,List.drop_length,G6]
  exact fun _=>trivial
def pK(l:List Fl)(k:Nat):Option Fl:=if k=0 then none else l[k-1]?
theorem D5{l:List Fl}{k:Nat}(h0:0<k)(hk:k-1<l.length):pK l k=some l[k-1]:=by
 unfold pK;rw[if_neg yv,List.getElem?_eq_getElem hk]
theorem Yb(r:List (List Nat)){l:List Fl}{k:Nat}(hk:k<l.length):Cj r (pK l k) (l.drop k)=if CV r l[k]≠0 then CV r l[k]else if(match pK l k with|some p=> !FQ p l[k]|none=>false)=true then 8 else Cj r (pK l (k+1)) (l.drop (k+1)):=by
 have e:pK l (k+1)=some l[k]:=by unfold pK;rw[if_neg yv,Nat.add_sub_cancel,List.getElem?_eq_getElem hk]
 rw[List.drop_eq_getElem_cons hk,e]
 conv=>lhs;unfold Cj
 try rfl
theorem aC9(r:List (List Nat))(zT aT:T)(l:List Fl)(a:T)(cc:List T)(ha:IsSl a l.length cc)(hc:aB SM l cc)(hlen:l.length≤1000)(g:Nat)(fr:Fr)(lh:aD ah)(sh:List ah)
  (h1:aa fr 1= .ptr .L 1 1 0) (h7:aa fr 7= .mp .L 50 g) (H:aa fr 79=a) (D:aa fr 80= .i .i64 (l.length:Int)) (V:aa fr 81= .i .i64 0) (I:ab lh 1=⟨1,.cells [zT,aT,a] 0 true⟩) (J:ab lh 50=⟨g,.map (SN r) (SO r) false⟩):
  pG pE 106 wH fr lh sh 5 2 (Cj r none l) (fun K W=>W=sh):=by
 refine bX S8 (fun k f K W=>aa f 81= .i .i64 (k:Int)∧ab K 1=⟨1,.cells [zT,aT,a] 0 true⟩∧(∃X,ab K 50=⟨g,.map (SN r) (SO r) X⟩)∧W=sh∧Cj r none l=Cj r (pK l k) (l.drop k)) l.length ⟨V,I,⟨_,J⟩,rfl,rfl⟩ ?_ ?_
 ·rintro k f K _ hk F ⟨U,I,⟨X,J⟩,rfl,hr⟩
  rw[Yb r hk]at hr
  have N:(k:Int)<l.length:=yv
  have hw:=aG (k:=k) yv
  obtain⟨rr,O⟩:=mI ha hc k hk
  have Y:=alD r l[k]
  unfold ti at Y
  by_cases yF:k=0
  ·have Z: ¬(0:Int)<k:=yv
   have hp:pK l k=none:=by rw[yF];rfl
   simp only[qB,seval,gd,bp,wH,F,h7,H,D,U,I,J,N,O,hw,Y,af2,Z]
   clear F
   grind
  ·have Z:(0:Int)<k:=yv
   have zi:=iY (k:=k) yv yv
   obtain⟨r2,KI⟩:=mI ha hc (k-1) yv
   have hb:=cG (ad0 l[k-1] l[k])
   have hp:=D5 (l:=l) (k:=k) yv yv
   unfold ti at hb
   simp only[qB,seval,gd,bp,aH,wH,F,h1,h7,H,D,U,I,J,N,O,hw,Y,af2,Z,zi,KI,hb,aty,atz]
   clear F
   grind
 ·rintro f K _ F ⟨U,I,⟨X,J⟩,rfl,hr⟩
  simp only[qB,seval,gd,wH,F,D,U,Int.lt_irrefl,hr,List.drop_length,Cj]
structure kN (t:Tt) (zT aT fT:T):Prop where
 z: ∃c,IsSl zT t.zo.length c∧aB Ci t.zo c
 a: ∃c,IsSl aT t.ap.length c∧aB L3 t.ap c
 f: ∃c,IsSl fT t.fl.length c∧aB SM t.fl c
theorem alE(t:Tt)(r D F:T)(W:kN t r D F):ae pE 70 [.agg [r,D,F]] []=some (.i .i64 (nR t),[]):=by
 obtain⟨⟨X,H,Y⟩,⟨ac,a1,a2⟩,⟨Z,I,f2⟩⟩:=W
 rw[au asY (by simp[c70])]
 unfold nR
 by_cases q:t.zo.length≤16∧t.ap.length≤64∧t.fl.length≤200
 ·have O:=fun fr lh sh h3 J ym Bs K Jf N=>lpO (aC5 t.zo r X H Y yv 1 ⟨1,.cells [r,D,F] 0 true⟩ ⟨0,.none⟩ fr lh sh h3 J ym Bs K Jf N) xv
  have U:=fun fr lh sh h3 h7 SP D4 G8 K Jf N=>lpO (aC7 (t.zo.map Zo.nm) t.ap D ac a1 a2 yv 1 1 ⟨1,.cells [r,D,F] 0 true⟩ fr lh sh h3 h7 SP D4 G8 K Jf N) xv
  have V:=aC9 (t.ap.map Ap.cd) r D t.fl F Z I f2 yv 1
  simp(maxDischargeDepth:=6) only[qB,seval,c70,Hz,HA,H.lenI,a1.lenI,I.lenI,O,U,V]
  clear O U V
  grind
 ·simp only[qB,seval,c70,H.lenI,a1.lenI,I.lenI]
  grind
theorem qH: ∀a:List Nat,lessN a a=false
 | []=>rfl
 |x::a=>by simp[lessN,qH a]
theorem D6: ∀a b:List Nat,lessN a b=true→lessN b a=false
 | [],[],h=>by simp[lessN]at h
 | [],y::b,h=>rfl
 |x::a,[],h=>by simp[lessN]at h
 |x::a,y::b,h=>by
  simp[lessN]at h ⊢
  refine⟨by omega,fun e=> ?_⟩
  subst e
  rcases h with h|h
  ·omega
  ·exact D6 a b h.2
theorem vw: ∀a b:List Nat,lessN a b=false→lessN b a=false→a=b
 | [],[],_,_=>rfl
 | [],y::b,h,_=>by simp[lessN]at h
 |x::a,[],_,h=>by simp[lessN]at h
 |x::a,y::b,h1,h2=>by
  simp[lessN]at h1 h2
  have:x=y:=yv
  subst this
  rw[vw a b (by simpa using h1) (by simpa using h2)]
theorem ad1(a b:List Nat):(lessN a b||a==b)= !lessN b a:=by
 cases h:lessN b a with
 |true=>
  rw[D6 _ _ h]
  have:a≠b:=fun e=>by subst e;rw[qH]at h;cases h
  simp[this]
 |false=>
  cases h2:lessN a b with
  |true=>rfl
  |false=>rw[vw _ _ h2 h];simp
theorem Jg{s t:List Nat}:Ev.bin .leq (.s s) (.s t)=some (.b (!lessN t s)):=by
 rw[←ad1];rfl
def ixA(s:List Nat):List (List Nat)→Nat→Int
 | [],_=> -1
 |x::r,k=>if x=s then(k:Int)else ixA s r (k+1)
theorem zk(s:List Nat): ∀(l:List (List Nat)) (k:Nat),ixA s l k<0↔s∉l
 | [],k=>by simp[ixA]
 |x::r,k=>by
  rw[ixA]
  by_cases h:x=s
  ·rw[if_pos h];subst h;simp
  ·rw[if_neg h,zk s r (k+1)]
   simp[Ne.symm h]
theorem Bx(s:List Nat): ∀(ns:List (List Nat)) (k:Nat),ixA s ns k<0→ixA s ns k= -1
 | [],_,_=>rfl
 |x::ns,k,h=>by
  rw[ixA]at h ⊢
  by_cases e:x=s
  ·rw[if_pos e]at h;omega
  ·rw[if_neg e]at h ⊢; exact Bx s ns _ h
theorem zi1(s:List Nat)(l:List Zo)(a:T)(N:List T)(D:IsSl a l.length N)(hc:aB Ci l N)(O:l.length≤1000)(fr:Fr)(lh:aD ah)(sh:List ah)(h0:aa fr 0=a)(h1:aa fr 1= .s s)(h5:aa fr 5= .i .i64 0):
  LpC pE 20 tY fr lh sh 0 4 (ixA s (l.map Zo.nm) 0<0) (.i .i64 (ixA s (l.map Zo.nm) 0)) (fun F H=>H=sh):=by
 refine m8 PO (by simp[aQ]) (fun k f F H=>aa f 5= .i .i64 (k:Int)∧H=sh∧ixA s (l.map Zo.nm) 0=ixA s ((l.drop k).map Zo.nm) k) l.length ⟨h5,rfl,rfl⟩ ?_ ?_
 ·rintro k f F _ hk r ⟨I,rfl,hr⟩
  have J:(k:Int)<l.length:=yv
  have U:=aG (k:=k) yv
  obtain⟨V,W,X,K,_⟩:=Jb D hc k hk
  rw[List.drop_eq_getElem_cons hk,List.map_cons,ixA]at hr
  simp only[qB,seval,gd,tY,r,h0,h1,I,D.lenI,J,K,U]
  clear r
  grind
 ·rintro f F _ r ⟨I,rfl,hr⟩
  simp only[qB,seval,gd,tY,r,h0,I,D.lenI,Int.lt_irrefl,hr,List.drop_length,List.map_nil,ixA]
theorem aif(s:List Nat)(l:List Zo)(a:T)(D:List T)(H:IsSl a l.length D)(hc:aB Ci l D)(r:l.length≤1000):ae pE 162 [a,.s s] []=some (.i .i64 (ixA s (l.map Zo.nm) 0),[]):=by
 have F:=zi1 s l a D H hc r
 have Yc:=Bx s (l.map Zo.nm) 0
 rw[au US (by simp[TF])]
 simp only[qB,seval,TF,F]
 clear F
 grind
theorem aih(s:List Nat)(l:List Zo)(a:T)(D:List T)(F:IsSl a l.length D)(hc:aB Ci l D)(r:l.length≤1000): ∃v:Int,ae pE 162 [a,.s s] []=some (.i .i64 v,[])∧(v<0↔s∉l.map Zo.nm):=⟨_,aif s l a D F hc r,zk s _ 0⟩
theorem ai1(s:List Nat)(l:List Ap)(a:T)(N:List T)(D:IsSl a l.length N)(hc:aB L3 l N)(O:l.length≤1000)(fr:Fr)(lh:aD ah)(sh:List ah)(h0:aa fr 0=a)(h1:aa fr 1= .s s)(h5:aa fr 5= .i .i64 0):
  LpC pE 20 tZ fr lh sh 0 4 (ixA s (l.map Ap.cd) 0<0) (.i .i64 (ixA s (l.map Ap.cd) 0)) (fun F H=>H=sh):=by
 refine m8 PR (by simp[aQ]) (fun k f F H=>aa f 5= .i .i64 (k:Int)∧H=sh∧ixA s (l.map Ap.cd) 0=ixA s ((l.drop k).map Ap.cd) k) l.length ⟨h5,rfl,rfl⟩ ?_ ?_
 ·rintro k f F _ hk r ⟨I,rfl,hr⟩
  have J:(k:Int)<l.length:=yv
  have U:=aG (k:=k) yv
  obtain⟨V,K⟩:=Jc D hc k hk
  rw[List.drop_eq_getElem_cons hk,List.map_cons,ixA]at hr
  simp only[qB,seval,gd,tZ,r,h0,h1,I,D.lenI,J,K,U]
  clear r
  grind
 ·rintro f F _ r ⟨I,rfl,hr⟩
  simp only[qB,seval,gd,tZ,r,h0,I,D.lenI,Int.lt_irrefl,hr,List.drop_length,List.map_nil,ixA]
theorem aii(s:List Nat)(l:List Ap)(a:T)(D:List T)(H:IsSl a l.length D)(hc:aB L3 l D)(r:l.length≤1000):ae pE 164 [a,.s s] []=some (.i .i64 (ixA s (l.map Ap.cd) 0),[]):=by
 have F:=ai1 s l a D H hc r
 have Yc:=Bx s (l.map Ap.cd) 0
 rw[au UU (by simp[TG])]
 simp only[qB,seval,TG,F]
 clear F
 grind
theorem Yd(s:List Nat)(l:List Ap)(a:T)(D:List T)(F:IsSl a l.length D)(hc:aB L3 l D)(r:l.length≤1000): ∃v:Int,ae pE 164 [a,.s s] []=some (.i .i64 v,[])∧(v<0↔s∉l.map Ap.cd):=⟨_,aii s l a D F hc r,zk s _ 0⟩
theorem aDb(f:Fl)(J c7:ah)(fr:Fr)(lh:aD ah)(sh:List ah)(h5:aa fr 5= .ptr .L 5 1 0)(h6:aa fr 6= .i .i64 0)(K:ab lh 2=J)(F:ab lh 5=⟨1,.cells (ti f) 0 true⟩)(N:ab lh 7=c7):
  pG pE 108 ua fr lh sh 0 4 (if [f.n0,f.n1,f.n2].all pJ then 0 else 5) (fun r H=>ab r 2=J∧ab r 5=⟨1,.cells (ti f) 0 true⟩∧ab r 7=c7∧H=sh):=by
 refine bX wN (fun k g r H=>aa g 6= .i .i64 (k:Int)∧r=lh∧H=sh∧ [f.n0,f.n1,f.n2].all pJ=([f.n0,f.n1,f.n2].drop k).all pJ) 3 ⟨h6,rfl,rfl,rfl⟩ ?_ ?_
 ·rintro k g _ _ hk D ⟨I,rfl,rfl,hr⟩
  have hc:k=0∨k=1∨k=2:=yv
  unfold pJ at*
  unfold ti at F ⊢
  rcases hc with rfl|rfl|rfl <;> simp only[qB,seval,gd,eO,ua,D,h5,I,K,F,N,Int.ofNat_zero,Int.ofNat_one] <;> clear D <;> simp at hr ⊢ <;> grind
 ·rintro g _ _ D ⟨I,rfl,rfl,hr⟩
  simp only[qB,seval,gd,ua,D,I,K,F,N,Int.lt_irrefl,hr]
def flS(D:List (List Nat))(r:Option Fl)(f:Fl):Int:=if CV D f≠0 then CV D f else if(match r with|some p=> !FQ p f|none=>false)=true then 8 else 0
theorem L4(t:Tt)(O r U:T)(Y:kN t O r U)(ha:t.ap.length≤100)(hf:t.fl.length≤1000)(Z: ∀f∈t.fl,f.nu.length≤gm)(k:Nat)(hk:k<t.fl.length):
  ae pE 165 [.agg [O,r,U],.i .i64 (k:Int)] []=some (.i .i64 (flS (t.ap.map Ap.cd) (pK t.fl k) t.fl[k]),[]):=by
 obtain⟨⟨zc,z1,z2⟩,⟨ac,a1,a2⟩,⟨fc,W,X⟩⟩:=Y
 obtain⟨rr,D⟩:=mI W X k hk
 have I:=cG (Ya t.fl[k].nu (Z _ (List.getElem_mem hk)))
 have J:=cG (Bk t.fl[k].ty)
 obtain⟨v1,K,e1⟩:=Yd t.fl[k].fr t.ap r ac a1 a2 yv
 obtain⟨v2,N,e2⟩:=Yd t.fl[k].to t.ap r ac a1 a2 yv
 have F:=aDb t.fl[k] ⟨1,.cells [O,r,U] 0 true⟩ ⟨0,.none⟩
 have hw:= @bj (t.fl[k].ar-t.fl[k].dp)
 rw[au ags (by simp[PS])]
 unfold ti at F
 by_cases yF:k=0
 ·have V: ¬(0:Int)<k:=yv
  have hp:pK t.fl k=none:=by rw[yF];rfl
  rw[hp]
  simp only[qB,seval,PS,wN,a1.froz,D,I,J,ahi,UC,K,N,Nb,F,V]
  clear F I J K N
  unfold flS CV Jd
  grind (splits:=30)
 ·have V:(0:Int)<k:=yv
  have zi:=iY (k:=k) yv yv
  obtain⟨r2,KI⟩:=mI W X (k-1) yv
  rw[D5 yv yv]
  have H:Ev.bin .leq (.s t.fl[k].nu) (.s t.fl[k-1].nu)=if lessN t.fl[k-1].nu t.fl[k].nu=true then some (.b false)else some (.b true):=by rw[Jg];cases lessN t.fl[k-1].nu t.fl[k].nu <;> rfl
  simp only[qB,seval,PS,wN,a1.froz,D,I,J,ahi,UC,K,N,Nb,F,V,zi,KI,H]
  clear F I J K N H
  unfold flS CV Jd FQ
  grind (splits:=30)
theorem aB.take{α:Type}{R:α→List T→Prop}{k:Nat}(D: ∀x c,R x c→c.length=k): ∀{xs:List α} {cs:List T} (i:Nat),aB R xs cs→aB R (xs.take i) (cs.take (i*k))
 | [],cs,i,h=>by rw[aB]at h;subst h;simp[aB]
 |x::xs,cs,0,h=>by simp[aB]
 |x::xs,cs,i+1,h=>by
  rw[aB]at h
  obtain⟨c,r,rfl,h1,h2⟩:=h
  have e:(c++r).take ((i+1)*k)=c++r.take (i*k):=by
   rw[show(i+1)*k=c.length+i*k by rw[D _ _ h1,Nat.add_mul,Nat.one_mul,Nat.add_comm],List.take_append,List.take_of_length_le yv,Nat.add_sub_cancel_left]
  rw[e]
  exact⟨c,r.take (i*k),rfl,h1,aB.take D i h2⟩
theorem Ye{n i:Nat}{a:T}{r:List T}(hi:i<n)(D:IsSl a n r): ∃ex,a= .sl r n ex:=by
 rcases D with⟨_,hz,_⟩|⟨ex,rfl⟩
 ·omega
 ·exact⟨ex,rfl⟩
theorem aDc(l:List Zo)(N O a:T)(I:List T)(J:IsSl a l.length I)(hc:aB Ci l I)(Z:l.length≤100)(fr:Fr)(lh:aD ah)(sh:List ah)
  (h1:aa fr 1= .ptr .L 1 1 0) (h3:aa fr 3= .i .i64 0) (r:ab lh 1=⟨1,.cells [a,N,O] 0 true⟩):
  pG pE 96 Ac fr lh sh 0 2 (G5 [] l) (fun D U=>ab D 1=⟨1,.cells [a,N,O] 0 true⟩∧U=sh):=by
 refine bX HL (fun k f D U=>aa f 3= .i .i64 (k:Int)∧ab D 1=⟨1,.cells [a,N,O] 0 true⟩∧U=sh∧G5 [] l=G5 ((l.take k).map Zo.nm) (l.drop k)) l.length ⟨h3,r,rfl,rfl⟩ ?_ ?_
 ·rintro k f D _ hk K ⟨V,r,rfl,hr⟩
  have W:(k:Int)<l.length:=yv
  have F:k≤l.length:=yv
  have hw:=aG (k:=k) yv
  obtain⟨sT,sc,rr,X,sw,GX⟩:=Jb J hc k hk
  have hz:=Bw l[k] sT sc sw GX
  have Y:=aB.len Ci.len hc
  obtain⟨ex,rfl⟩:=Ye hk J
  have H:(l.take k).length=k:=by rw[List.length_take,Nat.min_eq_left F]
  obtain⟨v,EV,wS⟩:=aih l[k].nm (l.take k) (.sl (I.take (k*3)) k (ex&&decide (k=l.length))) (I.take (k*3)) (by rw[H];exact Or.inr ⟨_,rfl⟩) (aB.take Ci.len k hc) (by rw[H];omega)
  rw[List.drop_eq_getElem_cons hk,G5]at hr
  have iw:=vu Zo.nm hk
  simp only[qB,seval,gd,te,bp,aH,Ac,K,h1,V,r,J.lenI,W,F,Y,Nat.sub_zero,X,hw,sw.froz1,hz,UR,EV,UT,agq]
  clear K
  grind
 ·rintro f D _ K ⟨V,r,rfl,hr⟩
  simp only[qB,seval,gd,Ac,K,h1,V,r,J.lenI,Int.lt_irrefl,hr,List.drop_length,G5]
theorem aDd(r:List Zo)(D:T)(U:List T)(z1:IsSl D r.length U)(z2:aB Ci r U)(hzl:r.length≤100)(l:List Ap)(V a:T)(K:List T)(N:IsSl a l.length K)(hc:aB L3 l K)(hlen:l.length≤100)(fr:Fr)(lh:aD ah)(sh:List ah)
  (h1:aa fr 1= .ptr .L 1 1 0) (h5:aa fr 5= .i .i64 0) (F:ab lh 1=⟨1,.cells [D,a,V] 0 true⟩):
  pG pE 96 Ab fr lh sh 2 2 (G6 (r.map Zo.nm) [] l) (fun H W=>ab H 1=⟨1,.cells [D,a,V] 0 true⟩∧W=sh):=by
 refine bX HK (fun k f H W=>aa f 5= .i .i64 (k:Int)∧ab H 1=⟨1,.cells [D,a,V] 0 true⟩∧W=sh∧G6 (r.map Zo.nm) [] l=G6 (r.map Zo.nm) ((l.take k).map Ap.cd) (l.drop k)) l.length ⟨h5,F,rfl,rfl⟩ ?_ ?_
 ·rintro k f H _ hk O ⟨X,F,rfl,hr⟩
  have Y:(k:Int)<l.length:=yv
  have I:k≤l.length:=yv
  have hw:=aG (k:=k) yv
  obtain⟨rr,Z⟩:=Jc N hc k hk
  have hp:=cG (adZ l[k].cd)
  have hcl:=aB.len L3.len hc
  obtain⟨ex,rfl⟩:=Ye hk N
  have J:(l.take k).length=k:=by rw[List.length_take,Nat.min_eq_left I]
  obtain⟨v,EV,wS⟩:=Yd l[k].cd (l.take k) (.sl (K.take (k*2)) k (ex&&decide (k=l.length))) (K.take (k*2)) (by rw[J];exact Or.inr ⟨_,rfl⟩) (aB.take L3.len k hc) (by rw[J];omega)
  obtain⟨u,hu1,hu2⟩:=aih l[k].zn r D U z1 z2 yv
  rw[List.drop_eq_getElem_cons hk,G6]at hr
  have iw:=vu Ap.cd hk
  simp only[qB,seval,gd,te,bp,aH,Ab,O,h1,X,F,N.lenI,Y,I,hcl,Nat.sub_zero,Z,hw,hp,atM,EV,Nb,atN,z1.froz,hu1,UT]
  clear O
  grind
 ·rintro f H _ O ⟨X,F,rfl,hr⟩
  simp only[qB,seval,gd,Ab,O,h1,X,F,N.lenI,Int.lt_irrefl,hr,List.drop_length,G6]
theorem aDe(t:Tt)(D F H:T)(W:kN t D F H)(Y:t.ap.length≤100)(Z:t.fl.length≤1000)(hN: ∀f∈t.fl,f.nu.length≤gm)(fr:Fr)(lh:aD ah)(sh:List ah)
  (h1:aa fr 1= .ptr .L 1 1 0) (h7:aa fr 7= .i .i64 0) (r:ab lh 1=⟨1,.cells [D,F,H] 0 true⟩):
  pG pE 96 Aa fr lh sh 4 2 (Cj (t.ap.map Ap.cd) none t.fl) (fun I K=>K=sh):=by
 have N:=W
 obtain⟨⟨zc,z1,z2⟩,⟨ac,a1,a2⟩,⟨fc,O,f2⟩⟩:=N
 refine bX Tf (fun k f I K=>aa f 7= .i .i64 (k:Int)∧ab I 1=⟨1,.cells [D,F,H] 0 true⟩∧K=sh∧Cj (t.ap.map Ap.cd) none t.fl=Cj (t.ap.map Ap.cd) (pK t.fl k) (t.fl.drop k)) t.fl.length ⟨h7,r,rfl,rfl⟩ ?_ ?_
 ·rintro k f I _ hk J ⟨U,r,rfl,hr⟩
  have V:(k:Int)<t.fl.length:=yv
  have hw:=aG (k:=k) yv
  have X:=L4 t D F H W Y Z hN k hk
  rw[Yb _ hk]at hr
  simp only[qB,seval,gd,Aa,J,h1,U,r,z1.froz1,a1.froz1,O.froz1,O.lenI,V,hw,X,atO]
  clear J X
  unfold flS
  grind
 ·rintro f I _ J ⟨U,r,rfl,hr⟩
  simp only[qB,seval,gd,Aa,J,h1,U,r,O.lenI,Int.lt_irrefl,hr,List.drop_length,Cj]
theorem alG(t:Tt)(r D F:T)(J:kN t r D F)(X: ∀f∈t.fl,f.nu.length≤gm):ae pE 92 [.agg [r,D,F]] []=some (.i .i64 (nR t),[]):=by
 have I:=J
 obtain⟨⟨K,H,N⟩,⟨ac,a1,a2⟩,⟨Y,O,Z⟩⟩:=I
 rw[au atd (by simp[c92])]
 unfold nR
 by_cases q:t.zo.length≤16∧t.ap.length≤64∧t.fl.length≤200
 ·have U:=aDc t.zo D F r K H N yv
  have V:=aDd t.zo r K H N yv t.ap F D ac a1 a2 yv
  have W:=aDe t r D F J yv yv X
  simp(maxDischargeDepth:=6) only[qB,seval,c92,HK,HL,H.lenI,a1.lenI,O.lenI,U,V,W]
  clear U V W
  grind
 ·simp only[qB,seval,c92,H.lenI,a1.lenI,O.lenI]
  grind
def By(sz:Nat):T→Bool
 | .sl r 1 _=>decide (r.length=sz∧0<sz)
 |_=>false
def D7(sz:Nat):T→Bool
 | .nilsl=>true
 | .isl .S _ _ 0 _ r=>decide (r=sz)
 |_=>false
def Om(sh:List ah)(k bytes g len sz:Nat)(r:List T)(e:ah):Option (T×List ah):=match e.ob with
 | .cells cs D false=>if e.g=g∧len*sz=cs.length∧(len+1)*bytes≤roomy then some (.isl .S k (g+1) 0 (len+1) sz,bI sh k ⟨g+1,.cells (cs++r) D false⟩)else none
 |_=>none
def alH(sh:List ah)(bytes sz:Nat):T→T→Option (T×List ah)
 | .nilsl,.sl r 1 _=>if bytes≤roomy then some (.isl .S sh.length 1 0 1 sz,bI sh sh.length ⟨1,.cells r 0 false⟩)else none
 | .isl .S k g 0 len _,.sl r 1 _=>Om sh k bytes g len sz r (aI sh k)
 |_,_=>none
theorem aZ{sz:Nat}{r:List T}{ex:Bool}:By sz (.sl r 1 ex)=decide (r.length=sz∧0<sz):=nr rfl
theorem cL{sz:Nat}:D7 sz .nilsl=true:=nr rfl
theorem dC{k g len sz r:Nat}:D7 sz (.isl .S k g 0 len r)=decide (r=sz):=nr rfl
theorem dg{sh:List ah}{bytes sz:Nat}{r:List T}{ex:Bool}:alH sh bytes sz .nilsl (.sl r 1 ex)=if bytes≤roomy then some (.isl .S sh.length 1 0 1 sz,bI sh sh.length ⟨1,.cells r 0 false⟩)else none:=nr rfl
theorem eb{sh:List ah}{k g len bytes sz D:Nat}{r:List T}{ex:Bool}:alH sh bytes sz (.isl .S k g 0 len D) (.sl r 1 ex)=Om sh k bytes g len sz r (aI sh k):=nr rfl
theorem cw{sh:List ah}{k g r len bytes D sz:Nat}{F:List T}{cs:List T}:Om sh k bytes g len sz F ⟨r,.cells cs D false⟩=if r=g∧len*sz=cs.length∧(len+1)*bytes≤roomy then some (.isl .S k (g+1) 0 (len+1) sz,bI sh k ⟨g+1,.cells (cs++F) D false⟩)else none:=nr rfl
theorem D8{sz:Nat}{t:T}(h:By sz t=true): ∃r ex,t= .sl r 1 ex∧r.length=sz∧0<sz:=by
 unfold By at h
 grind
theorem Jh{sz:Nat}{t:T}(h:D7 sz t=true):t= .nilsl∨ ∃k g len,t= .isl .S k g 0 len sz:=by
 unfold D7 at h
 grind
section
variable{E:Env}{call:jP}{n:Nat}{fr:Fr}{lh:aD ah}{sh:List ah}{ds:List (List Nat×aF)}{br:List FP}{d:Option Nat}{os:List aF}
theorem cI{F sz bytes:Nat}{s x:aP}(N:F<n)(hx:By sz (rd fr x)=true)(hs:D7 sz (rd fr s)=true):ai E call n (⟨some F,.app sz bytes s x true false,none⟩::os) ⟨fr,lh,sh⟩=
  (alH sh bytes sz (rd fr s) (rd fr x)).bind fun q=>ai E call n os ⟨cH fr F q.1,lh,q.2⟩:=by
 obtain⟨O,ex,hx,W,U⟩:=D8 hx
 have r:O.length=1*sz:=yv
 rw[kI (by rfl) (show CJ n (some F)from N)]
 unfold Ev.one
 rcases Jh hs with hs|⟨k,g,len,hs⟩
 ·simp only[bz,jO,bt,hs,hx,cm,r,if_true,Q.run,Option.bind_some,dg]
  simp only[Nat.succ_ne_zero,if_false,Nat.one_mul]
  by_cases D:bytes≤roomy
  ·simp only[if_pos D,jh,Q.run,if_true];rfl
  ·simp only[if_neg D,Q.run];rfl
 ·have H:(St.mk fr lh sh).get .S k=aI sh k:=rfl
  rw[hs,hx,eb]
  generalize X:aI sh k=e at*
  obtain⟨V,ob⟩:=e
  unfold Om
  simp only[bz,jO,bt,hs,hx,cm,r,if_true,Q.run,Option.bind_some]
  simp only[Nat.succ_ne_zero,if_false,decide_true,Bool.true_and,decide_eq_true_eq]
  by_cases D:(len+1)*bytes≤roomy
  ·simp only[Q.run,H,if_true,D,and_true]
   by_cases I:V=g
   ·subst I
    simp only[if_true,true_and]
    cases ob with
    |none=>simp only[Q.run];rfl
    |map _ _ _=>simp only[Q.run];rfl
    |cells cs J bx=>
     cases bx with
     |true=>simp only[Q.run];rfl
     |false=>
      simp only[]
      by_cases K:len*sz=cs.length
      ·simp only[if_pos K,Q.run];rfl
      ·simp only[if_neg K,Q.run];rfl
   ·simp only[Q.run,I,false_and,if_false]
    cases ob with
    |none=>rfl
    |map _ _ _=>rfl
    |cells cs J bx=>cases bx <;> rfl
  ·simp only[D,if_false,Q.run,and_false]
   cases ob with
   |none=>rfl
   |map _ _ _=>rfl
   |cells cs J bx=>cases bx <;> rfl
def mJ(n:Nat):T→FP
 | .isl .S k _ _ _ _=>⟨false,[(.S,k)],[(.S,k)]⟩
 |_=>⟨true,[],[(.S,n)]⟩
theorem bU{rs r:List (Sp×Nat)}{m:Nat}{t:T}(h1:GV rs=true)(h2:GV r=true):apart ⟨false,rs,r⟩ (mJ m t)=true:=by
 have q: ∀(xs:List (Sp×Nat)) (k:Nat),GV xs=true→(xs.all fun x=> !([(Sp.S,k)]:List (Sp×Nat)).contains x)=true:=by
  intro xs k h
  rw[List.all_eq_true]
  intro x hx
  have:=List.all_eq_true.1 h x hx
  grind
 have D: ∀(xs:List (Sp×Nat)),(xs.all fun x=> !([]:List (Sp×Nat)).contains x)=true:=by intro xs;rw[List.all_eq_true];intro x _;rfl
 unfold mJ
 split
 ·unfold apart eD
  rw[q r _ h2,q rs _ h1];rfl
 ·unfold apart eD
  dsimp only
  rw[q r _ h2,q rs _ h1,D,h1,h2];rfl
theorem cX{u:List Nat}{F sz bytes:Nat}{s x:aP}(hx:By sz (rd fr x)=true)(hs:D7 sz (rd fr s)=true):aK E call n ((u,⟨some F,.app sz bytes s x true false,none⟩)::ds) br ⟨fr,lh,sh⟩=
  if meets u br (mJ sh.length (rd fr s))=true then ke E call n ds (br++ [mJ sh.length (rd fr s)]) (ai E call n [⟨some F,.app sz bytes s x true false,none⟩] ⟨fr,lh,sh⟩)else none:=by
 refine mZ fun H=> ?_
 obtain⟨J,ex,hx,K,N⟩:=D8 hx
 have O:cm sz (rd fr x)= .ret (1,J):=by rw[hx];simp only[cm,Nat.one_mul,K,if_true]
 obtain⟨v,U,hr,r⟩:=pS (q:=jO F sz bytes (rd fr s) (rd fr x) true false) (by rfl) (by rw[dm];rfl) H
 unfold jO at hr r
 rw[O]at hr r
 simp only[Q.bind,Nat.one_ne_zero,if_false]at hr r
 rcases Jh hs with hs|⟨k,g,len,hs⟩
 ·rw[hs]at hr r ⊢
  simp only at hr r
  by_cases D:1*bytes≤roomy
  ·rw[if_pos D]at hr r
   simp only[jh,if_true,Q.run,Option.some.injEq,Am.val.injEq]at hr
   obtain⟨rfl,rfl⟩:=hr
   rw[r (by simp[jh,Q.asks])]
   rfl
  ·rw[if_neg D]at hr
   simp[Q.run]at hr
 ·rw[hs]at hr r ⊢
  simp only[decide_true,Bool.true_and,decide_eq_true_eq]at hr r
  by_cases D:(len+1)*bytes≤roomy
  ·rw[if_pos (by simp[D])]at hr r
   simp only[Q.run]at hr
   generalize I:(St.mk fr lh sh).get .S k=e at hr r
   obtain⟨X,ob⟩:=e
   simp only at hr
   split at hr
   ·rename_i V
    cases ob with
    |none=>simp[Q.run]at hr
    |map a b c=>simp[Q.run]at hr
    |cells KD Y bx=>
     cases bx with
     |true=>simp[Q.run]at hr
     |false=>
      simp only at hr
      split at hr
      ·rename_i W
       simp only[Q.run,Option.some.injEq,Am.val.injEq]at hr
       obtain⟨rfl,rfl⟩:=hr
       rw[r (by simp[inB,xP,I])]
       simp only[Q.asks,Q.log,I,V,W,if_true,cR,List.map_cons,List.map_nil,mJ]
      ·simp[Q.run]at hr
   ·simp[Q.run]at hr
  ·rw[if_neg (by simp[D])]at hr
   simp[Q.run]at hr
end
mutual
def Fm.us(p:Int):Fm→Bool
 | .mk op num args=>if op=6 then decide (num=p)else usL p args
def usL(p:Int):List Fm→Bool
 | []=>false
 |x::xs=>x.us p||usL p xs
end
theorem Fm.us_eq(p:Int)(x:Fm):x.us p=if x.op=6 then decide (x.num=p)else usL p x.args:=by obtain⟨_,_,_⟩:=x;rw[Fm.us];rfl
theorem Ji: ∀xs:List Fm,xs.length≤tj xs
 | []=>by simp[tj]
 |x::xs=>by
  have h1:=Ji xs
  have h2:=x.sz_eq
  rw[tj,List.length_cons];omega
mutual
theorem zl(r:List Nat→Int)(scope:Int): ∀x:Ex,(comp r scope x).sz≤x.nodes
 | .mk op num name args=>by
   have h:=Jj r scope args
   rw[Ex.nodes_eq,mK]
   show Fm.sz (if op=1∨op=2∨op=3 then .mk 1 num []else if op=4 then .mk 1 1 []else if op=5 then .mk 1 0 []else if op=6 then(match KJ scope name with|some i=> .mk 6 (i:Int) []|none=> .mk 1 (r name) [])else .mk op 0 (eQ r scope args))≤1+fW args
   have l: ∀(a b:Int),Fm.sz (.mk a b [])≤1+fW args:=fun a b=>by rw[Fm.sz_eq];show 1+tj []≤_;rw[tj];omega
   split
   ·exact l _ _
   split
   ·exact l _ _
   split
   ·exact l _ _
   split
   ·split <;> exact l _ _
   ·rw[Fm.sz_eq];show 1+tj (eQ r scope args)≤_;omega
theorem Jj(r:List Nat→Int)(scope:Int): ∀xs:List Ex,tj (eQ r scope xs)≤fW xs
 | []=>by rw[eQ,tj,fW];exact Nat.le_refl _
 |x::xs=>by
  have h1:=zl r scope x
  have h2:=Jj r scope xs
  rw[eQ,tj,fW];omega
end
section
variable(p:Int)
def usP(f:Fm):Prop:= ∀(b:T) (D r:List T),IsSl b f.args.length D→bf f.args D→f.sz≤100000→ae pE 74 [.vp (.i .i64 f.op:: .i .i64 f.num::b::r),.i .i64 p] []=some (.b (f.us p),[])
theorem H5(op num:Int)(N:List T)(xs:List Fm)(ih: ∀y∈xs,usP p y)(a:T)(O:List T)(W:IsSl a xs.length O)(hx:bf xs O)(hn:tj xs≤100000)(r:Bool)(hr:r=usL p xs)(o:Out)(U:o=if r then .ret else .ext 0)(fr:Fr)(lh:aD ah)(sh:List ah)
  (h0:aa fr 0= .vp (.i .i64 op:: .i .i64 num::a::N)) (h1:aa fr 1= .i .i64 p) (D:aa fr 21= .i .i64 (xs.length:Int)) (G9:aa fr 22= .i .i64 0):
  pT 34 sQ fr lh sh o∧
  ((r=true→aa (mY pE 34 sQ fr lh sh) 4= .b true)∧iH pE 34 sQ fr lh sh=sh):=by
 refine cj (P:=fun X aU Y=>(r=true→aa X 4= .b true)∧Y=sh)
  (cT (fun k st=> ∃(fr:Fr) (K:aD ah),st=⟨fr,K,sh⟩∧r=usL p (xs.drop k)∧aa fr 0= .vp (.i .i64 op:: .i .i64 num::a::N)∧aa fr 1= .i .i64 p∧aa fr 21= .i .i64 (xs.length:Int)∧aa fr 22= .i .i64 (k:Int)) _ xs.length ?_ ?_ 0 _ (Nat.zero_le _) ⟨fr,lh,rfl,hr,h0,h1,D,G9⟩)
 ·rintro k _ hk ⟨fr,K,rfl,hr,h0,h1,D,G9⟩
  have F:(k:Int)<xs.length:=yv
  have V:=Ji xs
  have Z:=Bz (List.getElem_mem hk)
  have hw:=be (k:=k) (gH yv)
  obtain⟨b,cb,r2,H,fL,rP⟩:=aik W hx k hk
  have I:=ih xs[k] (List.getElem_mem hk) b cb r2 fL rP yv
  rw[List.drop_eq_getElem_cons hk,usL]at hr
  generalize xs[k]=y at*
  cases J:y.us p with
  |true=>
   right
   rw[J]at I
   rw[J,Bool.true_or]at hr
   simp only[qA,seval,sQ,h0,h1,D,G9,F,H,I,as1]
   refine⟨_,_,abe,rfl,by rw[U,hr];rfl,fun _=> ?_,rfl⟩
   simp only[qA,seval]
  |false=>
   left
   rw[J]at I
   rw[J,Bool.false_or]at hr
   simp only[qA,seval,sQ,h0,h1,D,G9,F,H,I,as1,hw]
   refine⟨_,rfl,_,_,rfl,hr, ?_, ?_, ?_, ?_⟩ <;> simp only[qA,seval,h0,h1,D]
 ·rintro _ ⟨fr,K,rfl,hr,h0,h1,D,G9⟩
  rw[List.drop_length,usL]at hr
  simp only[qA,seval,sQ,D,G9,Int.lt_irrefl]
  exact⟨_,_,sV,rfl,by rw[U,hr];rfl,fun h=>(by rw[hr]at h;cases h),rfl⟩
theorem ail(f:Fm):usP p f:=by
 induction f using Fm.ind with
 |h f ih=>
  intro b J r F SQ K
  rw[au ajC (by simp[c74]),Fm.us_eq]
  have hs:=f.sz_eq
  by_cases h6:f.op=6
  ·simp only[qA,seval,c74,h6]
  ·have D:=fun fr lh sh h0 h1 H G9=>H5 p f.op f.num r f.args (fun y N=>ih y N) b J F SQ yv _ rfl _ rfl fr lh sh h0 h1 H G9
   rw[if_neg h6]
   cases I:usL p f.args with
   |true=>
    rw[I]at D
    simp only[qA,seval,c74,h6,F.lenI,D]
   |false=>
    rw[I]at D
    simp only[qA,seval,c74,h6,F.lenI,D]
end
theorem cD(R:List ah)(i j:Nat)(e:ah):aI (bI R i e) j=if j=i then e else aI R j:=nv _ _ _ _ _
theorem cM: ∀(R:List ah) (i:Nat) (a b:ah),bI (bI R i a) i b=bI R i b
 | [],0,a,b=>rfl
 | [],i+1,a,b=>by
   have:=cM [] i a b
   grind [bI,mV]
 |x::R,0,a,b=>rfl
 |x::R,i+1,a,b=>by simp_all[rM,cM]
theorem xl: ∀(R:List ah) (e:ah),(bI R R.length e).length=R.length+1
 | [],e=>rfl
 |x::R,e=>by simp_all[List.length_cons,rM,xl]
section
variable(lT:T)(m:List (List Nat×Nat))(kn:List (Nat×Int))(R:List ah)
theorem D9(i:Nat):aI (eA lT m kn R) (i+7)=aI R i:=nr rfl
theorem nS(i:Nat)(e:ah):bI (eA lT m kn R) (i+7) e=eA lT m kn (bI R i e):=nr rfl
theorem Ea:(eA lT m kn R).length=R.length+7:=nr (by unfold eA;rw[List.length_append];show 7+R.length=_;omega)
end
def RlR(u:List Nat×Fm)(c:List T):Prop:= ∃r,c= .s u.1::r∧ja u.2 r
theorem RlR.len(u:List Nat×Fm)(c:List T)(h:RlR u c):c.length=4:=by obtain⟨r,rfl,h⟩:=h;rw[List.length_cons,h.len]
abbrev RL:=List (List Nat×Fm)
def wj(sz:Nat)(l:RL)(cs:List T):Prop:=(if sz=4 then aB RlR l cs else bf (l.map Prod.snd) cs)∧ ∀u∈l,u.2.sz≤1000
theorem wj.sz{sz:Nat}{l:RL}{cs:List T}(h:wj sz l cs){u:List Nat×Fm}(r:u.2.sz≤1000): ∀v∈l++ [u],v.2.sz≤1000:=fun v hv=>by
 rcases List.mem_append.1 hv with hv|hv
 ·exact h.2 v hv
 ·grind
theorem wj.app4{l:RL}{cs:List T}(h:wj 4 l cs)(u:List Nat×Fm)(c:List T)(hc:RlR u c)(r:u.2.sz≤1000):wj 4 (l++ [u]) (cs++c):=by
 refine⟨?_,h.sz r⟩
 have h1:=h.1
 rw[if_pos rfl]at h1 ⊢
 exact aB.append h1 (aB.one hc)
theorem wj.app3{l:RL}{cs:List T}(h:wj 3 l cs)(u:List Nat×Fm)(c:List T)(hc:ja u.2 c)(r:u.2.sz≤1000):wj 3 (l++ [u]) (cs++c):=by
 refine⟨?_,h.sz r⟩
 have h1:=h.1
 rw[if_neg xW]at h1 ⊢
 rw[List.map_append]
 exact bf.append h1 (bf.one hc)
theorem wj.nil(sz:Nat):wj sz [] []:=by
 refine⟨?_,by simp⟩
 split
 ·rfl
 ·exact bf.nil
def RwK(R:List ah)(B:Nat)(p:Nat×T×RL):Prop:=(p.2.1= .nilsl∧p.2.2= [])∨ ∃i g n cs,p.2.1= .isl .S (i+7) g 0 n p.1∧aI R i=⟨g,.cells cs 0 false⟩∧i<R.length∧n*p.1=cs.length∧n≤B∧wj p.1 p.2.2 cs
def kyZ:T→Option Nat
 | .isl .S k _ _ _ _=>some k
 |_=>none
theorem kZ{k g o n s:Nat}:kyZ (.isl .S k g o n s)=some k:=rfl
def eB(R:List ah)(B:Nat)(r:List (Nat×T×RL)):Prop:=(∀p∈r,RwK R B p)∧ ∀i j:Nat,∀(hi:i<r.length) (D:j<r.length),i≠j→kyZ r[i].2.1=none∨kyZ r[i].2.1≠kyZ r[j].2.1
theorem RwK.mono{R:List ah}{B B':Nat}{p:Nat×T×RL}(h:RwK R B p)(r:B≤B'):RwK R B' p:=by
 rcases h with h|⟨i,g,n,cs,h1,h2,h3,h4,h5,h6⟩
 ·exact .inl h
 ·exact .inr ⟨i,g,n,cs,h1,h2,h3,h4,by omega,h6⟩
theorem eB.mono{R:List ah}{B B':Nat}{r:List (Nat×T×RL)}(h:eB R B r)(D:B≤B'):eB R B' r:=⟨fun p F=>(h.1 p F).mono D,h.2⟩
theorem eB.new{R:List ah}{B:Nat}{r:List (Nat×T×RL)}(h:eB R B r)(N:1≤B)(j:Nat)(W:j<r.length){sz:Nat}(O:r[j].1=sz)(D:List T)(U:D.length=sz)(l:RL)(V:wj sz l D):
  eB (bI R R.length ⟨1,.cells D 0 false⟩) B (r.set j (sz,.isl .S (R.length+7) 1 0 1 sz,l)):=by
 have H: ∀p∈r,RwK (bI R R.length ⟨1,.cells D 0 false⟩) B p∧kyZ p.2.1≠some (R.length+7):=by
  intro p F
  rcases h.1 p F with h1|⟨i,g,n,cs,h1,h2,h3,h4,h5,h6⟩
  ·exact⟨.inl h1,by rw[h1.1];simp[kyZ]⟩
  ·refine⟨.inr ⟨i,g,n,cs,h1, ?_, ?_,h4,h5,h6⟩,by rw[h1,kZ];simp;omega⟩
   ·grind [cD]
   ·rw[xl];omega
 refine⟨fun p F=> ?_,fun a b I K J=> ?_⟩
 ·rcases List.mem_or_eq_of_mem_set F with F|rfl
  ·grind
  ·exact .inr ⟨R.length,1,1,D,rfl,by rw[cD,if_pos rfl],by rw[xl];omega,by simp[U],N,V⟩
 ·rw[List.length_set]at I K
  rw[List.getElem_set,List.getElem_set]
  by_cases h1:j=a
  ·grind [kZ]
  ·rw[if_neg h1]
   by_cases h2:j=b
   ·rw[if_pos h2]
    right
    rw[kZ]
    exact(H r[a] (List.getElem_mem I)).2
   ·rw[if_neg h2];exact h.2 a b I K J
theorem eB.app{R:List ah}{B:Nat}{D:List (Nat×T×RL)}(h:eB R B D)(j:Nat)(I:j<D.length){sz i g n:Nat}{cs:List T}(U:D[j].1=sz)(J:D[j].2.1= .isl .S (i+7) g 0 n sz)(Z:aI R i=⟨g,.cells cs 0 false⟩)(hi:i<R.length)(V:n*sz=cs.length)(hB:n≤B)(F:List T)(W:F.length=sz)(l:RL)(X:wj sz l (cs++F))(H:Nat):
  eB (bI R i ⟨H,.cells (cs++F) 0 false⟩) (B+1) (D.set j (sz,.isl .S (i+7) H 0 (n+1) sz,l)):=by
 have O:(bI R i ⟨H,.cells (cs++F) 0 false⟩).length=R.length:=jR _ _ _ hi
 refine⟨fun p Y=> ?_,fun a b r K N=> ?_⟩
 ·obtain⟨a,r,rfl⟩:=List.getElem_of_mem Y
  rw[List.length_set]at r
  rw[List.getElem_set]
  by_cases h1:j=a
  ·rw[if_pos h1]
   exact .inr ⟨i,H,n+1,cs++F,rfl,by rw[cD,if_pos rfl],by rw[O];exact hi,by rw[List.length_append,W,Nat.add_mul,V,Nat.one_mul],by omega,X⟩
  ·rw[if_neg h1]
   have hd:=h.2 j a I r h1
   rw[J,kZ]at hd
   rcases h.1 D[a] (List.getElem_mem r)with q|⟨i',g2,n',KD,q1,q2,q3,q4,q5,q6⟩
   ·exact .inl q
   ·refine .inr ⟨i',g2,n',KD,q1, ?_,by rw[O];exact q3,q4,by omega,q6⟩
    rw[q1,kZ]at hd
    rw[cD,if_neg (fun e=>by subst e;rcases hd with hd|hd <;> simp at hd)]
    exact q2
 ·rw[List.length_set]at r K
  rw[List.getElem_set,List.getElem_set]
  by_cases h1:j=a
  ·rw[if_pos h1,if_neg yv]
   have:=h.2 j b I K yv
   rw[J,kZ]at this
   rw[kZ];exact this
  ·rw[if_neg h1]
   by_cases h2:j=b
   ·rw[if_pos h2]
    have:=h.2 a j r I yv
    rw[J,kZ]at this
    rw[kZ];exact this
   ·rw[if_neg h2];exact h.2 a b r K N
theorem BA{α β:Type}[DecidableEq α]{s:α}: ∀{m:List (α×β)},s∉m.map Prod.fst→aM m s=none
 | [],_=>rfl
 |p::m,h=>by
  rw[List.map_cons,List.mem_cons,not_or]at h
  rw[aM,if_neg h.1,BA h.2]
theorem Ci.fz{z:Zo}{c:List T}(h:Ci z c):c.all froz1=true∧c.length=3:=by
 obtain⟨a,r,rfl,h1,_⟩:=h
 exact⟨by simp[h1.froz1,Fp,uY],rfl⟩
def L5(r:List Zo)(m:List (List Nat×List T)):Prop:= ∀p∈m,∃z∈r,z.nm=p.1∧Ci z p.2
theorem On{l:List (List Nat)}(r:l.Nodup){k:Nat}(hk:k<l.length):l[k]∉l.take k:=by
 intro D
 obtain⟨j,F,e⟩:=List.getElem_of_mem D
 rw[List.length_take]at F
 rw[List.getElem_take]at e
 exact List.pairwise_iff_getElem.1 r j k yv hk yv e
theorem nwz(l:List Zo)(Y:(l.map Zo.nm).Nodup)(a:T)(cc:List T)(ha:IsSl a l.length cc)(hc:aB Ci l cc)(hlen:l.length≤100)(W c3 zQ M0:ah)(fr:Fr)(lh:aD ah)(sh:List ah)
  (I:aa fr 9= .mp .L 38 1) (r:aa fr 40=a) (Yf:aa fr 41= .i .i64 (l.length:Int)) (D:aa fr 42= .i .i64 0) (J:ab lh 2=W) (K:ab lh 3=c3) (N:ab lh 35=zQ) (O:ab lh 37=M0) (Jk:ab lh 38=⟨1,.map [] [] false⟩):
  pT 232 jt fr lh sh (.ext 0)∧
  (ab (im pE 232 jt fr lh sh) 2=W∧ab (im pE 232 jt fr lh sh) 3=c3∧ab (im pE 232 jt fr lh sh) 35=zQ∧ab (im pE 232 jt fr lh sh) 37=M0∧(∃m,ab (im pE 232 jt fr lh sh) 38=⟨1,.map (m.map fun p=>sK p.1) (m.map fun p=>T.agg p.2) false⟩∧L5 l m∧m.map Prod.fst=l.map Zo.nm)∧iH pE 232 jt fr lh sh=sh):=by
 refine cj (P:=fun bK U aX=>ab U 2=W∧ab U 3=c3∧ab U 35=zQ∧ab U 37=M0∧(∃m,ab U 38=⟨1,.map (m.map fun p=>sK p.1) (m.map fun p=>T.agg p.2) false⟩∧L5 l m∧m.map Prod.fst=l.map Zo.nm)∧aX=sh)
  (cT (fun k st=> ∃(fr:Fr) (F:aD ah) (m:List (List Nat×List T)),st=⟨fr,F,sh⟩∧m.map Prod.fst=(l.map Zo.nm).take k∧L5 l m∧aa fr 9= .mp .L 38 1∧aa fr 40=a∧aa fr 41= .i .i64 (l.length:Int)∧aa fr 42= .i .i64 (k:Int)∧ab F 2=W∧ab F 3=c3∧ab F 35=zQ∧ab F 37=M0∧ab F 38=⟨1,.map (m.map fun p=>sK p.1) (m.map fun p=>T.agg p.2) false⟩) _ l.length ?_ ?_ 0 _ (Nat.zero_le _) ⟨fr,lh,[],rfl,by simp,(fun p hp=>by cases hp),I,r,Yf,D,J,K,N,O,Jk⟩)
 ·rintro k _ hk ⟨fr,F,m,rfl,X,H,I,r,Yf,D,J,K,N,O,Jk⟩
  left
  have Z:(k:Int)<l.length:=yv
  have hw:=aG (k:=k) yv
  obtain⟨V,sc,rr,hia,sw,GX⟩:=Jb ha hc k hk
  have Yg:k<(l.map Zo.nm).length:=by simpa using hk
  have yB:aM m l[k].nm=none:=BA (by rw[X];have:=On Y Yg;rwa [List.getElem_map]at this)
  have iQ:lF (.one .str) (.s l[k].nm) (.agg [.s l[k].nm,.i .i64 l[k].o,V]) (m.map fun p=>sK p.1) (m.map fun p=>T.agg p.2)=_:=vd (kT:=sK) (vT:=T.agg) CS m l[k].nm [.s l[k].nm,.i .i64 l[k].o,V] yB
  have hzr: ∃z∈l,z.nm=l[k].nm∧Ci z [.s l[k].nm,.i .i64 l[k].o,V]:=⟨l[k],List.getElem_mem hk,rfl,V,sc,rfl,sw,GX⟩
  have Yh:(l.map Zo.nm).take (k+1)=(l.map Zo.nm).take k++ [l[k].nm]:=by rw[List.take_succ_eq_append_getElem Yg,List.getElem_map]
  rw[Yh]
  generalize l[k]=z at*
  simp only[qA,seval,jt,I,r,Yf,D,Jk,Z,hia,hw,oU,yj,iQ,sw.froz1]
  refine⟨_,rfl,_,_,m++ [(z.nm,[.s z.nm,.i .i64 z.o,V])],rfl, ?_, ?_, ?_, ?_, ?_, ?_, ?_, ?_, ?_, ?_, ?_⟩
  ·rw[List.map_append,X];rfl
  ·intro p hp
   rcases List.mem_append.1 hp with hp|hp
   ·exact H p hp
   ·rw[List.mem_singleton.1 hp];exact hzr
  all_goals (simp only[qA,seval,I,r,Yf,J,K,N,O])
 ·rintro _ ⟨fr,F,m,rfl,X,H,I,r,Yf,D,J,K,N,O,Jk⟩
  simp only[qA,seval,jt,Yf,D,Int.lt_irrefl]
  exact⟨_,_,sV,rfl,rfl,J,K,N,O,⟨m,Jk,H,by rw[X,List.take_of_length_le xv]⟩,rfl⟩
def fy(r D F:T)(c:Ct)(H I J K N O:T)(U:List T):List T:=r::D::F::(aY c H I J K N O++ .mp .L 35 1::U)
theorem vz{α β:Type}[DecidableEq α]{s:α}{v:β}: ∀{m:List (α×β)},aM m s=some v→(s,v)∈m
 | [],h=>by cases h
 |p::m,h=>by
  rw[aM]at h
  split at h
  ·rename_i e;injection h with h;subst h;rw[e];exact List.mem_cons_self ..
  ·exact List.mem_cons_of_mem _ (vz h)
theorem xm{α β:Type}[DecidableEq α]{s:α}: ∀{m:List (α×β)},s∈m.map Prod.fst→ ∃v,aM m s=some v
 | [],h=>by cases h
 |p::m,h=>by
  rw[aM]
  split
  ·exact⟨_,rfl⟩
  ·rename_i e
   rw[List.map_cons,List.mem_cons]at h
   rcases h with h|h
   ·exact absurd h e
   ·exact xm h
def Rt(r:List Zo)(D:List Ap)(q:List (List Nat×List T)):Prop:= ∀p∈q,∃u∈D,u.cd=p.1∧ ∃z∈r,z.nm=u.zn∧Ci z p.2
theorem ad3{r:List Zo}{m:List (List Nat×List T)}(F:L5 r m)(H:m.map Prod.fst=r.map Zo.nm)(s:List Nat)(hs:s∈r.map Zo.nm): ∃v,(∃z∈r,z.nm=s∧Ci z v)∧iu (.one .str) (m.map fun p=>sK p.1) (m.map fun p=>T.agg p.2) (.s s) (.agg [.s [],.i .i64 0,.nilsl]) false=some (.agg v)∧v.all froz1=true∧v.length=3:=by
 have D:=N9 (kT:=sK) (vT:=T.agg) CS (fun _=>rfl) m s (.agg [.s [],.i .i64 0,.nilsl])
 obtain⟨v,h⟩:=xm (by rw[H];exact hs)
 rw[h]at D
 obtain⟨z,h1,h2,h3⟩:=F _ (vz h)
 exact⟨v,⟨z,h1,h2,h3⟩,D,h3.fz⟩
theorem nwa(l:List Ap)(hnd:(l.map Ap.cd).Nodup)(a:T)(cc:List T)(ha:IsSl a l.length cc)(hc:aB L3 l cc)(hlen:l.length≤100)(F:List Zo)(m:List (List Nat×List T))(I:L5 F m∧m.map Prod.fst=F.map Zo.nm)(hzn: ∀u∈l,u.zn∈F.map Zo.nm)(V W X:T)(c:Ct)(Y Z a9 aw aA az:T)(vs:List T)(c2 c3:ah)(fr:Fr)(lh:aD ah)(sh:List ah)
  (J:aa fr 8= .ptr .L 37 1 0) (K:aa fr 9= .mp .L 38 1) (SP:aa fr 52=a) (D4:aa fr 53= .i .i64 (l.length:Int)) (G8:aa fr 54= .i .i64 0) (N:ab lh 2=c2) (O:ab lh 3=c3) (U:ab lh 35=⟨1,.map [] [] false⟩) (r:ab lh 37=⟨1,.cells (fy V W X c Y Z a9 aw aA az vs) 0 true⟩) (Jk:ab lh 38=⟨1,.map (m.map fun p=>sK p.1) (m.map fun p=>T.agg p.2) false⟩):
  pT 232 kq fr lh sh (.ext 2)∧
  (ab (im pE 232 kq fr lh sh) 2=c2∧ab (im pE 232 kq fr lh sh) 3=c3∧ab (im pE 232 kq fr lh sh) 37=⟨1,.cells (fy V W X c Y Z a9 aw aA az vs) 0 true⟩∧(∃q,ab (im pE 232 kq fr lh sh) 35=⟨1,.map (q.map fun p=>sK p.1) (q.map fun p=>T.agg p.2) false⟩∧Rt F l q∧q.map Prod.fst=l.map Ap.cd)∧iH pE 232 kq fr lh sh=sh):=by
 refine cj (P:=fun bK aU aX=>ab aU 2=c2∧ab aU 3=c3∧ab aU 37=⟨1,.cells (fy V W X c Y Z a9 aw aA az vs) 0 true⟩∧(∃q,ab aU 35=⟨1,.map (q.map fun p=>sK p.1) (q.map fun p=>T.agg p.2) false⟩∧Rt F l q∧q.map Prod.fst=l.map Ap.cd)∧aX=sh)
  (cT (fun k st=> ∃(fr:Fr) (D:aD ah) (q:List (List Nat×List T)),st=⟨fr,D,sh⟩∧q.map Prod.fst=(l.map Ap.cd).take k∧Rt F l q∧aa fr 8= .ptr .L 37 1 0∧aa fr 9= .mp .L 38 1∧aa fr 52=a∧aa fr 53= .i .i64 (l.length:Int)∧aa fr 54= .i .i64 (k:Int)∧ab D 2=c2∧ab D 3=c3∧ab D 37=⟨1,.cells (fy V W X c Y Z a9 aw aA az vs) 0 true⟩∧ab D 38=⟨1,.map (m.map fun p=>sK p.1) (m.map fun p=>T.agg p.2) false⟩∧ab D 35=⟨1,.map (q.map fun p=>sK p.1) (q.map fun p=>T.agg p.2) false⟩) _ l.length ?_ ?_ 0 _ (Nat.zero_le _) ⟨fr,lh,[],rfl,by simp,(fun p hp=>by cases hp),J,K,SP,D4,G8,N,O,r,Jk,U⟩)
 ·rintro k _ hk ⟨fr,D,q,rfl,hq,H,J,K,SP,D4,G8,N,O,r,Jk,U⟩
  left
  have hk':(k:Int)<l.length:=yv
  have hw:=aG (k:=k) yv
  obtain⟨rr,hia⟩:=Jc ha hc k hk
  have Yg:k<(l.map Ap.cd).length:=by simpa using hk
  have yB:aM q l[k].cd=none:=BA (by rw[hq];have:=On hnd Yg;rwa [List.getElem_map]at this)
  obtain⟨v,hzv,fg,wS,SC⟩:=ad3 I.1 I.2 l[k].zn (hzn _ (List.getElem_mem hk))
  have hqv: ∃u∈l,u.cd=l[k].cd∧ ∃z∈F,z.nm=u.zn∧Ci z v:=⟨l[k],List.getElem_mem hk,rfl,hzv⟩
  have iQ:lF (.one .str) (.s l[k].cd) (.agg v) (q.map fun p=>sK p.1) (q.map fun p=>T.agg p.2)=_:=vd (kT:=sK) (vT:=T.agg) CS q l[k].cd v yB
  have Yh:(l.map Ap.cd).take (k+1)=(l.map Ap.cd).take k++ [l[k].cd]:=by rw[List.take_succ_eq_append_getElem Yg,List.getElem_map]
  rw[Yh]
  generalize l[k]=z at*
  unfold fy aY at r ⊢
  simp only[List.cons_append,List.nil_append]at r ⊢
  simp only[qA,seval,bp,aH,kq,J,K,SP,D4,G8,U,r,Jk,hk',hia,hw,bW,fg,wS,oU,yj,iQ]
  refine⟨_,rfl,_,_,q++ [(z.cd,v)],rfl, ?_, ?_, ?_, ?_, ?_, ?_, ?_, ?_, ?_, ?_, ?_, ?_⟩
  ·rw[List.map_append,hq];rfl
  ·intro p hp
   rcases List.mem_append.1 hp with hp|hp
   ·exact H p hp
   ·rw[List.mem_singleton.1 hp];exact hqv
  all_goals (simp only[qA,seval,J,K,SP,D4,N,O,r,Jk])
 ·rintro _ ⟨fr,D,q,rfl,hq,H,J,K,SP,D4,G8,N,O,r,Jk,U⟩
  simp only[qA,seval,kq,D4,G8,Int.lt_irrefl]
  exact⟨_,_,sV,rfl,rfl,N,O,r,⟨q,U,H,by rw[hq,List.take_of_length_le xv]⟩,rfl⟩
theorem Yi{n:Nat}(h:n≤1000):(n+1)*56≤roomy:=by unfold roomy;omega
theorem alM:56≤roomy:=by unfold roomy;omega
def fM(r D F H I c3 cr J:T):List T:= [.nilsl,r,D,F,.nilsl,H,I,c3,cr,J]
def ib(r D F H I c3 cr:T)(J K N O U V W:RL):List (Nat×T×RL):= [(4,r,J),(4,D,K),(4,F,N),(3,H,O),(3,I,U),(3,c3,V),(3,cr,W)]
def vD(c:Ct)(j:Int)(k:Nat):RL:=((c.ru.take k).filter fun u=>u.sc==j).map fun u=>(u.nm,comp (fC c.cs) u.sc u.x)
def tm(c:Ct)(j:Int)(k:Nat):RL:=((c.co.take k).filter fun u=>u.sc==j).map fun u=>([],comp (fC c.cs) u.sc u.x)
def Rv(c:Ct)(k:Nat):RL:=(c.cr.take k).map fun u=>([],comp (fC c.cs) 1 u)
theorem BB(c:Ct)(j:Int){k:Nat}(hk:k<c.ru.length):vD c j (k+1)=if c.ru[k].sc=j then vD c j k++ [(c.ru[k].nm,comp (fC c.cs) c.ru[k].sc c.ru[k].x)]else vD c j k:=by
 grind [vD,List.take_succ_eq_append_getElem]
theorem vE(c:Ct)(j:Int){k:Nat}(hk:k<c.co.length):tm c j (k+1)=if c.co[k].sc=j then tm c j k++ [([],comp (fC c.cs) c.co[k].sc c.co[k].x)]else tm c j k:=by
 grind [tm,List.take_succ_eq_append_getElem]
theorem Yj(c:Ct){k:Nat}(hk:k<c.cr.length):Rv c (k+1)=Rv c k++ [([],comp (fC c.cs) 1 c.cr[k])]:=by
 grind [Rv,List.take_succ_eq_append_getElem]
theorem aDh:eB [] 0 (ib .nilsl .nilsl .nilsl .nilsl .nilsl .nilsl .nilsl [] [] [] [] [] [] []):=by
 have r: ∀p∈ib .nilsl .nilsl .nilsl .nilsl .nilsl .nilsl .nilsl [] [] [] [] [] [] [],p.2=(.nilsl,[]):=by
  simp_all[ib,List.mem_cons,List.not_mem_nil]
 exact⟨fun p D=> .inl (by rw[r p D];exact⟨rfl,rfl⟩),fun i j hi F _=> .inl (by rw[r _ (List.getElem_mem hi)];rfl)⟩
def Jl(l:Cs)(r:Int)(x:Ex):Prop:=(r=1∨r=2∨r=3)∧bL x=0∧ ∃k,x.ty (FR l) r=(k,0)
theorem nwr(c:Ct)(U a8:T)(c7 c8:List T)(i7:IsSl U c.cs.length c7)(j7:dn c.cs c7)(i8:IsSl a8 c.ru.length c8)(j8:aB SG c.ru c8)(hlen:c.ru.length≤40)(jb: ∀u∈c.ru,Jl c.cs u.sc u.x)(zT aT fT a9 aw aA az nb:T)(c2 c3 zQ:ah)(BC:List (Nat×Int))(xo:jg c.cs BC)(fr:Fr)(lh:aD ah)(sh:List ah)(ft:sh=eA U (bH c.cs c.cs.length) BC [])
  (I:aa fr 8= .ptr .L 37 1 0) (J:aa fr 14= .ptr .S 2 1 0) (Eb:aa fr 73=a8) (Ck:aa fr 74= .i .i64 (c.ru.length:Int)) (Oo:aa fr 75= .i .i64 0) (X:ab lh 2=c2) (Y:ab lh 3=c3) (Z:ab lh 35=zQ) (O:ab lh 37=⟨1,.cells (fy zT aT fT c U a8 a9 aw aA az (fM .nilsl .nilsl .nilsl .nilsl .nilsl .nilsl .nilsl nb)) 0 true⟩):
  pT 232 fN fr lh sh (.ext 4)∧
  (ab (im pE 232 fN fr lh sh) 2=c2∧ab (im pE 232 fN fr lh sh) 3=c3∧ab (im pE 232 fN fr lh sh) 35=zQ∧ ∃(R:List ah) (kn:List (Nat×Int)) (D F H:T),iH pE 232 fN fr lh sh=eA U (bH c.cs c.cs.length) kn R∧jg c.cs kn∧eB R 40 (ib D F H .nilsl .nilsl .nilsl .nilsl (vD c 1 c.ru.length) (vD c 2 c.ru.length) (vD c 3 c.ru.length) [] [] [] [])∧ab (im pE 232 fN fr lh sh) 37=⟨1,.cells (fy zT aT fT c U a8 a9 aw aA az (fM D F H .nilsl .nilsl .nilsl .nilsl nb)) 0 true⟩):=by
 refine cj (P:=fun bK aU aX=>ab aU 2=c2∧ab aU 3=c3∧ab aU 35=zQ∧ ∃(R:List ah) (kn:List (Nat×Int)) (D F H:T),aX=eA U (bH c.cs c.cs.length) kn R∧jg c.cs kn∧eB R 40 (ib D F H .nilsl .nilsl .nilsl .nilsl (vD c 1 c.ru.length) (vD c 2 c.ru.length) (vD c 3 c.ru.length) [] [] [] [])∧ab aU 37=⟨1,.cells (fy zT aT fT c U a8 a9 aw aA az (fM D F H .nilsl .nilsl .nilsl .nilsl nb)) 0 true⟩)
  (cT (fun k st=> ∃(fr:Fr) (dN:aD ah) (R:List ah) (kn:List (Nat×Int)) (D F H:T),st=⟨fr,dN,eA U (bH c.cs c.cs.length) kn R⟩∧jg c.cs kn∧eB R k (ib D F H .nilsl .nilsl .nilsl .nilsl (vD c 1 k) (vD c 2 k) (vD c 3 k) [] [] [] [])∧aa fr 8= .ptr .L 37 1 0∧aa fr 14= .ptr .S 2 1 0∧aa fr 73=a8∧aa fr 74= .i .i64 (c.ru.length:Int)∧aa fr 75= .i .i64 (k:Int)∧ab dN 2=c2∧ab dN 3=c3∧ab dN 35=zQ∧ab dN 37=⟨1,.cells (fy zT aT fT c U a8 a9 aw aA az (fM D F H .nilsl .nilsl .nilsl .nilsl nb)) 0 true⟩) _ c.ru.length ?_ ?_ 0 _ (Nat.zero_le _) ⟨fr,lh,[],BC,.nilsl,.nilsl,.nilsl,by rw[ft],xo,aDh,I,J,Eb,Ck,Oo,X,Y,Z,O⟩)
 ·rintro k _ hk ⟨fr,dN,R,kn,D,F,H,rfl,jj,V,I,J,Eb,Ck,Oo,X,Y,Z,O⟩
  left
  have N:(k:Int)<c.ru.length:=yv
  have hw:=aG (k:=k) yv
  obtain⟨b,cb,rr,K,fL,hb⟩:=Bp i8 j8 k hk
  obtain⟨fq,hval,t,hty⟩:=jb c.ru[k] (List.getElem_mem hk)
  have BD:=(iz hval).1
  obtain⟨cf,cF,aE,wY,jf,_⟩:=FT c.cs U R c.cs.length (Nat.le_refl _) (FU c.cs U R c7 i7 j7) c.ru[k].sc (.inr fq) c.ru[k].x t kn _ jj hb BD (ic hval) (by rw[xp];exact hty)
  have hsz:=zl (fC c.cs) c.ru[k].sc c.ru[k].x
  have s1:=BB c 1 hk
  have s2:=BB c 2 hk
  have s3:=BB c 3 hk
  generalize c.ru[k]=u at*
  generalize comp (fC c.cs) u.sc u.x=y at*
  obtain⟨r,fc,rfl,Bh,XD⟩:=wY.cells
  have GY:RlR (u.nm,y) [.s u.nm,.i .i64 y.op,.i .i64 y.num,r]:=⟨_,rfl,wY⟩
  have vG:wj 4 [(u.nm,y)] [.s u.nm,.i .i64 y.op,.i .i64 y.num,r]:=by
   have:=(wj.nil 4).app4 (u.nm,y) _ GY (by show y.sz≤1000;omega)
   grind
  have Cl:=alM
  have aIe:k≤40:=yv
  unfold fy aY fM at O ⊢
  simp only[List.cons_append,List.nil_append]at O ⊢
  rcases fq with fq|fq|fq <;> rw[fq]at K aE
  ·have W:=V.1 (4,D,vD c 1 k) (by simp[ib])
   rw[if_pos fq]at s1
   rw[if_neg (by rw[fq];decide)]at s2 s3
   rcases W with⟨hnil,wi⟩|⟨i,g,n,cs,hv,hE,hi,hn,hB,hfz⟩
   ·simp only at hnil wi
    subst hnil
    rw[wi,List.nil_append]at s1
    have nP:=(V.mono (Nat.le_succ k)).new yv 0 (by simp[ib]) (sz:=4) rfl [.s u.nm,.i .i64 y.op,.i .i64 y.num,r] rfl _ vG
    simp only[qA,seval,eO,repl,bp,aH,fK,dx,fN,I,J,Eb,Ck,Oo,O,N,K,hw,aE,l7,mU,fL.kept1,Bh.froz1,cI,cX,aZ,cL,bU,dg,nS,Ea,Cl]
    refine⟨_,rfl,_,_,bI R R.length ⟨1,.cells [.s u.nm,.i .i64 y.op,.i .i64 y.num,r] 0 false⟩,cF,.isl .S (R.length+7) 1 0 1 4,F,H,rfl,jf,(by rw[s1,s2,s3];exact nP), ?_, ?_, ?_, ?_, ?_, ?_, ?_, ?_, ?_⟩
    all_goals (simp only[qA,seval,I,J,Eb,Ck,X,Y,Z])
   ·simp only at hv
    subst hv
    have pb:=V.app 0 (by simp[ib]) (sz:=4) rfl rfl hE hi hn hB [.s u.nm,.i .i64 y.op,.i .i64 y.num,r] rfl _ (hfz.app4 (u.nm,y) [.s u.nm,.i .i64 y.op,.i .i64 y.num,r] GY (by show y.sz≤1000;omega)) (g+1)
    have sd:(n+1)*56≤roomy:=Yi yv
    simp only[qA,seval,eO,repl,bp,aH,fK,dx,fN,I,J,Eb,Ck,Oo,O,N,K,hw,aE,l7,mU,fL.kept1,Bh.froz1,cI,cX,aZ,dC,bU,eb,cw,D9,nS,Ea,hE,hn,sd]
    refine⟨_,rfl,_,_,bI R i ⟨g+1,.cells (cs++ [.s u.nm,.i .i64 y.op,.i .i64 y.num,r]) 0 false⟩,cF,.isl .S (i+7) (g+1) 0 (n+1) 4,F,H,rfl,jf,(by rw[s1,s2,s3];exact pb), ?_, ?_, ?_, ?_, ?_, ?_, ?_, ?_, ?_⟩
    all_goals (simp only[qA,seval,I,J,Eb,Ck,X,Y,Z])
  ·have W:=V.1 (4,F,vD c 2 k) (by simp[ib])
   rw[if_pos fq]at s2
   rw[if_neg (by rw[fq];decide)]at s1 s3
   rcases W with⟨hnil,wi⟩|⟨i,g,n,cs,hv,hE,hi,hn,hB,hfz⟩
   ·simp only at hnil wi
    subst hnil
    rw[wi,List.nil_append]at s2
    have nP:=(V.mono (Nat.le_succ k)).new yv 1 (by simp[ib]) (sz:=4) rfl [.s u.nm,.i .i64 y.op,.i .i64 y.num,r] rfl _ vG
    simp only[qA,seval,eO,repl,bp,aH,fK,dx,fN,I,J,Eb,Ck,Oo,O,N,K,hw,aE,l7,mU,fL.kept1,Bh.froz1,cI,cX,aZ,cL,bU,dg,nS,Ea,Cl]
    refine⟨_,rfl,_,_,bI R R.length ⟨1,.cells [.s u.nm,.i .i64 y.op,.i .i64 y.num,r] 0 false⟩,cF,D,.isl .S (R.length+7) 1 0 1 4,H,rfl,jf,(by rw[s1,s2,s3];exact nP), ?_, ?_, ?_, ?_, ?_, ?_, ?_, ?_, ?_⟩
    all_goals (simp only[qA,seval,I,J,Eb,Ck,X,Y,Z])
   ·simp only at hv
    subst hv
    have pb:=V.app 1 (by simp[ib]) (sz:=4) rfl rfl hE hi hn hB [.s u.nm,.i .i64 y.op,.i .i64 y.num,r] rfl _ (hfz.app4 (u.nm,y) [.s u.nm,.i .i64 y.op,.i .i64 y.num,r] GY (by show y.sz≤1000;omega)) (g+1)
    have sd:(n+1)*56≤roomy:=Yi yv
    simp only[qA,seval,eO,repl,bp,aH,fK,dx,fN,I,J,Eb,Ck,Oo,O,N,K,hw,aE,l7,mU,fL.kept1,Bh.froz1,cI,cX,aZ,dC,bU,eb,cw,D9,nS,Ea,hE,hn,sd]
    refine⟨_,rfl,_,_,bI R i ⟨g+1,.cells (cs++ [.s u.nm,.i .i64 y.op,.i .i64 y.num,r]) 0 false⟩,cF,D,.isl .S (i+7) (g+1) 0 (n+1) 4,H,rfl,jf,(by rw[s1,s2,s3];exact pb), ?_, ?_, ?_, ?_, ?_, ?_, ?_, ?_, ?_⟩
    all_goals (simp only[qA,seval,I,J,Eb,Ck,X,Y,Z])
  ·have W:=V.1 (4,H,vD c 3 k) (by simp[ib])
   rw[if_pos fq]at s3
   rw[if_neg (by rw[fq];decide)]at s1 s2
   rcases W with⟨hnil,wi⟩|⟨i,g,n,cs,hv,hE,hi,hn,hB,hfz⟩
   ·simp only at hnil wi
    subst hnil
    rw[wi,List.nil_append]at s3
    have nP:=(V.mono (Nat.le_succ k)).new yv 2 (by simp[ib]) (sz:=4) rfl [.s u.nm,.i .i64 y.op,.i .i64 y.num,r] rfl _ vG
    simp only[qA,seval,eO,repl,bp,aH,fK,dx,fN,I,J,Eb,Ck,Oo,O,N,K,hw,aE,l7,mU,fL.kept1,Bh.froz1,cI,cX,aZ,cL,bU,dg,nS,Ea,Cl]
    refine⟨_,rfl,_,_,bI R R.length ⟨1,.cells [.s u.nm,.i .i64 y.op,.i .i64 y.num,r] 0 false⟩,cF,D,F,.isl .S (R.length+7) 1 0 1 4,rfl,jf,(by rw[s1,s2,s3];exact nP), ?_, ?_, ?_, ?_, ?_, ?_, ?_, ?_, ?_⟩
    all_goals (simp only[qA,seval,I,J,Eb,Ck,X,Y,Z])
   ·simp only at hv
    subst hv
    have pb:=V.app 2 (by simp[ib]) (sz:=4) rfl rfl hE hi hn hB [.s u.nm,.i .i64 y.op,.i .i64 y.num,r] rfl _ (hfz.app4 (u.nm,y) [.s u.nm,.i .i64 y.op,.i .i64 y.num,r] GY (by show y.sz≤1000;omega)) (g+1)
    have sd:(n+1)*56≤roomy:=Yi yv
    simp only[qA,seval,eO,repl,bp,aH,fK,dx,fN,I,J,Eb,Ck,Oo,O,N,K,hw,aE,l7,mU,fL.kept1,Bh.froz1,cI,cX,aZ,dC,bU,eb,cw,D9,nS,Ea,hE,hn,sd]
    refine⟨_,rfl,_,_,bI R i ⟨g+1,.cells (cs++ [.s u.nm,.i .i64 y.op,.i .i64 y.num,r]) 0 false⟩,cF,D,F,.isl .S (i+7) (g+1) 0 (n+1) 4,rfl,jf,(by rw[s1,s2,s3];exact pb), ?_, ?_, ?_, ?_, ?_, ?_, ?_, ?_, ?_⟩
    all_goals (simp only[qA,seval,I,J,Eb,Ck,X,Y,Z])
 ·rintro _ ⟨fr,dN,R,kn,D,F,H,rfl,jj,V,I,J,Eb,Ck,Oo,X,Y,Z,O⟩
  simp only[qA,seval,fN,Ck,Oo,Int.lt_irrefl]
  exact⟨_,_,sV,rfl,rfl,X,Y,Z,R,kn,D,F,H,rfl,jj,V.mono yv,O⟩
end Go.Proofs.YtnkgnjecmfkcfaaGreat
