/- Walks of functions of the program and of the reference, and their plain laws, part 8. Conditions: the theorems' own. -/
import Derived.Test.YtbdfboojnfinkaaGreatM7
import Derived.KernelRfl
set_option maxRecDepth 100000
set_option linter.unusedSimpArgs false
set_option linter.unusedVariables false
set_option maxHeartbeats 16000000
namespace Go.Proofs.YtbdfboojnfinkaaGreat
open Go Go.Ev
theorem aw7(l:List Zo)(a:T)(Y:List T)(ha:IsSl a l.length Y)(hc:iB Dq l Y)(Z:l.length≤100)(g:Nat)(N D:ib)(fr:Fr)(lh:iz ib)(sh:List ib)
  (h3:an fr 3= .mp .L 29 g) (I:an fr 31=a) (A3:an fr 32= .i .i64 (l.length:Int)) (CW:an fr 33= .i .i64 0) (F:a6 lh 1=N) (JT:a6 lh 29=⟨g,.map [] [] false⟩) (Bb:a6 lh 50=D):
  tJ pE 106 yM fr lh sh 0 2 (He [] l) (fun h O=>(He [] l=0→a6 h 29=⟨g,.map (QG (l.map Zo.nm)) (QH (l.map Zo.nm)) false⟩)∧a6 h 1=N∧a6 h 50=D∧O=sh):=by
 refine jD Hp (fun k f h O=>an f 33= .i .i64 (k:Int)∧a6 h 29=⟨g,.map (QG ((l.take k).map Zo.nm)) (QH ((l.take k).map Zo.nm)) false⟩∧a6 h 1=N∧a6 h 50=D∧O=sh∧He [] l=He ((l.take k).map Zo.nm) (l.drop k)) l.length ⟨CW,JT,F,Bb,rfl,rfl⟩ ?_ ?_
 ·rintro k f h _ U H ⟨K,JT,F,Bb,rfl,V⟩
  rw[List.drop_eq_getElem_cons U,He]at V
  have iR:(k:Int)<l.length:=by omega
  have hw:=iM (k:=k) (by omega)
  obtain⟨sT,sc,rr,iS,W,X⟩:=Jj ha hc k U
  have hz:=CT l[k] sT sc W X
  have J:=JS ((l.take k).map Zo.nm) l[k].nm
  have nY:=Wl ((l.take k).map Zo.nm) l[k].nm
  have pD:=yy Zo.nm U
  by_cases hs:l[k].nm∈(l.take k).map Zo.nm
  ·simp only[qB,seval,gd,yM,H,h3,I,A3,K,JT,F,Bb,iR,iS,W.froz1,hz,Xc,jB,J,hs]
   clear H
   grind
  ·simp only[qB,seval,gd,yM,H,h3,I,A3,K,JT,F,Bb,iR,iS,hw,W.froz1,hz,Xc,jB,J,hs,th,Aq,nY hs,pD]
   clear H
   grind
 ·rintro f h _ H ⟨K,JT,F,Bb,rfl,V⟩
  rw[List.take_length]at JT
  simp only[qB,seval,gd,yM,H,A3,K,JT,F,Bb,Int.lt_irrefl,V,List.drop_length,He]
  exact fun _=>trivial
theorem aw8(h:List (List Nat))(l:List Ap)(a:T)(W:List T)(ha:IsSl a l.length W)(hc:iB La l W)(X:l.length≤100)(g K:Nat)(N:ib)(fr:Fr)(lh:iz ib)(sh:List ib)
  (h3:an fr 3= .mp .L 29 K) (Y:an fr 7= .mp .L 50 g) (Qv:an fr 52=a) (EG:an fr 53= .i .i64 (l.length:Int)) (Hc:an fr 54= .i .i64 0) (F:a6 lh 1=N) (JT:a6 lh 29=⟨K,.map (QG h) (QH h) false⟩) (Bb:a6 lh 50=⟨g,.map [] [] false⟩):
  tJ pE 106 yL fr lh sh 2 2 (Hf h [] l) (fun D O=>(Hf h [] l=0→a6 D 50=⟨g,.map (QG (l.map Ap.cd)) (QH (l.map Ap.cd)) false⟩)∧a6 D 1=N∧O=sh):=by
 refine jD Ho (fun k f D O=>an f 54= .i .i64 (k:Int)∧a6 D 50=⟨g,.map (QG ((l.take k).map Ap.cd)) (QH ((l.take k).map Ap.cd)) false⟩∧a6 D 1=N∧a6 D 29=⟨K,.map (QG h) (QH h) false⟩∧O=sh∧Hf h [] l=Hf h ((l.take k).map Ap.cd) (l.drop k)) l.length ⟨Hc,Bb,F,JT,rfl,rfl⟩ ?_ ?_
 ·rintro k f D _ U H ⟨J,Bb,F,JT,rfl,V⟩
  rw[List.drop_eq_getElem_cons U,Hf]at V
  have Z:(k:Int)<l.length:=by omega
  have hw:=iM (k:=k) (by omega)
  obtain⟨rr,iS⟩:=Ji ha hc k U
  have hp:=jE (aal l[k].cd)
  have I:=JS ((l.take k).map Ap.cd) l[k].cd
  have nY:=Wl ((l.take k).map Ap.cd) l[k].cd
  have EH:=JS h l[k].zn
  have pD:=yy Ap.cd U
  by_cases hs:l[k].cd∈(l.take k).map Ap.cd
  ·simp only[qB,seval,gd,yL,H,Y,Qv,EG,J,Bb,F,JT,Z,iS,hp,ak6,jB,I,hs]
   clear H
   grind
  ·by_cases hz:l[k].zn∈h <;> simp only[qB,seval,gd,yL,H,h3,Y,Qv,EG,J,Bb,F,JT,Z,iS,hw,hp,ak6,jB,I,hs,EH,hz,th,Aq,nY hs,pD] <;> clear H <;> grind
 ·rintro f D _ H ⟨J,Bb,F,JT,rfl,V⟩
  rw[List.take_length]at Bb
  simp only[qB,seval,gd,yL,H,EG,J,Bb,F,Int.lt_irrefl,V,List.drop_length,Hf]
  exact fun _=>trivial
def tM(l:List Fl)(k:Nat):Option Fl:=if k=0 then none else l[k-1]?
theorem Fh{l:List Fl}{k:Nat}(D:0<k)(h:k-1<l.length):tM l k=some l[k-1]:=by
 unfold tM;rw[if_neg (by omega),List.getElem?_eq_getElem h]
theorem Wo(h:List (List Nat)){l:List Fl}{k:Nat}(D:k<l.length):Gi h (tM l k) (l.drop k)=if I5 h l[k]≠0 then I5 h l[k]else if(match tM l k with|some p=> !Qq p l[k]|none=>false)=true then 8 else Gi h (tM l (k+1)) (l.drop (k+1)):=by
 have e:tM l (k+1)=some l[k]:=by unfold tM;rw[if_neg (by omega),Nat.add_sub_cancel,List.getElem?_eq_getElem D]
 rw[List.drop_eq_getElem_cons D,e]
 conv=>lhs;unfold Gi
 try rfl
theorem aw9(h:List (List Nat))(Y Z:T)(l:List Fl)(a:T)(cc:List T)(ha:IsSl a l.length cc)(hc:iB WO l cc)(hlen:l.length≤1000)(g:Nat)(fr:Fr)(lh:iz ib)(sh:List ib)
  (h1:an fr 1= .ptr .L 1 1 0) (h7:an fr 7= .mp .L 50 g) (H:an fr 79=a) (D:an fr 80= .i .i64 (l.length:Int)) (N:an fr 81= .i .i64 0) (I:a6 lh 1=⟨1,.cells [Y,Z,a] 0 true⟩) (Bb:a6 lh 50=⟨g,.map (QG h) (QH h) false⟩):
  tJ pE 106 yK fr lh sh 5 2 (Gi h none l) (fun J O=>O=sh):=by
 refine jD QL (fun k f J O=>an f 81= .i .i64 (k:Int)∧a6 J 1=⟨1,.cells [Y,Z,a] 0 true⟩∧(∃U,a6 J 50=⟨g,.map (QG h) (QH h) U⟩)∧O=sh∧Gi h none l=Gi h (tM l k) (l.drop k)) l.length ⟨N,I,⟨_,Bb⟩,rfl,rfl⟩ ?_ ?_
 ·rintro k f J _ hk F ⟨K,I,⟨U,Bb⟩,rfl,V⟩
  rw[Wo h hk]at V
  have iR:(k:Int)<l.length:=by omega
  have hw:=iM (k:=k) (by omega)
  obtain⟨rr,iS⟩:=sk ha hc k hk
  have W:=ag6 h l[k]
  unfold od at W
  by_cases DV:k=0
  ·have X: ¬(0:Int)<k:=by omega
   have hp:tM l k=none:=by rw[DV];rfl
   simp only[qB,seval,gd,iY,yK,F,h7,H,D,K,I,Bb,iR,iS,hw,W,ak8,X]
   clear F
   grind
  ·have X:(0:Int)<k:=by omega
   have DQ:=pQ (k:=k) (by omega) (by omega)
   obtain⟨r2,Hg⟩:=sk ha hc (k-1) (by omega)
   have hb:=jE (aan l[k-1] l[k])
   have hp:=Fh (l:=l) (k:=k) (by omega) (by omega)
   unfold od at hb
   simp only[qB,seval,gd,iY,iC,yK,F,h1,h7,H,D,K,I,Bb,iR,iS,hw,W,ak8,X,DQ,Hg,hb,atl,atm]
   clear F
   grind
 ·rintro f J _ F ⟨K,I,⟨U,Bb⟩,rfl,V⟩
  simp only[qB,seval,gd,yK,F,D,K,Int.lt_irrefl,V,List.drop_length,Gi]
structure sI (t:Tt) (zT aT fT:T):Prop where
 z: ∃c,IsSl zT t.zo.length c∧iB Dq t.zo c
 a: ∃c,IsSl aT t.ap.length c∧iB La t.ap c
 f: ∃c,IsSl fT t.fl.length c∧iB WO t.fl c
theorem Lc(t:Tt)(h D F:T)(W:sI t h D F):hZ pE 29 [.agg [h,D,F]] []=some (.i .i64 (rL t),[]):=by
 obtain⟨⟨X,H,Y⟩,⟨ac,a1,a2⟩,⟨Z,I,f2⟩⟩:=W
 rw[im akM (by simp[c29])]
 unfold rL
 by_cases q:t.zo.length≤16∧t.ap.length≤64∧t.fl.length≤200
 ·have O:=fun fr lh sh J K A3 CW N JT Bb=>lpO (aw7 t.zo h X H Y (by omega) 1 ⟨1,.cells [h,D,F] 0 true⟩ ⟨0,.none⟩ fr lh sh J K A3 CW N JT Bb) (by simp)
  have U:=fun fr lh sh J h7 Qv EG Hc N JT Bb=>lpO (aw8 (t.zo.map Zo.nm) t.ap D ac a1 a2 (by omega) 1 1 ⟨1,.cells [h,D,F] 0 true⟩ fr lh sh J h7 Qv EG Hc N JT Bb) (by simp)
  have V:=aw9 (t.ap.map Ap.cd) h D t.fl F Z I f2 (by omega) 1
  simp(maxDischargeDepth:=6) only[qB,seval,c29,Ho,Hp,H.lenI,a1.lenI,I.lenI,O,U,V]
  clear O U V
  grind
 ·simp only[qB,seval,c29,H.lenI,a1.lenI,I.lenI]
  grind
theorem JU: ∀a:List Nat,lessN a a=false
 | []=>rfl
 |x::a=>by simp[lessN,JU a]
theorem Fi: ∀a b:List Nat,lessN a b=true→lessN b a=false
 | [],[],h=>by simp[lessN]at h
 | [],y::b,h=>rfl
 |x::a,[],h=>by simp[lessN]at h
 |x::a,y::b,h=>by
  simp[lessN]at h ⊢
  refine⟨by omega,fun e=> ?_⟩
  subst e
  rcases h with h|h
  ·omega
  ·exact Fi a b h.2
theorem JV: ∀a b:List Nat,lessN a b=false→lessN b a=false→a=b
 | [],[],_,_=>rfl
 | [],y::b,h,_=>by simp[lessN]at h
 |x::a,[],_,h=>by simp[lessN]at h
 |x::a,y::b,D,F=>by
  simp[lessN]at D F
  have:x=y:=by omega
  subst this
  rw[JV a b (by simpa using D) (by simpa using F)]
theorem aao(a b:List Nat):(lessN a b||a==b)= !lessN b a:=by
 cases h:lessN b a with
 |true=>
  rw[Fi _ _ h]
  have:a≠b:=fun e=>by subst e;rw[JU]at h;cases h
  simp[this]
 |false=>
  cases D:lessN a b with
  |true=>rfl
  |false=>rw[JV _ _ D h];simp
theorem Wp{s t:List Nat}:Ev.bin .leq (.s s) (.s t)=some (.b (!lessN t s)):=by
 rw[←aao];rfl
def ixA(s:List Nat):List (List Nat)→Nat→Int
 | [],_=> -1
 |x::r,k=>if x=s then(k:Int)else ixA s r (k+1)
theorem A5(s:List Nat): ∀(l:List (List Nat)) (k:Nat),ixA s l k<0↔s∉l
 | [],k=>by simp[ixA]
 |x::r,k=>by
  rw[ixA]
  by_cases h:x=s
  ·rw[if_pos h];subst h;simp
  ·rw[if_neg h,A5 s r (k+1)]
   simp[Ne.symm h]
theorem zL(s:List Nat): ∀(ns:List (List Nat)) (k:Nat),ixA s ns k<0→ixA s ns k= -1
 | [],_,_=>rfl
 |x::ns,k,h=>by
  rw[ixA]at h ⊢
  by_cases e:x=s
  ·rw[if_pos e]at h;omega
  ·rw[if_neg e]at h ⊢; exact zL s ns _ h
theorem zi1(s:List Nat)(l:List Zo)(a:T)(K:List T)(D:IsSl a l.length K)(V:iB Dq l K)(N:l.length≤1000)(fr:Fr)(lh:iz ib)(sh:List ib)(O:an fr 0=a)(W:an fr 1= .s s)(X:an fr 5= .i .i64 0):
  UC pE 20 BM fr lh sh 0 4 (ixA s (l.map Zo.nm) 0<0) (.i .i64 (ixA s (l.map Zo.nm) 0)) (fun F H=>H=sh):=by
 refine qt QX (by simp[iI]) (fun k f F H=>an f 5= .i .i64 (k:Int)∧H=sh∧ixA s (l.map Zo.nm) 0=ixA s ((l.drop k).map Zo.nm) k) l.length ⟨X,rfl,rfl⟩ ?_ ?_
 ·rintro k f F _ U h ⟨I,rfl,J⟩
  have Y:(k:Int)<l.length:=by omega
  have Z:=iM (k:=k) (by omega)
  obtain⟨sT,sc,rr,iS,_⟩:=Jj D V k U
  rw[List.drop_eq_getElem_cons U,List.map_cons,ixA]at J
  simp only[qB,seval,gd,BM,h,O,W,I,D.lenI,Y,iS,Z]
  clear h
  grind
 ·rintro f F _ h ⟨I,rfl,J⟩
  simp only[qB,seval,gd,BM,h,O,I,D.lenI,Int.lt_irrefl,J,List.drop_length,List.map_nil,ixA]
theorem acG(s:List Nat)(l:List Zo)(a:T)(D:List T)(H:IsSl a l.length D)(I:iB Dq l D)(h:l.length≤1000):hZ pE 97 [a,.s s] []=some (.i .i64 (ixA s (l.map Zo.nm) 0),[]):=by
 have F:=zi1 s l a D H I h
 have Gq:=zL s (l.map Zo.nm) 0
 rw[im ad2 (by simp[c97])]
 simp only[qB,seval,c97,F]
 clear F
 grind
theorem acW(s:List Nat)(l:List Zo)(a:T)(D:List T)(F:IsSl a l.length D)(H:iB Dq l D)(h:l.length≤1000): ∃v:Int,hZ pE 97 [a,.s s] []=some (.i .i64 v,[])∧(v<0↔s∉l.map Zo.nm):=⟨_,acG s l a D F H h,A5 s _ 0⟩
theorem ai1(s:List Nat)(l:List Ap)(a:T)(K:List T)(D:IsSl a l.length K)(V:iB La l K)(N:l.length≤1000)(fr:Fr)(lh:iz ib)(sh:List ib)(O:an fr 0=a)(W:an fr 1= .s s)(X:an fr 5= .i .i64 0):
  UC pE 20 BN fr lh sh 0 4 (ixA s (l.map Ap.cd) 0<0) (.i .i64 (ixA s (l.map Ap.cd) 0)) (fun F H=>H=sh):=by
 refine qt QY (by simp[iI]) (fun k f F H=>an f 5= .i .i64 (k:Int)∧H=sh∧ixA s (l.map Ap.cd) 0=ixA s ((l.drop k).map Ap.cd) k) l.length ⟨X,rfl,rfl⟩ ?_ ?_
 ·rintro k f F _ U h ⟨I,rfl,J⟩
  have Y:(k:Int)<l.length:=by omega
  have Z:=iM (k:=k) (by omega)
  obtain⟨rr,iS⟩:=Ji D V k U
  rw[List.drop_eq_getElem_cons U,List.map_cons,ixA]at J
  simp only[qB,seval,gd,BN,h,O,W,I,D.lenI,Y,iS,Z]
  clear h
  grind
 ·rintro f F _ h ⟨I,rfl,J⟩
  simp only[qB,seval,gd,BN,h,O,I,D.lenI,Int.lt_irrefl,J,List.drop_length,List.map_nil,ixA]
theorem acF(s:List Nat)(l:List Ap)(a:T)(D:List T)(H:IsSl a l.length D)(I:iB La l D)(h:l.length≤1000):hZ pE 99 [a,.s s] []=some (.i .i64 (ixA s (l.map Ap.cd) 0),[]):=by
 have F:=ai1 s l a D H I h
 have Gq:=zL s (l.map Ap.cd) 0
 rw[im ad4 (by simp[c99])]
 simp only[qB,seval,c99,F]
 clear F
 grind
theorem Wq(s:List Nat)(l:List Ap)(a:T)(D:List T)(F:IsSl a l.length D)(H:iB La l D)(h:l.length≤1000): ∃v:Int,hZ pE 99 [a,.s s] []=some (.i .i64 v,[])∧(v<0↔s∉l.map Ap.cd):=⟨_,acF s l a D F H h,A5 s _ 0⟩
theorem axb(f:Fl)(K N:ib)(fr:Fr)(lh:iz ib)(sh:List ib)(V:an fr 5= .ptr .L 5 1 0)(W:an fr 6= .i .i64 0)(O:a6 lh 2=K)(F:a6 lh 5=⟨1,.cells (od f) 0 true⟩)(U:a6 lh 7=N):
  tJ pE 108 wW fr lh sh 0 4 (if [f.n0,f.n1,f.n2].all uS then 0 else 5) (fun h H=>a6 h 2=K∧a6 h 5=⟨1,.cells (od f) 0 true⟩∧a6 h 7=N∧H=sh):=by
 refine jD yW (fun k g h H=>an g 6= .i .i64 (k:Int)∧h=lh∧H=sh∧ [f.n0,f.n1,f.n2].all uS=([f.n0,f.n1,f.n2].drop k).all uS) 3 ⟨W,rfl,rfl,rfl⟩ ?_ ?_
 ·rintro k g _ _ Y D ⟨I,rfl,rfl,J⟩
  have X:k=0∨k=1∨k=2:=by omega
  unfold uS at*
  unfold od at F ⊢
  rcases X with rfl|rfl|rfl <;> simp only[qB,seval,gd,mf,wW,D,V,I,O,F,U,Int.ofNat_zero,Int.ofNat_one] <;> clear D <;> simp at J ⊢ <;> grind
 ·rintro g _ _ D ⟨I,rfl,rfl,J⟩
  simp only[qB,seval,gd,wW,D,I,O,F,U,Int.lt_irrefl,J]
def flS(D:List (List Nat))(h:Option Fl)(f:Fl):Int:=if I5 D f≠0 then I5 D f else if(match h with|some p=> !Qq p f|none=>false)=true then 8 else 0
theorem L0(t:Tt)(N h O:T)(Z:sI t N h O)(ha:t.ap.length≤100)(hf:t.fl.length≤1000)(hN: ∀f∈t.fl,f.nu.length≤mJ)(k:Nat)(V:k<t.fl.length):
  hZ pE 100 [.agg [N,h,O],.i .i64 (k:Int)] []=some (.i .i64 (flS (t.ap.map Ap.cd) (tM t.fl k) t.fl[k]),[]):=by
 obtain⟨⟨zc,z1,z2⟩,⟨ac,a1,a2⟩,⟨fc,W,X⟩⟩:=Z
 obtain⟨rr,Y⟩:=sk W X k V
 have H:=jE (Wn t.fl[k].nu (hN _ (List.getElem_mem V)))
 have I:=jE (xT t.fl[k].ty)
 obtain⟨v1,J,e1⟩:=Wq t.fl[k].fr t.ap h ac a1 a2 (by omega)
 obtain⟨v2,K,e2⟩:=Wq t.fl[k].to t.ap h ac a1 a2 (by omega)
 have D:=axb t.fl[k] ⟨1,.cells [N,h,O] 0 true⟩ ⟨0,.none⟩
 have hw:= @jw (t.fl[k].ar-t.fl[k].dp)
 rw[im aav (by simp[NT])]
 unfold od at D
 by_cases DV:k=0
 ·have U: ¬(0:Int)<k:=by omega
  have hp:tM t.fl k=none:=by rw[DV];rfl
  rw[hp]
  simp only[qB,seval,NT,yW,a1.froz,Y,H,I,abc,Ec,J,K,Xf,D,U]
  clear D H I J K
  unfold flS I5 PI
  grind (splits:=30)
 ·have U:(0:Int)<k:=by omega
  have DQ:=pQ (k:=k) (by omega) (by omega)
  obtain⟨r2,Hg⟩:=sk W X (k-1) (by omega)
  rw[Fh (by omega) (by omega)]
  have F:Ev.bin .leq (.s t.fl[k].nu) (.s t.fl[k-1].nu)=if lessN t.fl[k-1].nu t.fl[k].nu=true then some (.b false)else some (.b true):=by rw[Wp];cases lessN t.fl[k-1].nu t.fl[k].nu <;> rfl
  simp only[qB,seval,NT,yW,a1.froz,Y,H,I,abc,Ec,J,K,Xf,D,U,DQ,Hg,F]
  clear D H I J K F
  unfold flS I5 PI Qq
  grind (splits:=30)
theorem iB.take{α:Type}{R:α→List T→Prop}{k:Nat}(D: ∀x c,R x c→c.length=k): ∀{xs:List α} {cs:List T} (i:Nat),iB R xs cs→iB R (xs.take i) (cs.take (i*k))
 | [],cs,i,h=>by rw[iB]at h;subst h;simp[iB]
 |x::xs,cs,0,h=>by simp[iB]
 |x::xs,cs,i+1,h=>by
  rw[iB]at h
  obtain⟨c,r,rfl,F,H⟩:=h
  have e:(c++r).take ((i+1)*k)=c++r.take (i*k):=by
   rw[show(i+1)*k=c.length+i*k by rw[D _ _ F,Nat.add_mul,Nat.one_mul,Nat.add_comm],List.take_append,List.take_of_length_le (by omega),Nat.add_sub_cancel_left]
  rw[e]
  exact⟨c,r.take (i*k),rfl,F,iB.take D i H⟩
theorem Wr{n i:Nat}{a:T}{h:List T}(hi:i<n)(D:IsSl a n h): ∃ex,a= .sl h n ex:=by
 rcases D with⟨_,hz,_⟩|⟨ex,rfl⟩
 ·omega
 ·exact⟨ex,rfl⟩
theorem axc(l:List Zo)(N O a:T)(H:List T)(I:IsSl a l.length H)(U:iB Dq l H)(hlen:l.length≤100)(fr:Fr)(lh:iz ib)(sh:List ib)
  (h1:an fr 1= .ptr .L 1 1 0) (h3:an fr 3= .i .i64 0) (h:a6 lh 1=⟨1,.cells [a,N,O] 0 true⟩):
  tJ pE 96 By fr lh sh 0 2 (He [] l) (fun D V=>a6 D 1=⟨1,.cells [a,N,O] 0 true⟩∧V=sh):=by
 refine jD HD (fun k f D V=>an f 3= .i .i64 (k:Int)∧a6 D 1=⟨1,.cells [a,N,O] 0 true⟩∧V=sh∧He [] l=He ((l.take k).map Zo.nm) (l.drop k)) l.length ⟨h3,h,rfl,rfl⟩ ?_ ?_
 ·rintro k f D _ J K ⟨W,h,rfl,X⟩
  have iR:(k:Int)<l.length:=by omega
  have ua:k≤l.length:=by omega
  have hw:=iM (k:=k) (by omega)
  obtain⟨sT,sc,rr,iS,tG,Y⟩:=Jj I U k J
  have hz:=CU l[k] sT sc tG Y
  have l9:=iB.len Dq.len U
  obtain⟨ex,rfl⟩:=Wr J I
  have F:(l.take k).length=k:=by rw[List.length_take,Nat.min_eq_left ua]
  obtain⟨v,Z,OH⟩:=acW l[k].nm (l.take k) (.sl (H.take (k*3)) k (ex&&decide (k=l.length))) (H.take (k*3)) (by rw[F];exact Or.inr ⟨_,rfl⟩) (iB.take Dq.len k U) (by rw[F];omega)
  rw[List.drop_eq_getElem_cons J,He]at X
  have pD:=yy Zo.nm J
  simp only[qB,seval,gd,wC,iY,iC,By,K,h1,W,h,I.lenI,iR,ua,l9,Nat.sub_zero,iS,hw,tG.froz1,hz,ad1,Z,ad3,alC]
  clear K
  grind
 ·rintro f D _ K ⟨W,h,rfl,X⟩
  simp only[qB,seval,gd,By,K,h1,W,h,I.lenI,Int.lt_irrefl,X,List.drop_length,He]
theorem axd(h:List Zo)(D:T)(U:List T)(z1:IsSl D h.length U)(z2:iB Dq h U)(hzl:h.length≤100)(l:List Ap)(V a:T)(J:List T)(K:IsSl a l.length J)(W:iB La l J)(hlen:l.length≤100)(fr:Fr)(lh:iz ib)(sh:List ib)
  (h1:an fr 1= .ptr .L 1 1 0) (h5:an fr 5= .i .i64 0) (F:a6 lh 1=⟨1,.cells [D,a,V] 0 true⟩):
  tJ pE 96 Bx fr lh sh 2 2 (Hf (h.map Zo.nm) [] l) (fun H X=>a6 H 1=⟨1,.cells [D,a,V] 0 true⟩∧X=sh):=by
 refine jD HC (fun k f H X=>an f 5= .i .i64 (k:Int)∧a6 H 1=⟨1,.cells [D,a,V] 0 true⟩∧X=sh∧Hf (h.map Zo.nm) [] l=Hf (h.map Zo.nm) ((l.take k).map Ap.cd) (l.drop k)) l.length ⟨h5,F,rfl,rfl⟩ ?_ ?_
 ·rintro k f H _ N O ⟨Y,F,rfl,Z⟩
  have iR:(k:Int)<l.length:=by omega
  have ua:k≤l.length:=by omega
  have hw:=iM (k:=k) (by omega)
  obtain⟨rr,iS⟩:=Ji K W k N
  have hp:=jE (aam l[k].cd)
  have l9:=iB.len La.len W
  obtain⟨ex,rfl⟩:=Wr N K
  have I:(l.take k).length=k:=by rw[List.length_take,Nat.min_eq_left ua]
  obtain⟨v,hv1,OH⟩:=Wq l[k].cd (l.take k) (.sl (J.take (k*2)) k (ex&&decide (k=l.length))) (J.take (k*2)) (by rw[I];exact Or.inr ⟨_,rfl⟩) (iB.take La.len k W) (by rw[I];omega)
  obtain⟨u,hu1,hu2⟩:=acW l[k].zn h D U z1 z2 (by omega)
  rw[List.drop_eq_getElem_cons N,Hf]at Z
  have pD:=yy Ap.cd N
  simp only[qB,seval,gd,wC,iY,iC,Bx,O,h1,Y,F,K.lenI,iR,ua,l9,Nat.sub_zero,iS,hw,hp,atz,hv1,Xf,atA,z1.froz,hu1,ad3]
  clear O
  grind
 ·rintro f H _ O ⟨Y,F,rfl,Z⟩
  simp only[qB,seval,gd,Bx,O,h1,Y,F,K.lenI,Int.lt_irrefl,Z,List.drop_length,Hf]
theorem axe(t:Tt)(D F H:T)(V:sI t D F H)(Z:t.ap.length≤100)(hf:t.fl.length≤1000)(hN: ∀f∈t.fl,f.nu.length≤mJ)(fr:Fr)(lh:iz ib)(sh:List ib)
  (W:an fr 1= .ptr .L 1 1 0) (h7:an fr 7= .i .i64 0) (h:a6 lh 1=⟨1,.cells [D,F,H] 0 true⟩):
  tJ pE 96 Bw fr lh sh 4 2 (Gi (t.ap.map Ap.cd) none t.fl) (fun I K=>K=sh):=by
 have Zt:=V
 obtain⟨⟨zc,z1,z2⟩,⟨ac,a1,a2⟩,⟨fc,N,f2⟩⟩:=Zt
 refine jD QQ (fun k f I K=>an f 7= .i .i64 (k:Int)∧a6 I 1=⟨1,.cells [D,F,H] 0 true⟩∧K=sh∧Gi (t.ap.map Ap.cd) none t.fl=Gi (t.ap.map Ap.cd) (tM t.fl k) (t.fl.drop k)) t.fl.length ⟨h7,h,rfl,rfl⟩ ?_ ?_
 ·rintro k f I _ X J ⟨O,h,rfl,U⟩
  have iR:(k:Int)<t.fl.length:=by omega
  have hw:=iM (k:=k) (by omega)
  have Y:=L0 t D F H V Z hf hN k X
  rw[Wo _ X]at U
  simp only[qB,seval,gd,Bw,J,W,O,h,z1.froz1,a1.froz1,N.froz1,N.lenI,iR,hw,Y,alE]
  clear J Y
  unfold flS
  grind
 ·rintro f I _ J ⟨O,h,rfl,U⟩
  simp only[qB,seval,gd,Bw,J,W,O,h,N.lenI,Int.lt_irrefl,U,List.drop_length,Gi]
theorem afQ(t:Tt)(h D F:T)(I:sI t h D F)(W: ∀f∈t.fl,f.nu.length≤mJ):hZ pE 54 [.agg [h,D,F]] []=some (.i .i64 (rL t),[]):=by
 have Zt:=I
 obtain⟨⟨J,H,K⟩,⟨ac,a1,a2⟩,⟨X,N,Y⟩⟩:=Zt
 rw[im ak3 (by simp[c54])]
 unfold rL
 by_cases q:t.zo.length≤16∧t.ap.length≤64∧t.fl.length≤200
 ·have O:=axc t.zo D F h J H K (by omega)
  have U:=axd t.zo h J H K (by omega) t.ap F D ac a1 a2 (by omega)
  have V:=axe t h D F I (by omega) (by omega) W
  simp(maxDischargeDepth:=6) only[qB,seval,c54,HC,HD,H.lenI,a1.lenI,N.lenI,O,U,V]
  clear O U V
  grind
 ·simp only[qB,seval,c54,H.lenI,a1.lenI,N.lenI]
  grind
def Dh(sz:Nat):T→Bool
 | .sl h 1 _=>decide (h.length=sz∧0<sz)
 |_=>false
def Fj(sz:Nat):T→Bool
 | .nilsl=>true
 | .isl .S _ _ 0 _ h=>decide (h=sz)
 |_=>false
def NR(sh:List ib)(k bytes g len sz:Nat)(h:List T)(e:ib):Option (T×List ib):=match e.ob with
 | .cells cs D false=>if e.g=g∧len*sz=cs.length∧(len+1)*bytes≤roomy then some (.isl .S k (g+1) 0 (len+1) sz,jO sh k ⟨g+1,.cells (cs++h) D false⟩)else none
 |_=>none
def ag7(sh:List ib)(bytes sz:Nat):T→T→Option (T×List ib)
 | .nilsl,.sl h 1 _=>if bytes≤roomy then some (.isl .S sh.length 1 0 1 sz,jO sh sh.length ⟨1,.cells h 0 false⟩)else none
 | .isl .S k g 0 len _,.sl h 1 _=>NR sh k bytes g len sz h (jr sh k)
 |_,_=>none
theorem jF{sz:Nat}{h:List T}{ex:Bool}:Dh sz (.sl h 1 ex)=decide (h.length=sz∧0<sz):=nr rfl
theorem mn{sz:Nat}:Fj sz .nilsl=true:=nr rfl
theorem mq{k g len sz h:Nat}:Fj sz (.isl .S k g 0 len h)=decide (h=sz):=nr rfl
theorem mP{sh:List ib}{bytes sz:Nat}{h:List T}{ex:Bool}:ag7 sh bytes sz .nilsl (.sl h 1 ex)=if bytes≤roomy then some (.isl .S sh.length 1 0 1 sz,jO sh sh.length ⟨1,.cells h 0 false⟩)else none:=nr rfl
theorem mQ{sh:List ib}{k g len bytes sz D:Nat}{h:List T}{ex:Bool}:ag7 sh bytes sz (.isl .S k g 0 len D) (.sl h 1 ex)=NR sh k bytes g len sz h (jr sh k):=nr rfl
theorem kU{sh:List ib}{k g h len bytes D sz:Nat}{F:List T}{cs:List T}:NR sh k bytes g len sz F ⟨h,.cells cs D false⟩=if h=g∧len*sz=cs.length∧(len+1)*bytes≤roomy then some (.isl .S k (g+1) 0 (len+1) sz,jO sh k ⟨g+1,.cells (cs++F) D false⟩)else none:=nr rfl
theorem Fk{sz:Nat}{t:T}(h:Dh sz t=true): ∃D ex,t= .sl D 1 ex∧D.length=sz∧0<sz:=by
 unfold Dh at h
 grind
theorem JW{sz:Nat}{t:T}(h:Fj sz t=true):t= .nilsl∨ ∃k g len,t= .isl .S k g 0 len sz:=by
 unfold Fj at h
 grind
section
variable{E:Env}{call:p7}{n:Nat}{fr:Fr}{lh:iz ib}{sh:List ib}{ds:List (List Nat×be)}{jT:List FP}{d:Option Nat}{os:List be}
theorem lX{H sz bytes:Nat}{s x:iD}(O:H<n)(h:Dh sz (rd fr x)=true)(hs:Fj sz (rd fr s)=true):ij E call n (⟨some H,.app sz bytes s x true false,none⟩::os) ⟨fr,lh,sh⟩=
  (ag7 sh bytes sz (rd fr s) (rd fr x)).bind fun q=>ij E call n os ⟨j3 fr H q.1,lh,q.2⟩:=by
 obtain⟨U,ex,h,X,V⟩:=Fk h
 have D:U.length=1*sz:=by omega
 rw[pG (by rfl) (show DH n (some H)from O)]
 unfold Ev.one
 rcases JW hs with hs|⟨k,g,len,hs⟩
 ·simp only[jk,rP,jt,hs,h,jP,D,if_true,Q.run,Option.bind_some,mP]
  simp only[Nat.succ_ne_zero,if_false,Nat.one_mul]
  by_cases F:bytes≤roomy
  ·simp only[if_pos F,ot,Q.run,if_true];rfl
  ·simp only[if_neg F,Q.run];rfl
 ·have I:(St.mk fr lh sh).get .S k=jr sh k:=rfl
  rw[hs,h,mQ]
  generalize Y:jr sh k=e at*
  obtain⟨W,ob⟩:=e
  unfold NR
  simp only[jk,rP,jt,hs,h,jP,D,if_true,Q.run,Option.bind_some]
  simp only[Nat.succ_ne_zero,if_false,decide_true,Bool.true_and,decide_eq_true_eq]
  by_cases F:(len+1)*bytes≤roomy
  ·simp only[Q.run,I,if_true,F,and_true]
   by_cases J:W=g
   ·subst J
    simp only[if_true,true_and]
    cases ob with
    |none=>simp only[Q.run];rfl
    |map _ _ _=>simp only[Q.run];rfl
    |cells cs K bx=>
     cases bx with
     |true=>simp only[Q.run];rfl
     |false=>
      simp only[]
      by_cases N:len*sz=cs.length
      ·simp only[if_pos N,Q.run];rfl
      ·simp only[if_neg N,Q.run];rfl
   ·simp only[Q.run,J,false_and,if_false]
    cases ob with
    |none=>rfl
    |map _ _ _=>rfl
    |cells cs K bx=>cases bx <;> rfl
  ·simp only[F,if_false,Q.run,and_false]
   cases ob with
   |none=>rfl
   |map _ _ _=>rfl
   |cells cs K bx=>cases bx <;> rfl
def JX(n:Nat):T→FP
 | .isl .S k _ _ _ _=>⟨false,[(.S,k)],[(.S,k)]⟩
 |_=>⟨true,[],[(.S,n)]⟩
theorem jA{D F:List (Sp×Nat)}{m:Nat}{t:T}(H:J0 D=true)(I:J0 F=true):apart ⟨false,D,F⟩ (JX m t)=true:=by
 have q: ∀(xs:List (Sp×Nat)) (k:Nat),J0 xs=true→(xs.all fun x=> !([(Sp.S,k)]:List (Sp×Nat)).contains x)=true:=by
  intro xs k h
  rw[List.all_eq_true]
  intro x J
  have:=List.all_eq_true.1 h x J
  grind
 have K: ∀(xs:List (Sp×Nat)),(xs.all fun x=> !([]:List (Sp×Nat)).contains x)=true:=by intro xs;rw[List.all_eq_true];intro x _;rfl
 unfold JX
 split
 ·unfold apart mD
  rw[q F _ I,q D _ H];rfl
 ·unfold apart mD
  dsimp only
  rw[q F _ I,q D _ H,K,H,I];rfl
theorem lY{u:List Nat}{H sz bytes:Nat}{s x:iD}(I:Dh sz (rd fr x)=true)(hs:Fj sz (rd fr s)=true):iQ E call n ((u,⟨some H,.app sz bytes s x true false,none⟩)::ds) jT ⟨fr,lh,sh⟩=
  if meets u jT (JX sh.length (rd fr s))=true then ke E call n ds (jT++ [JX sh.length (rd fr s)]) (ij E call n [⟨some H,.app sz bytes s x true false,none⟩] ⟨fr,lh,sh⟩)else none:=by
 refine uB fun K=> ?_
 obtain⟨N,ex,I,O,U⟩:=Fk I
 have V:jP sz (rd fr x)= .ret (1,N):=by rw[I];simp only[jP,Nat.one_mul,O,if_true]
 obtain⟨v,W,h,D⟩:=xO (q:=rP H sz bytes (rd fr s) (rd fr x) true false) (by rfl) (by rw[lG];rfl) K
 unfold rP at h D
 rw[V]at h D
 simp only[Q.bind,Nat.one_ne_zero,if_false]at h D
 rcases JW hs with hs|⟨k,g,len,hs⟩
 ·rw[hs]at h D ⊢
  simp only at h D
  by_cases F:1*bytes≤roomy
  ·rw[if_pos F]at h D
   simp only[ot,if_true,Q.run,Option.some.injEq,BR.val.injEq]at h
   obtain⟨rfl,rfl⟩:=h
   rw[D (by simp[ot,Q.asks])]
   rfl
  ·rw[if_neg F]at h
   simp[Q.run]at h
 ·rw[hs]at h D ⊢
  simp only[decide_true,Bool.true_and,decide_eq_true_eq]at h D
  by_cases F:(len+1)*bytes≤roomy
  ·rw[if_pos (by simp[F])]at h D
   simp only[Q.run]at h
   generalize J:(St.mk fr lh sh).get .S k=e at h D
   obtain⟨Z,ob⟩:=e
   simp only at h
   split at h
   ·rename_i X
    cases ob with
    |none=>simp[Q.run]at h
    |map a b c=>simp[Q.run]at h
    |cells J2 wm bx=>
     cases bx with
     |true=>simp[Q.run]at h
     |false=>
      simp only at h
      split at h
      ·rename_i Y
       simp only[Q.run,Option.some.injEq,BR.val.injEq]at h
       obtain⟨rfl,rfl⟩:=h
       rw[D (by simp[vW,BT,J])]
       simp only[Q.asks,Q.log,J,X,Y,if_true,j4,List.map_cons,List.map_nil,JX]
      ·simp[Q.run]at h
   ·simp[Q.run]at h
  ·rw[if_neg (by simp[F])]at h
   simp[Q.run]at h
end
mutual
def Fm.us(p:Int):Fm→Bool
 | .mk op num args=>if op=6 then decide (num=p)else usL p args
def usL(p:Int):List Fm→Bool
 | []=>false
 |x::xs=>x.us p||usL p xs
end
theorem Fm.us_eq(p:Int)(x:Fm):x.us p=if x.op=6 then decide (x.num=p)else usL p x.args:=by obtain⟨_,_,_⟩:=x;rw[Fm.us];rfl
theorem JY: ∀xs:List Fm,xs.length≤wM xs
 | []=>by simp[wM]
 |x::xs=>by
  have h:=JY xs
  have D:=x.sz_eq
  rw[wM,List.length_cons];omega
mutual
theorem Bc(D:List Nat→Int)(scope:Int): ∀x:Ex,(comp D scope x).sz≤x.nodes
 | .mk op num name args=>by
   have h:=JZ D scope args
   rw[Ex.nodes_eq,rm]
   show Fm.sz (if op=1∨op=2∨op=3 then .mk 1 num []else if op=4 then .mk 1 1 []else if op=5 then .mk 1 0 []else if op=6 then(match Kb scope name with|some i=> .mk 6 (i:Int) []|none=> .mk 1 (D name) [])else .mk op 0 (lK D scope args))≤1+jz args
   have l: ∀(a b:Int),Fm.sz (.mk a b [])≤1+jz args:=fun a b=>by rw[Fm.sz_eq];show 1+wM []≤_;rw[wM];omega
   split
   ·exact l _ _
   split
   ·exact l _ _
   split
   ·exact l _ _
   split
   ·split <;> exact l _ _
   ·rw[Fm.sz_eq];show 1+wM (lK D scope args)≤_;omega
theorem JZ(h:List Nat→Int)(scope:Int): ∀xs:List Ex,wM (lK h scope xs)≤jz xs
 | []=>by rw[lK,wM,jz];exact Nat.le_refl _
 |x::xs=>by
  have D:=Bc h scope x
  have F:=JZ h scope xs
  rw[lK,wM,jz];omega
end
section
variable(p:Int)
def usP(f:Fm):Prop:= ∀(b:T) (h r:List T),IsSl b f.args.length h→iT f.args h→f.sz≤100000→hZ pE 33 [.vp (.i .i64 f.op:: .i .i64 f.num::b::r),.i .i64 p] []=some (.b (f.us p),[])
theorem H7(op num:Int)(O:List T)(xs:List Fm)(ih: ∀y∈xs,usP p y)(a:T)(U:List T)(Z:IsSl a xs.length U)(hx:iT xs U)(hn:wM xs≤100000)(r:Bool)(D:r=usL p xs)(o:Out)(V:o=if r then .ret else .ext 0)(fr:Fr)(lh:iz ib)(sh:List ib)
  (F:an fr 0= .vp (.i .i64 op:: .i .i64 num::a::O)) (H:an fr 1= .i .i64 p) (Qb:an fr 21= .i .i64 (xs.length:Int)) (ER:an fr 22= .i .i64 0):
  rD 34 wj fr lh sh o∧
  ((r=true→an (pw pE 34 wj fr lh sh) 4= .b true)∧ng pE 34 wj fr lh sh=sh):=by
 refine jc (P:=fun js iN jb=>(r=true→an js 4= .b true)∧jb=sh)
  (jm (fun k st=> ∃(fr:Fr) (N:iz ib),st=⟨fr,N,sh⟩∧r=usL p (xs.drop k)∧an fr 0= .vp (.i .i64 op:: .i .i64 num::a::O)∧an fr 1= .i .i64 p∧an fr 21= .i .i64 (xs.length:Int)∧an fr 22= .i .i64 (k:Int)) _ xs.length ?_ ?_ 0 _ (Nat.zero_le _) ⟨fr,lh,rfl,D,F,H,Qb,ER⟩)
 ·rintro k _ I ⟨fr,N,rfl,D,F,H,Qb,ER⟩
  have W:(k:Int)<xs.length:=by omega
  have X:=JY xs
  have hyk:=Dd (List.getElem_mem I)
  have hw:=iG (k:=k) (kI (by omega))
  obtain⟨b,cb,r2,Y,kg,tK⟩:=Vl Z hx k I
  have J:=ih xs[k] (List.getElem_mem I) b cb r2 kg tK (by omega)
  rw[List.drop_eq_getElem_cons I,usL]at D
  generalize xs[k]=y at*
  cases K:y.us p with
  |true=>
   right
   rw[K]at J
   rw[K,Bool.true_or]at D
   simp only[qA,seval,wj,F,H,Qb,ER,W,Y,J,akP]
   refine⟨_,_,HS,rfl,by rw[V,D];rfl,fun _=> ?_,rfl⟩
   simp only[qA,seval]
  |false=>
   left
   rw[K]at J
   rw[K,Bool.false_or]at D
   simp only[qA,seval,wj,F,H,Qb,ER,W,Y,J,akP,hw]
   refine⟨_,rfl,_,_,rfl,D, ?_, ?_, ?_, ?_⟩ <;> simp only[qA,seval,F,H,Qb]
 ·rintro _ ⟨fr,N,rfl,D,F,H,Qb,ER⟩
  rw[List.drop_length,usL]at D
  simp only[qA,seval,wj,Qb,ER,Int.lt_irrefl]
  exact⟨_,_,qH,rfl,by rw[V,D];rfl,fun h=>(by rw[D]at h;cases h),rfl⟩
theorem acw(f:Fm):usP p f:=by
 induction f using Fm.ind with
 |h f ih=>
  intro b J r H Ge K
  rw[im adF (by simp[c33]),Fm.us_eq]
  have hs:=f.sz_eq
  by_cases D:f.op=6
  ·simp only[qA,seval,c33,D]
  ·have F:=fun fr lh sh N O Qb ER=>H7 p f.op f.num r f.args (fun y U=>ih y U) b J H Ge (by omega) _ rfl _ rfl fr lh sh N O Qb ER
   rw[if_neg D]
   cases I:usL p f.args with
   |true=>
    rw[I]at F
    simp only[qA,seval,c33,D,H.lenI,F]
   |false=>
    rw[I]at F
    simp only[qA,seval,c33,D,H.lenI,F]
end
theorem jK(R:List ib)(i j:Nat)(e:ib):jr (jO R i e) j=if j=i then e else jr R j:=uZ _ _ _ _ _
theorem j0: ∀(R:List ib) (i:Nat) (a b:ib),jO (jO R i a) i b=jO R i b
 | [],0,a,b=>rfl
 | [],i+1,a,b=>by
   have:=j0 [] i a b
   grind [jO,ry]
 |x::R,0,a,b=>rfl
 |x::R,i+1,a,b=>by simp_all[zx,j0]
theorem zX: ∀(R:List ib) (e:ib),(jO R R.length e).length=R.length+1
 | [],e=>rfl
 |x::R,e=>by simp_all[List.length_cons,zx,zX]
section
variable(lT:T)(m:List (List Nat×Nat))(kn:List (Nat×Int))(R:List ib)
theorem EF(i:Nat):jr (lp lT m kn R) (i+7)=jr R i:=nr rfl
theorem sF(i:Nat)(e:ib):jO (lp lT m kn R) (i+7) e=lp lT m kn (jO R i e):=nr rfl
theorem Fo:(lp lT m kn R).length=R.length+7:=nr (by unfold lp;rw[List.length_append];show 7+R.length=_;omega)
end
def RlR(u:List Nat×Fm)(c:List T):Prop:= ∃h,c= .s u.1::h∧og u.2 h
theorem RlR.len(u:List Nat×Fm)(c:List T)(h:RlR u c):c.length=4:=by obtain⟨D,rfl,h⟩:=h;rw[List.length_cons,h.len]
abbrev RL:=List (List Nat×Fm)
def yD(sz:Nat)(l:RL)(cs:List T):Prop:=(if sz=4 then iB RlR l cs else iT (l.map Prod.snd) cs)∧ ∀u∈l,u.2.sz≤1000
theorem yD.sz{sz:Nat}{l:RL}{cs:List T}(h:yD sz l cs){u:List Nat×Fm}(D:u.2.sz≤1000): ∀v∈l++ [u],v.2.sz≤1000:=fun v hv=>by
 rcases List.mem_append.1 hv with hv|hv
 ·exact h.2 v hv
 ·grind
theorem yD.app4{l:RL}{cs:List T}(h:yD 4 l cs)(u:List Nat×Fm)(c:List T)(F:RlR u c)(H:u.2.sz≤1000):yD 4 (l++ [u]) (cs++c):=by
 refine⟨?_,h.sz H⟩
 have D:=h.1
 rw[if_pos rfl]at D ⊢
 exact iB.append D (iB.one F)
theorem yD.app3{l:RL}{cs:List T}(h:yD 3 l cs)(u:List Nat×Fm)(c:List T)(F:og u.2 c)(H:u.2.sz≤1000):yD 3 (l++ [u]) (cs++c):=by
 refine⟨?_,h.sz H⟩
 have D:=h.1
 rw[if_neg (by decide)]at D ⊢
 rw[List.map_append]
 exact iT.append D (iT.one F)
theorem yD.nil(sz:Nat):yD sz [] []:=by
 refine⟨?_,by simp⟩
 split
 ·rfl
 ·exact iT.nil
def RwK(R:List ib)(B:Nat)(p:Nat×T×RL):Prop:=(p.2.1= .nilsl∧p.2.2= [])∨ ∃i g n cs,p.2.1= .isl .S (i+7) g 0 n p.1∧jr R i=⟨g,.cells cs 0 false⟩∧i<R.length∧n*p.1=cs.length∧n≤B∧yD p.1 p.2.2 cs
def kyZ:T→Option Nat
 | .isl .S k _ _ _ _=>some k
 |_=>none
theorem pR{k g o n s:Nat}:kyZ (.isl .S k g o n s)=some k:=rfl
def lq(R:List ib)(B:Nat)(h:List (Nat×T×RL)):Prop:=(∀p∈h,RwK R B p)∧ ∀i j:Nat,∀(hi:i<h.length) (D:j<h.length),i≠j→kyZ h[i].2.1=none∨kyZ h[i].2.1≠kyZ h[j].2.1
theorem RwK.mono{R:List ib}{B B':Nat}{p:Nat×T×RL}(h:RwK R B p)(K:B≤B'):RwK R B' p:=by
 rcases h with h|⟨i,g,n,cs,D,F,H,I,N,J⟩
 ·exact .inl h
 ·exact .inr ⟨i,g,n,cs,D,F,H,I,by omega,J⟩
theorem lq.mono{R:List ib}{B B':Nat}{D:List (Nat×T×RL)}(h:lq R B D)(F:B≤B'):lq R B' D:=⟨fun p H=>(h.1 p H).mono F,h.2⟩
theorem lq.new{R:List ib}{B:Nat}{F:List (Nat×T×RL)}(h:lq R B F)(U:1≤B)(j:Nat)(hj:j<F.length){sz:Nat}(V:F[j].1=sz)(H:List T)(W:H.length=sz)(l:RL)(X:yD sz l H):
  lq (jO R R.length ⟨1,.cells H 0 false⟩) B (F.set j (sz,.isl .S (R.length+7) 1 0 1 sz,l)):=by
 have WC: ∀p∈F,RwK (jO R R.length ⟨1,.cells H 0 false⟩) B p∧kyZ p.2.1≠some (R.length+7):=by
  intro p I
  rcases h.1 p I with D|⟨i,g,n,cs,D,J,h3,Y,Z,h6⟩
  ·exact⟨.inl D,by rw[D.1];simp[kyZ]⟩
  ·refine⟨.inr ⟨i,g,n,cs,D, ?_, ?_,Y,Z,h6⟩,by rw[D,pR];simp;omega⟩
   ·grind [jK]
   ·rw[zX];omega
 refine⟨fun p I=> ?_,fun a b K O N=> ?_⟩
 ·rcases List.mem_or_eq_of_mem_set I with I|rfl
  ·grind
  ·exact .inr ⟨R.length,1,1,H,rfl,by rw[jK,if_pos rfl],by rw[zX];omega,by simp[W],U,X⟩
 ·rw[List.length_set]at K O
  rw[List.getElem_set,List.getElem_set]
  by_cases D:j=a
  ·grind [pR]
  ·rw[if_neg D]
   by_cases J:j=b
   ·rw[if_pos J]
    right
    rw[pR]
    exact(WC F[a] (List.getElem_mem K)).2
   ·rw[if_neg J];exact h.2 a b K O N
theorem lq.app{R:List ib}{B:Nat}{F:List (Nat×T×RL)}(h:lq R B F)(j:Nat)(K:j<F.length){sz i g n:Nat}{cs:List T}(X:F[j].1=sz)(N:F[j].2.1= .isl .S (i+7) g 0 n sz)(hE:jr R i=⟨g,.cells cs 0 false⟩)(hi:i<R.length)(Y:n*sz=cs.length)(hB:n≤B)(I:List T)(Z:I.length=sz)(l:RL)(hf:yD sz l (cs++I))(J:Nat):
  lq (jO R i ⟨J,.cells (cs++I) 0 false⟩) (B+1) (F.set j (sz,.isl .S (i+7) J 0 (n+1) sz,l)):=by
 have V:(jO R i ⟨J,.cells (cs++I) 0 false⟩).length=R.length:=uk _ _ _ hi
 refine⟨fun p hp=> ?_,fun a b D O U=> ?_⟩
 ·obtain⟨a,D,rfl⟩:=List.getElem_of_mem hp
  rw[List.length_set]at D
  rw[List.getElem_set]
  by_cases H:j=a
  ·rw[if_pos H]
   exact .inr ⟨i,J,n+1,cs++I,rfl,by rw[jK,if_pos rfl],by rw[V];exact hi,by rw[List.length_append,Z,Nat.add_mul,Y,Nat.one_mul],by omega,hf⟩
  ·rw[if_neg H]
   have hd:=h.2 j a K D H
   rw[N,pR]at hd
   rcases h.1 F[a] (List.getElem_mem D)with q|⟨i',g2,n',J2,q1,q2,q3,q4,q5,q6⟩
   ·exact .inl q
   ·refine .inr ⟨i',g2,n',J2,q1, ?_,by rw[V];exact q3,q4,by omega,q6⟩
    rw[q1,pR]at hd
    rw[jK,if_neg (fun e=>by subst e;rcases hd with hd|hd <;> simp at hd)]
    exact q2
 ·rw[List.length_set]at D O
  rw[List.getElem_set,List.getElem_set]
  by_cases H:j=a
  ·rw[if_pos H,if_neg (by omega)]
   have:=h.2 j b K O (by omega)
   rw[N,pR]at this
   rw[pR];exact this
  ·rw[if_neg H]
   by_cases W:j=b
   ·rw[if_pos W]
    have:=h.2 a j D K (by omega)
    rw[N,pR]at this
    rw[pR];exact this
   ·rw[if_neg W];exact h.2 a b D O U
theorem Di{α β:Type}[DecidableEq α]{s:α}: ∀{m:List (α×β)},s∉m.map Prod.fst→iH m s=none
 | [],_=>rfl
 |p::m,h=>by
  rw[List.map_cons,List.mem_cons,not_or]at h
  rw[iH,if_neg h.1,Di h.2]
theorem Dq.fz{z:Zo}{c:List T}(h:Dq z c):c.all froz1=true∧c.length=3:=by
 obtain⟨a,F,rfl,D,_⟩:=h
 exact⟨by simp[D.froz1,F3,xM],rfl⟩
def K9(h:List Zo)(m:List (List Nat×List T)):Prop:= ∀p∈m,∃z∈h,z.nm=p.1∧Dq z p.2
theorem NS{l:List (List Nat)}(h:l.Nodup){k:Nat}(D:k<l.length):l[k]∉l.take k:=by
 intro F
 obtain⟨j,H,e⟩:=List.getElem_of_mem F
 rw[List.length_take]at H
 rw[List.getElem_take]at e
 exact List.pairwise_iff_getElem.1 h j k (by omega) D (by omega) e
theorem nwz(l:List Zo)(hnd:(l.map Zo.nm).Nodup)(a:T)(cc:List T)(ha:IsSl a l.length cc)(hc:iB Dq l cc)(hlen:l.length≤100)(X Y AE Qr:ib)(fr:Fr)(lh:iz ib)(sh:List ib)
  (J:an fr 9= .mp .L 38 1) (D:an fr 40=a) (h:an fr 41= .i .i64 (l.length:Int)) (F:an fr 42= .i .i64 0) (K:a6 lh 2=X) (N:a6 lh 3=Y) (O:a6 lh 35=AE) (U:a6 lh 37=Qr) (IZ:a6 lh 38=⟨1,.map [] [] false⟩):
  rD 232 oz fr lh sh (.ext 0)∧
  (a6 (lZ pE 232 oz fr lh sh) 2=X∧a6 (lZ pE 232 oz fr lh sh) 3=Y∧a6 (lZ pE 232 oz fr lh sh) 35=AE∧a6 (lZ pE 232 oz fr lh sh) 37=Qr∧(∃m,a6 (lZ pE 232 oz fr lh sh) 38=⟨1,.map (m.map fun p=>sK p.1) (m.map fun p=>T.agg p.2) false⟩∧K9 l m∧m.map Prod.fst=l.map Zo.nm)∧ng pE 232 oz fr lh sh=sh):=by
 refine jc (P:=fun js V jb=>a6 V 2=X∧a6 V 3=Y∧a6 V 35=AE∧a6 V 37=Qr∧(∃m,a6 V 38=⟨1,.map (m.map fun p=>sK p.1) (m.map fun p=>T.agg p.2) false⟩∧K9 l m∧m.map Prod.fst=l.map Zo.nm)∧jb=sh)
  (jm (fun k st=> ∃(fr:Fr) (H:iz ib) (m:List (List Nat×List T)),st=⟨fr,H,sh⟩∧m.map Prod.fst=(l.map Zo.nm).take k∧K9 l m∧an fr 9= .mp .L 38 1∧an fr 40=a∧an fr 41= .i .i64 (l.length:Int)∧an fr 42= .i .i64 (k:Int)∧a6 H 2=X∧a6 H 3=Y∧a6 H 35=AE∧a6 H 37=Qr∧a6 H 38=⟨1,.map (m.map fun p=>sK p.1) (m.map fun p=>T.agg p.2) false⟩) _ l.length ?_ ?_ 0 _ (Nat.zero_le _) ⟨fr,lh,[],rfl,by simp,(fun p hp=>by cases hp),J,D,h,F,K,N,O,U,IZ⟩)
 ·rintro k _ hk ⟨fr,H,m,rfl,Z,I,J,D,h,F,K,N,O,U,IZ⟩
  left
  have iR:(k:Int)<l.length:=by omega
  have hw:=iM (k:=k) (by omega)
  obtain⟨W,sc,rr,iS,tG,hs2⟩:=Jj ha hc k hk
  have UI:k<(l.map Zo.nm).length:=by simpa using hk
  have tT:iH m l[k].nm=none:=Di (by rw[Z];have:=NS hnd UI;rwa [List.getElem_map]at this)
  have nY:p6 (.one .str) (.s l[k].nm) (.agg [.s l[k].nm,.i .i64 l[k].o,W]) (m.map fun p=>sK p.1) (m.map fun p=>T.agg p.2)=_:=xS (kT:=sK) (vT:=T.agg) DT m l[k].nm [.s l[k].nm,.i .i64 l[k].o,W] tT
  have hzr: ∃z∈l,z.nm=l[k].nm∧Dq z [.s l[k].nm,.i .i64 l[k].o,W]:=⟨l[k],List.getElem_mem hk,rfl,W,sc,rfl,tG,hs2⟩
  have Ws:(l.map Zo.nm).take (k+1)=(l.map Zo.nm).take k++ [l[k].nm]:=by rw[List.take_succ_eq_append_getElem UI,List.getElem_map]
  rw[Ws]
  generalize l[k]=z at*
  simp only[qA,seval,oz,J,D,h,F,IZ,iR,iS,hw,th,Aq,nY,tG.froz1]
  refine⟨_,rfl,_,_,m++ [(z.nm,[.s z.nm,.i .i64 z.o,W])],rfl, ?_, ?_, ?_, ?_, ?_, ?_, ?_, ?_, ?_, ?_, ?_⟩
  ·rw[List.map_append,Z];rfl
  ·intro p hp
   rcases List.mem_append.1 hp with hp|hp
   ·exact I p hp
   ·rw[List.mem_singleton.1 hp];exact hzr
  all_goals (simp only[qA,seval,J,D,h,K,N,O,U])
 ·rintro _ ⟨fr,H,m,rfl,Z,I,J,D,h,F,K,N,O,U,IZ⟩
  simp only[qA,seval,oz,h,F,Int.lt_irrefl]
  exact⟨_,_,qH,rfl,rfl,K,N,O,U,⟨m,IZ,I,by rw[Z,List.take_of_length_le (by simp)]⟩,rfl⟩
def ma(h D F:T)(c:Ct)(H I J K N O:T)(U:List T):List T:=h::D::F::(jf c H I J K N O++ .mp .L 35 1::U)
theorem yn{α β:Type}[DecidableEq α]{s:α}{v:β}: ∀{m:List (α×β)},iH m s=some v→(s,v)∈m
 | [],h=>by cases h
 |p::m,h=>by
  rw[iH]at h
  split at h
  ·rename_i e;injection h with h;subst h;rw[e];exact List.mem_cons_self ..
  ·exact List.mem_cons_of_mem _ (yn h)
theorem zJ{α β:Type}[DecidableEq α]{s:α}: ∀{m:List (α×β)},s∈m.map Prod.fst→ ∃v,iH m s=some v
 | [],h=>by cases h
 |p::m,h=>by
  rw[iH]
  split
  ·exact⟨_,rfl⟩
  ·rename_i e
   rw[List.map_cons,List.mem_cons]at h
   rcases h with h|h
   ·exact absurd h e
   ·exact zJ h
def PG(h:List Zo)(D:List Ap)(q:List (List Nat×List T)):Prop:= ∀p∈q,∃u∈D,u.cd=p.1∧ ∃z∈h,z.nm=u.zn∧Dq z p.2
theorem aap{F:List Zo}{m:List (List Nat×List T)}(I:K9 F m)(J:m.map Prod.fst=F.map Zo.nm)(s:List Nat)(hs:s∈F.map Zo.nm): ∃v,(∃z∈F,z.nm=s∧Dq z v)∧nF (.one .str) (m.map fun p=>sK p.1) (m.map fun p=>T.agg p.2) (.s s) (.agg [.s [],.i .i64 0,.nilsl]) false=some (.agg v)∧v.all froz1=true∧v.length=3:=by
 have D:=MS (kT:=sK) (vT:=T.agg) DT (fun _=>rfl) m s (.agg [.s [],.i .i64 0,.nilsl])
 obtain⟨v,h⟩:=zJ (by rw[J];exact hs)
 rw[h]at D
 obtain⟨z,K,N,H⟩:=I _ (yn h)
 exact⟨v,⟨z,K,N,H⟩,D,H.fz⟩
theorem nwa(l:List Ap)(hnd:(l.map Ap.cd).Nodup)(a:T)(cc:List T)(ha:IsSl a l.length cc)(hc:iB La l cc)(hlen:l.length≤100)(F:List Zo)(m:List (List Nat×List T))(I:K9 F m∧m.map Prod.fst=F.map Zo.nm)(hzn: ∀u∈l,u.zn∈F.map Zo.nm)(V W X:T)(c:Ct)(Y Z a9 iv iw iy:T)(vs:List T)(c2 c3:ib)(fr:Fr)(lh:iz ib)(sh:List ib)
  (J:an fr 8= .ptr .L 37 1 0) (K:an fr 9= .mp .L 38 1) (Qv:an fr 52=a) (EG:an fr 53= .i .i64 (l.length:Int)) (Hc:an fr 54= .i .i64 0) (N:a6 lh 2=c2) (O:a6 lh 3=c3) (U:a6 lh 35=⟨1,.map [] [] false⟩) (h:a6 lh 37=⟨1,.cells (ma V W X c Y Z a9 iv iw iy vs) 0 true⟩) (IZ:a6 lh 38=⟨1,.map (m.map fun p=>sK p.1) (m.map fun p=>T.agg p.2) false⟩):
  rD 232 pn fr lh sh (.ext 2)∧
  (a6 (lZ pE 232 pn fr lh sh) 2=c2∧a6 (lZ pE 232 pn fr lh sh) 3=c3∧a6 (lZ pE 232 pn fr lh sh) 37=⟨1,.cells (ma V W X c Y Z a9 iv iw iy vs) 0 true⟩∧(∃q,a6 (lZ pE 232 pn fr lh sh) 35=⟨1,.map (q.map fun p=>sK p.1) (q.map fun p=>T.agg p.2) false⟩∧PG F l q∧q.map Prod.fst=l.map Ap.cd)∧ng pE 232 pn fr lh sh=sh):=by
 refine jc (P:=fun js iN jb=>a6 iN 2=c2∧a6 iN 3=c3∧a6 iN 37=⟨1,.cells (ma V W X c Y Z a9 iv iw iy vs) 0 true⟩∧(∃q,a6 iN 35=⟨1,.map (q.map fun p=>sK p.1) (q.map fun p=>T.agg p.2) false⟩∧PG F l q∧q.map Prod.fst=l.map Ap.cd)∧jb=sh)
  (jm (fun k st=> ∃(fr:Fr) (D:iz ib) (q:List (List Nat×List T)),st=⟨fr,D,sh⟩∧q.map Prod.fst=(l.map Ap.cd).take k∧PG F l q∧an fr 8= .ptr .L 37 1 0∧an fr 9= .mp .L 38 1∧an fr 52=a∧an fr 53= .i .i64 (l.length:Int)∧an fr 54= .i .i64 (k:Int)∧a6 D 2=c2∧a6 D 3=c3∧a6 D 37=⟨1,.cells (ma V W X c Y Z a9 iv iw iy vs) 0 true⟩∧a6 D 38=⟨1,.map (m.map fun p=>sK p.1) (m.map fun p=>T.agg p.2) false⟩∧a6 D 35=⟨1,.map (q.map fun p=>sK p.1) (q.map fun p=>T.agg p.2) false⟩) _ l.length ?_ ?_ 0 _ (Nat.zero_le _) ⟨fr,lh,[],rfl,by simp,(fun p hp=>by cases hp),J,K,Qv,EG,Hc,N,O,h,IZ,U⟩)
 ·rintro k _ hk ⟨fr,D,q,rfl,hq,H,J,K,Qv,EG,Hc,N,O,h,IZ,U⟩
  left
  have iR:(k:Int)<l.length:=by omega
  have hw:=iM (k:=k) (by omega)
  obtain⟨rr,iS⟩:=Ji ha hc k hk
  have UI:k<(l.map Ap.cd).length:=by simpa using hk
  have tT:iH q l[k].cd=none:=Di (by rw[hq];have:=NS hnd UI;rwa [List.getElem_map]at this)
  obtain⟨v,hzv,hlk,OH,hv3⟩:=aap I.1 I.2 l[k].zn (hzn _ (List.getElem_mem hk))
  have hqv: ∃u∈l,u.cd=l[k].cd∧ ∃z∈F,z.nm=u.zn∧Dq z v:=⟨l[k],List.getElem_mem hk,rfl,hzv⟩
  have nY:p6 (.one .str) (.s l[k].cd) (.agg v) (q.map fun p=>sK p.1) (q.map fun p=>T.agg p.2)=_:=xS (kT:=sK) (vT:=T.agg) DT q l[k].cd v tT
  have Ws:(l.map Ap.cd).take (k+1)=(l.map Ap.cd).take k++ [l[k].cd]:=by rw[List.take_succ_eq_append_getElem UI,List.getElem_map]
  rw[Ws]
  generalize l[k]=z at*
  unfold ma jf at h ⊢
  simp only[List.cons_append,List.nil_append]at h ⊢
  simp only[qA,seval,iY,iC,pn,J,K,Qv,EG,Hc,U,h,IZ,iR,iS,hw,jB,hlk,OH,th,Aq,nY]
  refine⟨_,rfl,_,_,q++ [(z.cd,v)],rfl, ?_, ?_, ?_, ?_, ?_, ?_, ?_, ?_, ?_, ?_, ?_, ?_⟩
  ·rw[List.map_append,hq];rfl
  ·intro p hp
   rcases List.mem_append.1 hp with hp|hp
   ·exact H p hp
   ·rw[List.mem_singleton.1 hp];exact hqv
  all_goals (simp only[qA,seval,J,K,Qv,EG,N,O,h,IZ])
 ·rintro _ ⟨fr,D,q,rfl,hq,H,J,K,Qv,EG,Hc,N,O,h,IZ,U⟩
  simp only[qA,seval,pn,EG,Hc,Int.lt_irrefl]
  exact⟨_,_,qH,rfl,rfl,N,O,h,⟨q,U,H,by rw[hq,List.take_of_length_le (by simp)]⟩,rfl⟩
end Go.Proofs.YtbdfboojnfinkaaGreat
