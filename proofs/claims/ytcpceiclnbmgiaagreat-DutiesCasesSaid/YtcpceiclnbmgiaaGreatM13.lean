/- Walks of functions of the program and of the reference, and their plain laws, part 13. Conditions: the theorems' own. -/
import Derived.Test.YtcpceiclnbmgiaaGreatGS
import Derived.Test.YtcpceiclnbmgiaaGreatM7
import Derived.Test.YtcpceiclnbmgiaaGreatM12
import Derived.KernelRfl
set_option maxRecDepth 100000
set_option linter.unusedSimpArgs false
set_option linter.unusedVariables false
set_option maxHeartbeats 16000000
namespace Go.Proofs.YtcpceiclnbmgiaaGreat
open Go Go.Ev
theorem Jo: ∀a:List Nat,eU a a=false
 | []=>rfl
 |x::a=>by simp[eU,Jo a]
theorem Eg: ∀a b:List Nat,eU a b=true→eU b a=false
 | [],[],h=>by simp[eU]at h
 | [],y::b,h=>rfl
 |x::a,[],h=>by simp[eU]at h
 |x::a,y::b,h=>by
  simp[eU]at h ⊢
  refine⟨by omega,fun e=> ?_⟩
  subst e
  rcases h with h|h
  ·omega
  ·exact Eg a b h.2
theorem Jp: ∀a b:List Nat,eU a b=false→eU b a=false→a=b
 | [],[],_,_=>rfl
 | [],y::b,h,_=>by simp[eU]at h
 |x::a,[],_,h=>by simp[eU]at h
 |x::a,y::b,h1,h2=>by
  simp[eU]at h1 h2
  have:x=y:=zO
  subst this
  rw[Jp a b (by simpa using h1) (by simpa using h2)]
theorem afc(a b:List Nat):(eU a b||a==b)= !eU b a:=by
 cases h:eU b a with
 |true=>
  rw[Eg _ _ h]
  have:a≠b:=fun e=>by subst e;rw[Jo]at h;cases h
  simp[this]
 |false=>
  cases h2:eU a b with
  |true=>rfl
  |false=>rw[Jp _ _ h2 h];simp
theorem Yv{s t:List Nat}:Ev.bin .leq (.s s) (.s t)=some (.b (!eU t s)):=by
 rw[←afc];rfl
def ixA(s:List Nat):List (List Nat)→Nat→Int
 | [],_=> -1
 |x::r,k=>if x=s then(k:Int)else ixA s r (k+1)
theorem zQ(s:List Nat): ∀(l:List (List Nat)) (k:Nat),ixA s l k<0↔s∉l
 | [],k=>by simp[ixA]
 |x::r,k=>by
  rw[ixA]
  by_cases h:x=s
  ·rw[if_pos h];subst h;simp
  ·rw[if_neg h,zQ s r (k+1)]
   simp[Ne.symm h]
theorem BZ(s:List Nat): ∀(ns:List (List Nat)) (k:Nat),ixA s ns k<0→ixA s ns k= -1
 | [],_,_=>rfl
 |x::ns,k,h=>by
  rw[ixA]at h ⊢
  by_cases e:x=s
  ·rw[if_pos e]at h;omega
  ·rw[if_neg e]at h ⊢; exact BZ s ns _ h
theorem zi1(s:List Nat)(l:List Zo)(a:T)(J:List T)(D:IsSl a l.length J)(hc:aA BY l J)(K:l.length≤1000)(fr:Fr)(lh:aB ah)(sh:List ah)(h0:aa fr 0=a)(h1:aa fr 1= .s s)(h5:aa fr 5= .i .i64 0):
  LpC pE 20 zj fr lh sh 0 4 (ixA s (l.map Zo.nm) 0<0) (.i .i64 (ixA s (l.map Zo.nm) 0)) (fun F H=>H=sh):=by
 refine pz apl (by simp[ba]) (fun k f F H=>aa f 5= .i .i64 (k:Int)∧H=sh∧ixA s (l.map Zo.nm) 0=ixA s ((l.drop k).map Zo.nm) k) l.length ⟨h5,rfl,rfl⟩ ?_ ?_
 ·rintro k f F _ hk r ⟨I,rfl,hr⟩
  have N:(k:Int)<l.length:=zO
  have O:=aI (k:=k) zO
  obtain⟨V,W,X,U,_⟩:=Ee D hc k hk
  rw[List.drop_eq_getElem_cons hk,List.map_cons,ixA]at hr
  simp only[qB,seval,gd,zj,r,h0,h1,I,D.lenI,N,U,O]
  clear r
  grind
 ·rintro f F _ r ⟨I,rfl,hr⟩
  simp only[qB,seval,gd,zj,r,h0,I,D.lenI,Int.lt_irrefl,hr,List.drop_length,List.map_nil,ixA]
theorem ai5(s:List Nat)(l:List Zo)(a:T)(D:List T)(H:IsSl a l.length D)(hc:aA BY l D)(r:l.length≤1000):ae pE 151 [a,.s s] []=some (.i .i64 (ixA s (l.map Zo.nm) 0),[]):=by
 have F:=zi1 s l a D H hc r
 have Yw:=BZ s (l.map Zo.nm) 0
 rw[an US (by simp[TM])]
 simp only[qB,seval,TM,F]
 clear F
 grind
theorem ai6(s:List Nat)(l:List Zo)(a:T)(D:List T)(F:IsSl a l.length D)(hc:aA BY l D)(r:l.length≤1000): ∃v:Int,ae pE 151 [a,.s s] []=some (.i .i64 v,[])∧(v<0↔s∉l.map Zo.nm):=⟨_,ai5 s l a D F hc r,zQ s _ 0⟩
theorem ai1(s:List Nat)(l:List Ap)(a:T)(J:List T)(D:IsSl a l.length J)(hc:aA L7 l J)(K:l.length≤1000)(fr:Fr)(lh:aB ah)(sh:List ah)(h0:aa fr 0=a)(h1:aa fr 1= .s s)(h5:aa fr 5= .i .i64 0):
  LpC pE 20 zk fr lh sh 0 4 (ixA s (l.map Ap.cd) 0<0) (.i .i64 (ixA s (l.map Ap.cd) 0)) (fun F H=>H=sh):=by
 refine pz apm (by simp[ba]) (fun k f F H=>aa f 5= .i .i64 (k:Int)∧H=sh∧ixA s (l.map Ap.cd) 0=ixA s ((l.drop k).map Ap.cd) k) l.length ⟨h5,rfl,rfl⟩ ?_ ?_
 ·rintro k f F _ hk r ⟨I,rfl,hr⟩
  have N:(k:Int)<l.length:=zO
  have O:=aI (k:=k) zO
  obtain⟨V,U⟩:=Jk D hc k hk
  rw[List.drop_eq_getElem_cons hk,List.map_cons,ixA]at hr
  simp only[qB,seval,gd,zk,r,h0,h1,I,D.lenI,N,U,O]
  clear r
  grind
 ·rintro f F _ r ⟨I,rfl,hr⟩
  simp only[qB,seval,gd,zk,r,h0,I,D.lenI,Int.lt_irrefl,hr,List.drop_length,List.map_nil,ixA]
theorem ai7(s:List Nat)(l:List Ap)(a:T)(D:List T)(H:IsSl a l.length D)(hc:aA L7 l D)(r:l.length≤1000):ae pE 153 [a,.s s] []=some (.i .i64 (ixA s (l.map Ap.cd) 0),[]):=by
 have F:=ai1 s l a D H hc r
 have Yw:=BZ s (l.map Ap.cd) 0
 rw[an UU (by simp[TN])]
 simp only[qB,seval,TN,F]
 clear F
 grind
theorem Yx(s:List Nat)(l:List Ap)(a:T)(D:List T)(F:IsSl a l.length D)(hc:aA L7 l D)(r:l.length≤1000): ∃v:Int,ae pE 153 [a,.s s] []=some (.i .i64 v,[])∧(v<0↔s∉l.map Ap.cd):=⟨_,ai7 s l a D F hc r,zQ s _ 0⟩
theorem aFN(f:Fl)(J c7:ah)(fr:Fr)(lh:aB ah)(sh:List ah)(h5:aa fr 5= .ptr .L 5 1 0)(h6:aa fr 6= .i .i64 0)(K:ab lh 2=J)(F:ab lh 5=⟨1,.cells (tD f) 0 true⟩)(N:ab lh 7=c7):
  py pE 108 zl fr lh sh 0 4 (if [f.n0,f.n1,f.n2].all qY then 0 else 5) (fun r H=>ab r 2=J∧ab r 5=⟨1,.cells (tD f) 0 true⟩∧ab r 7=c7∧H=sh):=by
 refine cm Eh (fun k g r H=>aa g 6= .i .i64 (k:Int)∧r=lh∧H=sh∧ [f.n0,f.n1,f.n2].all qY=([f.n0,f.n1,f.n2].drop k).all qY) 3 ⟨h6,rfl,rfl,rfl⟩ ?_ ?_
 ·rintro k g _ _ hk D ⟨I,rfl,rfl,hr⟩
  have hc:k=0∨k=1∨k=2:=zO
  unfold qY at*
  unfold tD at F ⊢
  rcases hc with rfl|rfl|rfl <;> simp only[qB,seval,gd,eJ,zl,D,h5,I,K,F,N,Int.ofNat_zero,Int.ofNat_one] <;> clear D <;> simp at hr ⊢ <;> grind
 ·rintro g _ _ D ⟨I,rfl,rfl,hr⟩
  simp only[qB,seval,gd,zl,D,I,K,F,N,Int.lt_irrefl,hr]
def flS(D:List (List Nat))(r:Option Fl)(f:Fl):Int:=if Jl D f≠0 then Jl D f else if(match r with|some p=> !RD p f|none=>false)=true then 8 else 0
theorem L9(t:Tt)(K r N:T)(Y:ow t K r N)(ha:t.ap.length≤100)(hf:t.fl.length≤1000)(Z: ∀f∈t.fl,f.nu.length≤fj)(k:Nat)(hk:k<t.fl.length):
  ae pE 154 [.agg [K,r,N],.i .i64 (k:Int)] []=some (.i .i64 (flS (t.ap.map Ap.cd) (qc t.fl k) t.fl[k]),[]):=by
 obtain⟨⟨zc,z1,z2⟩,⟨ac,a1,a2⟩,⟨fc,U,V⟩⟩:=Y
 obtain⟨rr,W⟩:=ot U V k hk
 have F:=cO (Yr t.fl[k].nu (Z _ (List.getElem_mem hk)))
 have H:=cO (BL t.fl[k].ty)
 obtain⟨v1,I,e1⟩:=Yx t.fl[k].fr t.ap r ac a1 a2 zO
 obtain⟨v2,J,e2⟩:=Yx t.fl[k].to t.ap r ac a1 a2 zO
 have D:=aFN t.fl[k] ⟨1,.cells [K,r,N] 0 true⟩ ⟨0,.none⟩
 have hw:= @bo (t.fl[k].ar-t.fl[k].dp)
 rw[an ahk (by simp[PS])]
 unfold tD at D
 by_cases wZ:k=0
 ·have O: ¬(0:Int)<k:=zO
  have hp:qc t.fl k=none:=by rw[wZ];rfl
  rw[hp]
  simp only[qB,seval,PS,Eh,a1.froz,W,F,H,ahL,H4,I,J,Ni,D,O]
  clear D F H I J
  unfold flS Jl RC
  grind (splits:=30)
 ·have O:(0:Int)<k:=zO
  have Dl:=iA (k:=k) zO zO
  obtain⟨r2,KP⟩:=ot U V (k-1) zO
  rw[Ef zO zO]
  have X:Ev.bin .leq (.s t.fl[k].nu) (.s t.fl[k-1].nu)=if eU t.fl[k-1].nu t.fl[k].nu=true then some (.b false)else some (.b true):=by rw[Yv];cases eU t.fl[k-1].nu t.fl[k].nu <;> rfl
  simp only[qB,seval,PS,Eh,a1.froz,W,F,H,ahL,H4,I,J,Ni,D,O,Dl,KP,X]
  clear D F H I J X
  unfold flS Jl RC RD
  grind (splits:=30)
theorem aA.take{α:Type}{R:α→List T→Prop}{k:Nat}(D: ∀x c,R x c→c.length=k): ∀{xs:List α} {cs:List T} (i:Nat),aA R xs cs→aA R (xs.take i) (cs.take (i*k))
 | [],cs,i,h=>by rw[aA]at h;subst h;simp[aA]
 |x::xs,cs,0,h=>by simp[aA]
 |x::xs,cs,i+1,h=>by
  rw[aA]at h
  obtain⟨c,r,rfl,h1,h2⟩:=h
  have e:(c++r).take ((i+1)*k)=c++r.take (i*k):=by
   rw[show(i+1)*k=c.length+i*k by rw[D _ _ h1,Nat.add_mul,Nat.one_mul,Nat.add_comm],List.take_append,List.take_of_length_le zO,Nat.add_sub_cancel_left]
  rw[e]
  exact⟨c,r.take (i*k),rfl,h1,aA.take D i h2⟩
theorem Yy{n i:Nat}{a:T}{r:List T}(hi:i<n)(D:IsSl a n r): ∃ex,a= .sl r n ex:=by
 rcases D with⟨_,hz,_⟩|⟨ex,rfl⟩
 ·omega
 ·exact⟨ex,rfl⟩
theorem aFO(l:List Zo)(J K a:T)(F:List T)(H:IsSl a l.length F)(hc:aA BY l F)(U:l.length≤100)(fr:Fr)(lh:aB ah)(sh:List ah)
  (h1:aa fr 1= .ptr .L 1 1 0) (h3:aa fr 3= .i .i64 0) (r:ab lh 1=⟨1,.cells [a,J,K] 0 true⟩):
  py pE 96 yS fr lh sh 0 2 (HE [] l) (fun D N=>ab D 1=⟨1,.cells [a,J,K] 0 true⟩∧N=sh):=by
 refine cm RF (fun k f D N=>aa f 3= .i .i64 (k:Int)∧ab D 1=⟨1,.cells [a,J,K] 0 true⟩∧N=sh∧HE [] l=HE ((l.take k).map Zo.nm) (l.drop k)) l.length ⟨h3,r,rfl,rfl⟩ ?_ ?_
 ·rintro k f D _ hk I ⟨O,r,rfl,hr⟩
  have X:(k:Int)<l.length:=zO
  have CW:k≤l.length:=zO
  have Y:=aI (k:=k) zO
  obtain⟨Z,sc,rr,aQ,V,Hv⟩:=Ee H hc k hk
  have hz:=BX l[k] Z sc V Hv
  have ee:=aA.len BY.len hc
  obtain⟨ex,rfl⟩:=Yy hk H
  have W:(l.take k).length=k:=by rw[List.length_take,Nat.min_eq_left CW]
  obtain⟨v,Fv,wH⟩:=ai6 l[k].nm (l.take k) (.sl (F.take (k*3)) k (ex&&decide (k=l.length))) (F.take (k*3)) (by rw[W];exact Or.inr ⟨_,rfl⟩) (aA.take BY.len k hc) (by rw[W];omega)
  rw[List.drop_eq_getElem_cons hk,HE]at hr
  have fO:=vt Zo.nm hk
  simp only[qB,seval,gd,tu,bp,aJ,yS,I,h1,O,r,H.lenI,X,CW,ee,Nat.sub_zero,aQ,Y,V.froz1,hz,UR,Fv,UT,ahi]
  clear I
  grind
 ·rintro f D _ I ⟨O,r,rfl,hr⟩
  simp only[qB,seval,gd,yS,I,h1,O,r,H.lenI,Int.lt_irrefl,hr,List.drop_length,HE]
theorem aFP(r:List Zo)(D:T)(N:List T)(X:IsSl D r.length N)(z2:aA BY r N)(hzl:r.length≤100)(l:List Ap)(O a:T)(I:List T)(J:IsSl a l.length I)(hc:aA L7 l I)(Y:l.length≤100)(fr:Fr)(lh:aB ah)(sh:List ah)
  (h1:aa fr 1= .ptr .L 1 1 0) (h5:aa fr 5= .i .i64 0) (F:ab lh 1=⟨1,.cells [D,a,O] 0 true⟩):
  py pE 96 yR fr lh sh 2 2 (HF (r.map Zo.nm) [] l) (fun H U=>ab H 1=⟨1,.cells [D,a,O] 0 true⟩∧U=sh):=by
 refine cm RG (fun k f H U=>aa f 5= .i .i64 (k:Int)∧ab H 1=⟨1,.cells [D,a,O] 0 true⟩∧U=sh∧HF (r.map Zo.nm) [] l=HF (r.map Zo.nm) ((l.take k).map Ap.cd) (l.drop k)) l.length ⟨h5,F,rfl,rfl⟩ ?_ ?_
 ·rintro k f H _ hk K ⟨V,F,rfl,hr⟩
  have aN:(k:Int)<l.length:=zO
  have CW:k≤l.length:=zO
  have hw:=aI (k:=k) zO
  obtain⟨rr,aQ⟩:=Jk J hc k hk
  have hp:=cO (afa l[k].cd)
  have ee:=aA.len L7.len hc
  obtain⟨ex,rfl⟩:=Yy hk J
  have Z:(l.take k).length=k:=by rw[List.length_take,Nat.min_eq_left CW]
  obtain⟨v,Fv,wH⟩:=Yx l[k].cd (l.take k) (.sl (I.take (k*2)) k (ex&&decide (k=l.length))) (I.take (k*2)) (by rw[Z];exact Or.inr ⟨_,rfl⟩) (aA.take L7.len k hc) (by rw[Z];omega)
  obtain⟨u,W,hu2⟩:=ai6 l[k].zn r D N X z2 zO
  rw[List.drop_eq_getElem_cons hk,HF]at hr
  have fO:=vt Ap.cd hk
  simp only[qB,seval,gd,tu,bp,aJ,yR,K,h1,V,F,J.lenI,aN,CW,ee,Nat.sub_zero,aQ,hw,hp,avu,Fv,Ni,avv,X.froz,W,UT]
  clear K
  grind
 ·rintro f H _ K ⟨V,F,rfl,hr⟩
  simp only[qB,seval,gd,yR,K,h1,V,F,J.lenI,Int.lt_irrefl,hr,List.drop_length,HF]
theorem aFQ(t:Tt)(D F H:T)(V:ow t D F H)(X:t.ap.length≤100)(Y:t.fl.length≤1000)(Z: ∀f∈t.fl,f.nu.length≤fj)(fr:Fr)(lh:aB ah)(sh:List ah)
  (h1:aa fr 1= .ptr .L 1 1 0) (h7:aa fr 7= .i .i64 0) (r:ab lh 1=⟨1,.cells [D,F,H] 0 true⟩):
  py pE 96 yQ fr lh sh 4 2 (Gp (t.ap.map Ap.cd) none t.fl) (fun I K=>K=sh):=by
 have N:=V
 obtain⟨⟨zc,z1,z2⟩,⟨ac,a1,a2⟩,⟨fc,O,f2⟩⟩:=N
 refine cm apn (fun k f I K=>aa f 7= .i .i64 (k:Int)∧ab I 1=⟨1,.cells [D,F,H] 0 true⟩∧K=sh∧Gp (t.ap.map Ap.cd) none t.fl=Gp (t.ap.map Ap.cd) (qc t.fl k) (t.fl.drop k)) t.fl.length ⟨h7,r,rfl,rfl⟩ ?_ ?_
 ·rintro k f I _ hk J ⟨U,r,rfl,hr⟩
  have aN:(k:Int)<t.fl.length:=zO
  have hw:=aI (k:=k) zO
  have W:=L9 t D F H V X Y Z k hk
  rw[Yu _ hk]at hr
  simp only[qB,seval,gd,yQ,J,h1,U,r,z1.froz1,a1.froz1,O.froz1,O.lenI,aN,hw,W,avw]
  clear J W
  unfold flS
  grind
 ·rintro f I _ J ⟨U,r,rfl,hr⟩
  simp only[qB,seval,gd,yQ,J,h1,U,r,O.lenI,Int.lt_irrefl,hr,List.drop_length,Gp]
theorem amA(t:Tt)(r D F:T)(J:ow t r D F)(X: ∀f∈t.fl,f.nu.length≤fj):ae pE 104 [.agg [r,D,F]] []=some (.i .i64 (ou t),[]):=by
 have I:=J
 obtain⟨⟨K,H,N⟩,⟨ac,a1,a2⟩,⟨Y,O,Z⟩⟩:=I
 rw[an agJ (by simp[PI])]
 unfold ou
 by_cases q:t.zo.length≤16∧t.ap.length≤64∧t.fl.length≤200
 ·have U:=aFO t.zo D F r K H N zO
  have V:=aFP t.zo r K H N zO t.ap F D ac a1 a2 zO
  have W:=aFQ t r D F J zO zO X
  simp(maxDischargeDepth:=6) only[qB,seval,PI,RG,RF,H.lenI,a1.lenI,O.lenI,U,V,W]
  clear U V W
  grind
 ·simp only[qB,seval,PI,H.lenI,a1.lenI,O.lenI]
  grind
def xb(sz:Nat):T→Bool
 | .sl r 1 _=>decide (r.length=sz∧0<sz)
 |_=>false
def B0(sz:Nat):T→Bool
 | .nilsl=>true
 | .isl .S _ _ 0 _ r=>decide (r=sz)
 |_=>false
def Ox(sh:List ah)(k bytes g len sz:Nat)(r:List T)(e:ah):Option (T×List ah):=match e.ob with
 | .cells cs wm false=>if e.g=g∧len*sz=cs.length∧(len+1)*bytes≤roomy then some (.isl .S k (g+1) 0 (len+1) sz,aK sh k ⟨g+1,.cells (cs++r) wm false⟩)else none
 |_=>none
def amB(sh:List ah)(bytes sz:Nat):T→T→Option (T×List ah)
 | .nilsl,.sl r 1 _=>if bytes≤roomy then some (.isl .S sh.length 1 0 1 sz,aK sh sh.length ⟨1,.cells r 0 false⟩)else none
 | .isl .S k g 0 len _,.sl r 1 _=>Ox sh k bytes g len sz r (aE sh k)
 |_,_=>none
theorem aP{sz:Nat}{r:List T}{ex:Bool}:xb sz (.sl r 1 ex)=decide (r.length=sz∧0<sz):=nr rfl
theorem cw{sz:Nat}:B0 sz .nilsl=true:=nr rfl
theorem cW{k g len sz r:Nat}:B0 sz (.isl .S k g 0 len r)=decide (r=sz):=nr rfl
theorem cX{sh:List ah}{bytes sz:Nat}{r:List T}{ex:Bool}:amB sh bytes sz .nilsl (.sl r 1 ex)=if bytes≤roomy then some (.isl .S sh.length 1 0 1 sz,aK sh sh.length ⟨1,.cells r 0 false⟩)else none:=nr rfl
theorem dR{sh:List ah}{k g len bytes sz D:Nat}{r:List T}{ex:Bool}:amB sh bytes sz (.isl .S k g 0 len D) (.sl r 1 ex)=Ox sh k bytes g len sz r (aE sh k):=nr rfl
theorem bZ{sh:List ah}{k g r len bytes wm sz:Nat}{D:List T}{cs:List T}:Ox sh k bytes g len sz D ⟨r,.cells cs wm false⟩=if r=g∧len*sz=cs.length∧(len+1)*bytes≤roomy then some (.isl .S k (g+1) 0 (len+1) sz,aK sh k ⟨g+1,.cells (cs++D) wm false⟩)else none:=nr rfl
theorem xc{sz:Nat}{t:T}(h:xb sz t=true): ∃r ex,t= .sl r 1 ex∧r.length=sz∧0<sz:=by
 unfold xb at h
 grind
theorem B1{sz:Nat}{t:T}(h:B0 sz t=true):t= .nilsl∨ ∃k g len,t= .isl .S k g 0 len sz:=by
 unfold B0 at h
 grind
section
variable{E:Env}{call:kg}{n:Nat}{fr:Fr}{lh:aB ah}{sh:List ah}{ds:List (List Nat×aF)}{bw:List FP}{d:Option Nat}{os:List aF}
theorem cF{D sz bytes:Nat}{s x:aX}(I:D<n)(hx:xb sz (rd fr x)=true)(hs:B0 sz (rd fr s)=true):aj E call n (⟨some D,.app sz bytes s x true false,none⟩::os) ⟨fr,lh,sh⟩=
  (amB sh bytes sz (rd fr s) (rd fr x)).bind fun q=>aj E call n os ⟨cQ fr D q.1,lh,q.2⟩:=by
 obtain⟨J,ex,hx,N,O⟩:=xc hx
 have Yz:J.length=1*sz:=zO
 rw[kJ (by rfl) (show CU n (some D)from I)]
 unfold Ev.one
 rcases B1 hs with hs|⟨k,g,len,hs⟩
 ·simp only[bC,jr,bq,hs,hx,cg,Yz,if_true,Q.run,Option.bind_some,cX]
  simp only[Nat.succ_ne_zero,if_false,Nat.one_mul]
  by_cases r:bytes≤roomy
  ·simp only[if_pos r,jq,Q.run,if_true];rfl
  ·simp only[if_neg r,Q.run];rfl
 ·have Oe:(St.mk fr lh sh).get .S k=aE sh k:=rfl
  rw[hs,hx,dR]
  generalize U:aE sh k=e at*
  obtain⟨K,ob⟩:=e
  unfold Ox
  simp only[bC,jr,bq,hs,hx,cg,Yz,if_true,Q.run,Option.bind_some]
  simp only[Nat.succ_ne_zero,if_false,decide_true,Bool.true_and,decide_eq_true_eq]
  by_cases r:(len+1)*bytes≤roomy
  ·simp only[Q.run,Oe,if_true,r,and_true]
   by_cases F:K=g
   ·subst F
    simp only[if_true,true_and]
    cases ob with
    |none=>simp only[Q.run];rfl
    |map _ _ _=>simp only[Q.run];rfl
    |cells cs wm bx=>
     cases bx with
     |true=>simp only[Q.run];rfl
     |false=>
      simp only[]
      by_cases H:len*sz=cs.length
      ·simp only[if_pos H,Q.run];rfl
      ·simp only[if_neg H,Q.run];rfl
   ·simp only[Q.run,F,false_and,if_false]
    cases ob with
    |none=>rfl
    |map _ _ _=>rfl
    |cells cs wm bx=>cases bx <;> rfl
  ·simp only[r,if_false,Q.run,and_false]
   cases ob with
   |none=>rfl
   |map _ _ _=>rfl
   |cells cs wm bx=>cases bx <;> rfl
def ny(n:Nat):T→FP
 | .isl .S k _ _ _ _=>⟨false,[(.S,k)],[(.S,k)]⟩
 |_=>⟨true,[],[(.S,n)]⟩
theorem cp{rs r:List (Sp×Nat)}{m:Nat}{t:T}(h1:Ht rs=true)(h2:Ht r=true):apart ⟨false,rs,r⟩ (ny m t)=true:=by
 have q: ∀(xs:List (Sp×Nat)) (k:Nat),Ht xs=true→(xs.all fun x=> !([(Sp.S,k)]:List (Sp×Nat)).contains x)=true:=by
  intro xs k h
  rw[List.all_eq_true]
  intro x hx
  have:=List.all_eq_true.1 h x hx
  grind
 have D: ∀(xs:List (Sp×Nat)),(xs.all fun x=> !([]:List (Sp×Nat)).contains x)=true:=by intro xs;rw[List.all_eq_true];intro x _;rfl
 unfold ny
 split
 ·unfold apart eZ
  rw[q r _ h2,q rs _ h1];rfl
 ·unfold apart eZ
  dsimp only
  rw[q r _ h2,q rs _ h1,D,h1,h2];rfl
theorem dk{u:List Nat}{F sz bytes:Nat}{s x:aX}(hx:xb sz (rd fr x)=true)(hs:B0 sz (rd fr s)=true):aM E call n ((u,⟨some F,.app sz bytes s x true false,none⟩)::ds) bw ⟨fr,lh,sh⟩=
  if meets u bw (ny sh.length (rd fr s))=true then ke E call n ds (bw++ [ny sh.length (rd fr s)]) (aj E call n [⟨some F,.app sz bytes s x true false,none⟩] ⟨fr,lh,sh⟩)else none:=by
 refine nM fun I=> ?_
 obtain⟨J,ex,hx,K,W⟩:=xc hx
 have N:cg sz (rd fr x)= .ret (1,J):=by rw[hx];simp only[cg,Nat.one_mul,K,if_true]
 obtain⟨v,O,hr,r⟩:=qm (q:=jr F sz bytes (rd fr s) (rd fr x) true false) (by rfl) (by rw[dC];rfl) I
 unfold jr at hr r
 rw[N]at hr r
 simp only[Q.bind,Nat.one_ne_zero,if_false]at hr r
 rcases B1 hs with hs|⟨k,g,len,hs⟩
 ·rw[hs]at hr r ⊢
  simp only at hr r
  by_cases D:1*bytes≤roomy
  ·rw[if_pos D]at hr r
   simp only[jq,if_true,Q.run,Option.some.injEq,AV.val.injEq]at hr
   obtain⟨rfl,rfl⟩:=hr
   rw[r (by simp[jq,Q.asks])]
   rfl
  ·rw[if_neg D]at hr
   simp[Q.run]at hr
 ·rw[hs]at hr r ⊢
  simp only[decide_true,Bool.true_and,decide_eq_true_eq]at hr r
  by_cases D:(len+1)*bytes≤roomy
  ·rw[if_pos (by simp[D])]at hr r
   simp only[Q.run]at hr
   generalize H:(St.mk fr lh sh).get .S k=e at hr r
   obtain⟨X,ob⟩:=e
   simp only at hr
   split at hr
   ·rename_i U
    cases ob with
    |none=>simp[Q.run]at hr
    |map a b c=>simp[Q.run]at hr
    |cells KK wm bx=>
     cases bx with
     |true=>simp[Q.run]at hr
     |false=>
      simp only at hr
      split at hr
      ·rename_i V
       simp only[Q.run,Option.some.injEq,AV.val.injEq]at hr
       obtain⟨rfl,rfl⟩:=hr
       rw[r (by simp[inB,xP,H])]
       simp only[Q.asks,Q.log,H,U,V,if_true,dg,List.map_cons,List.map_nil,ny]
      ·simp[Q.run]at hr
   ·simp[Q.run]at hr
  ·rw[if_neg (by simp[D])]at hr
   simp[Q.run]at hr
end
mutual
def Fm.us(p:Int):Fm→Bool
 | .mk op num args=>if op=6 then decide (num=p)else usL p args
def usL(p:Int):List Fm→Bool
 | []=>false
 |x::xs=>x.us p||usL p xs
end
theorem Fm.us_eq(p:Int)(x:Fm):x.us p=if x.op=6 then decide (x.num=p)else usL p x.args:=by obtain⟨_,_,_⟩:=x;rw[Fm.us];rfl
theorem Jq: ∀xs:List Fm,xs.length≤tE xs
 | []=>by simp[tE]
 |x::xs=>by
  have h1:=Jq xs
  have h2:=x.sz_eq
  rw[tE,List.length_cons];omega
mutual
theorem zR(r:List Nat→Int)(scope:Int): ∀x:Ex,(comp r scope x).sz≤x.nodes
 | .mk op num name args=>by
   have h:=Jr r scope args
   rw[Ex.nodes_eq,nz]
   show Fm.sz (if op=1∨op=2∨op=3 then .mk 1 num []else if op=4 then .mk 1 1 []else if op=5 then .mk 1 0 []else if op=6 then(match KQ scope name with|some i=> .mk 6 (i:Int) []|none=> .mk 1 (r name) [])else .mk op 0 (fw r scope args))≤1+ic args
   have l: ∀(a b:Int),Fm.sz (.mk a b [])≤1+ic args:=fun a b=>by rw[Fm.sz_eq];show 1+tE []≤_;rw[tE];omega
   split
   ·exact l _ _
   split
   ·exact l _ _
   split
   ·exact l _ _
   split
   ·split <;> exact l _ _
   ·rw[Fm.sz_eq];show 1+tE (fw r scope args)≤_;omega
theorem Jr(r:List Nat→Int)(scope:Int): ∀xs:List Ex,tE (fw r scope xs)≤ic xs
 | []=>by rw[fw,tE,ic];exact Nat.le_refl _
 |x::xs=>by
  have h1:=zR r scope x
  have h2:=Jr r scope xs
  rw[fw,tE,ic];omega
end
section
variable(p:Int)
def usP(f:Fm):Prop:= ∀(b:T) (D r:List T),IsSl b f.args.length D→bg f.args D→f.sz≤100000→ae pE 53 [.vp (.i .i64 f.op:: .i .i64 f.num::b::r),.i .i64 p] []=some (.b (f.us p),[])
theorem Ia(op num:Int)(J:List T)(xs:List Fm)(ih: ∀y∈xs,usP p y)(a:T)(K:List T)(W:IsSl a xs.length K)(hx:bg xs K)(hn:tE xs≤100000)(r:Bool)(hr:r=usL p xs)(o:Out)(N:o=if r then .ret else .ext 0)(fr:Fr)(lh:aB ah)(sh:List ah)
  (h0:aa fr 0= .vp (.i .i64 op:: .i .i64 num::a::J)) (h1:aa fr 1= .i .i64 p) (D:aa fr 21= .i .i64 (xs.length:Int)) (HG:aa fr 22= .i .i64 0):
  mI 34 tb fr lh sh o∧
  ((r=true→aa (kR pE 34 tb fr lh sh) 4= .b true)∧iF pE 34 tb fr lh sh=sh):=by
 refine bF (P:=fun X aZ Y=>(r=true→aa X 4= .b true)∧Y=sh)
  (cu (fun k st=> ∃(fr:Fr) (I:aB ah),st=⟨fr,I,sh⟩∧r=usL p (xs.drop k)∧aa fr 0= .vp (.i .i64 op:: .i .i64 num::a::J)∧aa fr 1= .i .i64 p∧aa fr 21= .i .i64 (xs.length:Int)∧aa fr 22= .i .i64 (k:Int)) _ xs.length ?_ ?_ 0 _ (Nat.zero_le _) ⟨fr,lh,rfl,hr,h0,h1,D,HG⟩)
 ·rintro k _ hk ⟨fr,I,rfl,hr,h0,h1,D,HG⟩
  have O:(k:Int)<xs.length:=zO
  have U:=Jq xs
  have Z:=B2 (List.getElem_mem hk)
  have hw:=bj (k:=k) (iM zO)
  obtain⟨b,cb,r2,V,fD,nN⟩:=YA W hx k hk
  have F:=ih xs[k] (List.getElem_mem hk) b cb r2 fD nN zO
  rw[List.drop_eq_getElem_cons hk,usL]at hr
  generalize xs[k]=y at*
  cases H:y.us p with
  |true=>
   right
   rw[H]at F
   rw[H,Bool.true_or]at hr
   simp only[qA,seval,tb,h0,h1,D,HG,O,V,F,aum]
   refine⟨_,_,ace,rfl,by rw[N,hr];rfl,fun _=> ?_,rfl⟩
   simp only[qA,seval]
  |false=>
   left
   rw[H]at F
   rw[H,Bool.false_or]at hr
   simp only[qA,seval,tb,h0,h1,D,HG,O,V,F,aum,hw]
   refine⟨_,rfl,_,_,rfl,hr, ?_, ?_, ?_, ?_⟩ <;> simp only[qA,seval,h0,h1,D]
 ·rintro _ ⟨fr,I,rfl,hr,h0,h1,D,HG⟩
  rw[List.drop_length,usL]at hr
  simp only[qA,seval,tb,D,HG,Int.lt_irrefl]
  exact⟨_,_,k9,rfl,by rw[N,hr];rfl,fun h=>(by rw[hr]at h;cases h),rfl⟩
theorem ai9(f:Fm):usP p f:=by
 induction f using Fm.ind with
 |h f ih=>
  intro b K r F H O
  rw[an akm (by simp[c53]),Fm.us_eq]
  have hs:=f.sz_eq
  by_cases h6:f.op=6
  ·simp only[qA,seval,c53,h6]
  ·have D:=fun fr lh sh h0 h1 I HG=>Ia p f.op f.num r f.args (fun y N=>ih y N) b K F H zO _ rfl _ rfl fr lh sh h0 h1 I HG
   rw[if_neg h6]
   cases J:usL p f.args with
   |true=>
    rw[J]at D
    simp only[qA,seval,c53,h6,F.lenI,D]
   |false=>
    rw[J]at D
    simp only[qA,seval,c53,h6,F.lenI,D]
end
theorem cM(R:List ah)(i j:Nat)(e:ah):aE (aK R i e) j=if j=i then e else aE R j:=nV _ _ _ _ _
theorem cY: ∀(R:List ah) (i:Nat) (a b:ah),aK (aK R i a) i b=aK R i b
 | [],0,a,b=>rfl
 | [],i+1,a,b=>by
   have:=cY [] i a b
   grind [aK,nH]
 |x::R,0,a,b=>rfl
 |x::R,i+1,a,b=>by simp_all[og,cY]
theorem xe: ∀(R:List ah) (e:ah),(aK R R.length e).length=R.length+1
 | [],e=>rfl
 |x::R,e=>by simp_all[List.length_cons,og,xe]
section
variable(lT:T)(m:List (List Nat×Nat))(kn:List (Nat×Int))(R:List ah)
theorem Ei(i:Nat):aE (eV lT m kn R) (i+7)=aE R i:=nr rfl
theorem oy(i:Nat)(e:ah):aK (eV lT m kn R) (i+7) e=eV lT m kn (aK R i e):=nr rfl
theorem Ej:(eV lT m kn R).length=R.length+7:=nr (by unfold eV;rw[List.length_append];show 7+R.length=_;omega)
end
def RlR(u:List Nat×Fm)(c:List T):Prop:= ∃r,c= .s u.1::r∧jE u.2 r
theorem RlR.len(u:List Nat×Fm)(c:List T)(h:RlR u c):c.length=4:=by obtain⟨r,rfl,h⟩:=h;rw[List.length_cons,h.len]
abbrev RL:=List (List Nat×Fm)
def we(sz:Nat)(l:RL)(cs:List T):Prop:=(if sz=4 then aA RlR l cs else bg (l.map Prod.snd) cs)∧ ∀u∈l,u.2.sz≤1000
theorem we.sz{sz:Nat}{l:RL}{cs:List T}(h:we sz l cs){u:List Nat×Fm}(r:u.2.sz≤1000): ∀v∈l++ [u],v.2.sz≤1000:=fun v hv=>by
 rcases List.mem_append.1 hv with hv|hv
 ·exact h.2 v hv
 ·grind
theorem we.app4{l:RL}{cs:List T}(h:we 4 l cs)(u:List Nat×Fm)(c:List T)(hc:RlR u c)(r:u.2.sz≤1000):we 4 (l++ [u]) (cs++c):=by
 refine⟨?_,h.sz r⟩
 have h1:=h.1
 rw[if_pos rfl]at h1 ⊢
 exact aA.append h1 (aA.one hc)
theorem we.app3{l:RL}{cs:List T}(h:we 3 l cs)(u:List Nat×Fm)(c:List T)(hc:jE u.2 c)(r:u.2.sz≤1000):we 3 (l++ [u]) (cs++c):=by
 refine⟨?_,h.sz r⟩
 have h1:=h.1
 rw[if_neg yv]at h1 ⊢
 rw[List.map_append]
 exact bg.append h1 (bg.one hc)
theorem we.nil(sz:Nat):we sz [] []:=by
 refine⟨?_,by simp⟩
 split
 ·rfl
 ·exact bg.nil
def RwK(R:List ah)(B:Nat)(p:Nat×T×RL):Prop:=(p.2.1= .nilsl∧p.2.2= [])∨ ∃i g n cs,p.2.1= .isl .S (i+7) g 0 n p.1∧aE R i=⟨g,.cells cs 0 false⟩∧i<R.length∧n*p.1=cs.length∧n≤B∧we p.1 p.2.2 cs
def kyZ:T→Option Nat
 | .isl .S k _ _ _ _=>some k
 |_=>none
theorem lI{k g o n s:Nat}:kyZ (.isl .S k g o n s)=some k:=rfl
def eW(R:List ah)(B:Nat)(r:List (Nat×T×RL)):Prop:=(∀p∈r,RwK R B p)∧ ∀i j:Nat,∀(hi:i<r.length) (D:j<r.length),i≠j→kyZ r[i].2.1=none∨kyZ r[i].2.1≠kyZ r[j].2.1
theorem RwK.mono{R:List ah}{B B':Nat}{p:Nat×T×RL}(h:RwK R B p)(r:B≤B'):RwK R B' p:=by
 rcases h with h|⟨i,g,n,cs,h1,h2,h3,h4,h5,h6⟩
 ·exact .inl h
 ·exact .inr ⟨i,g,n,cs,h1,h2,h3,h4,by omega,h6⟩
theorem eW.mono{R:List ah}{B B':Nat}{r:List (Nat×T×RL)}(h:eW R B r)(D:B≤B'):eW R B' r:=⟨fun p F=>(h.1 p F).mono D,h.2⟩
theorem eW.new{R:List ah}{B:Nat}{r:List (Nat×T×RL)}(h:eW R B r)(N:1≤B)(j:Nat)(V:j<r.length){sz:Nat}(W:r[j].1=sz)(D:List T)(O:D.length=sz)(l:RL)(U:we sz l D):
  eW (aK R R.length ⟨1,.cells D 0 false⟩) B (r.set j (sz,.isl .S (R.length+7) 1 0 1 sz,l)):=by
 have H: ∀p∈r,RwK (aK R R.length ⟨1,.cells D 0 false⟩) B p∧kyZ p.2.1≠some (R.length+7):=by
  intro p F
  rcases h.1 p F with h1|⟨i,g,n,cs,h1,h2,h3,h4,h5,h6⟩
  ·exact⟨.inl h1,by rw[h1.1];simp[kyZ]⟩
  ·refine⟨.inr ⟨i,g,n,cs,h1, ?_, ?_,h4,h5,h6⟩,by rw[h1,lI];simp;omega⟩
   ·grind [cM]
   ·rw[xe];omega
 refine⟨fun p F=> ?_,fun a b I K J=> ?_⟩
 ·rcases List.mem_or_eq_of_mem_set F with F|rfl
  ·grind
  ·exact .inr ⟨R.length,1,1,D,rfl,by rw[cM,if_pos rfl],by rw[xe];omega,by simp[O],N,U⟩
 ·rw[List.length_set]at I K
  rw[List.getElem_set,List.getElem_set]
  by_cases h1:j=a
  ·grind [lI]
  ·rw[if_neg h1]
   by_cases h2:j=b
   ·rw[if_pos h2]
    right
    rw[lI]
    exact(H r[a] (List.getElem_mem I)).2
   ·rw[if_neg h2];exact h.2 a b I K J
theorem eW.app{R:List ah}{B:Nat}{D:List (Nat×T×RL)}(h:eW R B D)(j:Nat)(I:j<D.length){sz i g n:Nat}{cs:List T}(Y:D[j].1=sz)(J:D[j].2.1= .isl .S (i+7) g 0 n sz)(Z:aE R i=⟨g,.cells cs 0 false⟩)(hi:i<R.length)(U:n*sz=cs.length)(hB:n≤B)(F:List T)(V:F.length=sz)(l:RL)(W:we sz l (cs++F))(H:Nat):
  eW (aK R i ⟨H,.cells (cs++F) 0 false⟩) (B+1) (D.set j (sz,.isl .S (i+7) H 0 (n+1) sz,l)):=by
 have O:(aK R i ⟨H,.cells (cs++F) 0 false⟩).length=R.length:=bU _ _ _ hi
 refine⟨fun p X=> ?_,fun a b r K N=> ?_⟩
 ·obtain⟨a,r,rfl⟩:=List.getElem_of_mem X
  rw[List.length_set]at r
  rw[List.getElem_set]
  by_cases h1:j=a
  ·rw[if_pos h1]
   exact .inr ⟨i,H,n+1,cs++F,rfl,by rw[cM,if_pos rfl],by rw[O];exact hi,by rw[List.length_append,V,Nat.add_mul,U,Nat.one_mul],by omega,W⟩
  ·rw[if_neg h1]
   have hd:=h.2 j a I r h1
   rw[J,lI]at hd
   rcases h.1 D[a] (List.getElem_mem r)with q|⟨i',g2,n',KK,q1,q2,q3,q4,q5,q6⟩
   ·exact .inl q
   ·refine .inr ⟨i',g2,n',KK,q1, ?_,by rw[O];exact q3,q4,by omega,q6⟩
    rw[q1,lI]at hd
    rw[cM,if_neg (fun e=>by subst e;rcases hd with hd|hd <;> simp at hd)]
    exact q2
 ·rw[List.length_set]at r K
  rw[List.getElem_set,List.getElem_set]
  by_cases h1:j=a
  ·rw[if_pos h1,if_neg zO]
   have:=h.2 j b I K zO
   rw[J,lI]at this
   rw[lI];exact this
  ·rw[if_neg h1]
   by_cases h2:j=b
   ·rw[if_pos h2]
    have:=h.2 a j r I zO
    rw[J,lI]at this
    rw[lI];exact this
   ·rw[if_neg h2];exact h.2 a b r K N
theorem B3{α β:Type}[DecidableEq α]{s:α}: ∀{m:List (α×β)},s∉m.map Prod.fst→aU m s=none
 | [],_=>rfl
 |p::m,h=>by
  rw[List.map_cons,List.mem_cons,not_or]at h
  rw[aU,if_neg h.1,B3 h.2]
theorem BY.fz{z:Zo}{c:List T}(h:BY z c):c.all froz1=true∧c.length=3:=by
 obtain⟨a,r,rfl,h1,_⟩:=h
 exact⟨by simp[h1.froz1,FY,uW],rfl⟩
def Ma(r:List Zo)(m:List (List Nat×List T)):Prop:= ∀p∈m,∃z∈r,z.nm=p.1∧BY z p.2
theorem Oy{l:List (List Nat)}(r:l.Nodup){k:Nat}(hk:k<l.length):l[k]∉l.take k:=by
 intro D
 obtain⟨j,F,e⟩:=List.getElem_of_mem D
 rw[List.length_take]at F
 rw[List.getElem_take]at e
 exact List.pairwise_iff_getElem.1 r j k zO hk zO e
theorem nwz(l:List Zo)(hnd:(l.map Zo.nm).Nodup)(a:T)(cc:List T)(ha:IsSl a l.length cc)(hc:aA BY l cc)(hlen:l.length≤100)(X Y uc F:ah)(fr:Fr)(lh:aB ah)(sh:List ah)
  (J:aa fr 9= .mp .L 38 1) (r:aa fr 40=a) (YB:aa fr 41= .i .i64 (l.length:Int)) (D:aa fr 42= .i .i64 0) (K:ab lh 2=X) (N:ab lh 3=Y) (O:ab lh 35=uc) (U:ab lh 37=F) (Js:ab lh 38=⟨1,.map [] [] false⟩):
  mI 232 jT fr lh sh (.ext 0)∧
  (ab (iy pE 232 jT fr lh sh) 2=X∧ab (iy pE 232 jT fr lh sh) 3=Y∧ab (iy pE 232 jT fr lh sh) 35=uc∧ab (iy pE 232 jT fr lh sh) 37=F∧(∃m,ab (iy pE 232 jT fr lh sh) 38=⟨1,.map (m.map fun p=>sK p.1) (m.map fun p=>T.agg p.2) false⟩∧Ma l m∧m.map Prod.fst=l.map Zo.nm)∧iF pE 232 jT fr lh sh=sh):=by
 refine bF (P:=fun bE V aY=>ab V 2=X∧ab V 3=Y∧ab V 35=uc∧ab V 37=F∧(∃m,ab V 38=⟨1,.map (m.map fun p=>sK p.1) (m.map fun p=>T.agg p.2) false⟩∧Ma l m∧m.map Prod.fst=l.map Zo.nm)∧aY=sh)
  (cu (fun k st=> ∃(fr:Fr) (H:aB ah) (m:List (List Nat×List T)),st=⟨fr,H,sh⟩∧m.map Prod.fst=(l.map Zo.nm).take k∧Ma l m∧aa fr 9= .mp .L 38 1∧aa fr 40=a∧aa fr 41= .i .i64 (l.length:Int)∧aa fr 42= .i .i64 (k:Int)∧ab H 2=X∧ab H 3=Y∧ab H 35=uc∧ab H 37=F∧ab H 38=⟨1,.map (m.map fun p=>sK p.1) (m.map fun p=>T.agg p.2) false⟩) _ l.length ?_ ?_ 0 _ (Nat.zero_le _) ⟨fr,lh,[],rfl,by simp,(fun p hp=>by cases hp),J,r,YB,D,K,N,O,U,Js⟩)
 ·rintro k _ hk ⟨fr,H,m,rfl,Z,I,J,r,YB,D,K,N,O,U,Js⟩
  left
  have aN:(k:Int)<l.length:=zO
  have hw:=aI (k:=k) zO
  obtain⟨W,sc,rr,aQ,qI,Hv⟩:=Ee ha hc k hk
  have RH:k<(l.map Zo.nm).length:=by simpa using hk
  have yD:aU m l[k].nm=none:=B3 (by rw[Z];have:=Oy hnd RH;rwa [List.getElem_map]at this)
  have jx:lU (.one .str) (.s l[k].nm) (.agg [.s l[k].nm,.i .i64 l[k].o,W]) (m.map fun p=>sK p.1) (m.map fun p=>T.agg p.2)=_:=u9 (kT:=sK) (vT:=T.agg) Dj m l[k].nm [.s l[k].nm,.i .i64 l[k].o,W] yD
  have hzr: ∃z∈l,z.nm=l[k].nm∧BY z [.s l[k].nm,.i .i64 l[k].o,W]:=⟨l[k],List.getElem_mem hk,rfl,W,sc,rfl,qI,Hv⟩
  have YC:(l.map Zo.nm).take (k+1)=(l.map Zo.nm).take k++ [l[k].nm]:=by rw[List.take_succ_eq_append_getElem RH,List.getElem_map]
  rw[YC]
  generalize l[k]=z at*
  simp only[qA,seval,jT,J,r,YB,D,Js,aN,aQ,hw,pq,yj,jx,qI.froz1]
  refine⟨_,rfl,_,_,m++ [(z.nm,[.s z.nm,.i .i64 z.o,W])],rfl, ?_, ?_, ?_, ?_, ?_, ?_, ?_, ?_, ?_, ?_, ?_⟩
  ·rw[List.map_append,Z];rfl
  ·intro p hp
   rcases List.mem_append.1 hp with hp|hp
   ·exact I p hp
   ·rw[List.mem_singleton.1 hp];exact hzr
  all_goals (simp only[qA,seval,J,r,YB,K,N,O,U])
 ·rintro _ ⟨fr,H,m,rfl,Z,I,J,r,YB,D,K,N,O,U,Js⟩
  simp only[qA,seval,jT,YB,D,Int.lt_irrefl]
  exact⟨_,_,k9,rfl,rfl,K,N,O,U,⟨m,Js,I,by rw[Z,List.take_of_length_le xv]⟩,rfl⟩
def fY(D F H:T)(c:Ct)(I J K r N O:T)(U:List T):List T:=D::F::H::(aR c I J K r N O++ .mp .L 35 1::U)
theorem vw{α β:Type}[DecidableEq α]{s:α}{v:β}: ∀{m:List (α×β)},aU m s=some v→(s,v)∈m
 | [],h=>by cases h
 |p::m,h=>by
  rw[aU]at h
  split at h
  ·rename_i e;injection h with h;subst h;rw[e];exact List.mem_cons_self ..
  ·exact List.mem_cons_of_mem _ (vw h)
theorem xf{α β:Type}[DecidableEq α]{s:α}: ∀{m:List (α×β)},s∈m.map Prod.fst→ ∃v,aU m s=some v
 | [],h=>by cases h
 |p::m,h=>by
  rw[aU]
  split
  ·exact⟨_,rfl⟩
  ·rename_i e
   rw[List.map_cons,List.mem_cons]at h
   rcases h with h|h
   ·exact absurd h e
   ·exact xf h
def RI(r:List Zo)(D:List Ap)(q:List (List Nat×List T)):Prop:= ∀p∈q,∃u∈D,u.cd=p.1∧ ∃z∈r,z.nm=u.zn∧BY z p.2
theorem aff{r:List Zo}{m:List (List Nat×List T)}(F:Ma r m)(H:m.map Prod.fst=r.map Zo.nm)(s:List Nat)(hs:s∈r.map Zo.nm): ∃v,(∃z∈r,z.nm=s∧BY z v)∧jb (.one .str) (m.map fun p=>sK p.1) (m.map fun p=>T.agg p.2) (.s s) (.agg [.s [],.i .i64 0,.nilsl]) false=some (.agg v)∧v.all froz1=true∧v.length=3:=by
 have D:=Og (kT:=sK) (vT:=T.agg) Dj (fun _=>rfl) m s (.agg [.s [],.i .i64 0,.nilsl])
 obtain⟨v,h⟩:=xf (by rw[H];exact hs)
 rw[h]at D
 obtain⟨z,h1,h2,h3⟩:=F _ (vw h)
 exact⟨v,⟨z,h1,h2,h3⟩,D,h3.fz⟩
theorem nwa(l:List Ap)(hnd:(l.map Ap.cd).Nodup)(a:T)(cc:List T)(ha:IsSl a l.length cc)(hc:aA L7 l cc)(hlen:l.length≤100)(H:List Zo)(m:List (List Nat×List T))(K:Ma H m∧m.map Prod.fst=H.map Zo.nm)(hzn: ∀u∈l,u.zn∈H.map Zo.nm)(Y Z fT:T)(c:Ct)(a7 a8 a9 r aw av:T)(vs:List T)(c2 c3:ah)(fr:Fr)(lh:aB ah)(sh:List ah)
  (N:aa fr 8= .ptr .L 37 1 0) (O:aa fr 9= .mp .L 38 1) (SZ:aa fr 52=a) (J:aa fr 53= .i .i64 (l.length:Int)) (U:aa fr 54= .i .i64 0) (V:ab lh 2=c2) (W:ab lh 3=c3) (X:ab lh 35=⟨1,.map [] [] false⟩) (D:ab lh 37=⟨1,.cells (fY Y Z fT c a7 a8 a9 r aw av vs) 0 true⟩) (Js:ab lh 38=⟨1,.map (m.map fun p=>sK p.1) (m.map fun p=>T.agg p.2) false⟩):
  mI 232 kY fr lh sh (.ext 2)∧
  (ab (iy pE 232 kY fr lh sh) 2=c2∧ab (iy pE 232 kY fr lh sh) 3=c3∧ab (iy pE 232 kY fr lh sh) 37=⟨1,.cells (fY Y Z fT c a7 a8 a9 r aw av vs) 0 true⟩∧(∃q,ab (iy pE 232 kY fr lh sh) 35=⟨1,.map (q.map fun p=>sK p.1) (q.map fun p=>T.agg p.2) false⟩∧RI H l q∧q.map Prod.fst=l.map Ap.cd)∧iF pE 232 kY fr lh sh=sh):=by
 refine bF (P:=fun bE aZ aY=>ab aZ 2=c2∧ab aZ 3=c3∧ab aZ 37=⟨1,.cells (fY Y Z fT c a7 a8 a9 r aw av vs) 0 true⟩∧(∃q,ab aZ 35=⟨1,.map (q.map fun p=>sK p.1) (q.map fun p=>T.agg p.2) false⟩∧RI H l q∧q.map Prod.fst=l.map Ap.cd)∧aY=sh)
  (cu (fun k st=> ∃(fr:Fr) (F:aB ah) (q:List (List Nat×List T)),st=⟨fr,F,sh⟩∧q.map Prod.fst=(l.map Ap.cd).take k∧RI H l q∧aa fr 8= .ptr .L 37 1 0∧aa fr 9= .mp .L 38 1∧aa fr 52=a∧aa fr 53= .i .i64 (l.length:Int)∧aa fr 54= .i .i64 (k:Int)∧ab F 2=c2∧ab F 3=c3∧ab F 37=⟨1,.cells (fY Y Z fT c a7 a8 a9 r aw av vs) 0 true⟩∧ab F 38=⟨1,.map (m.map fun p=>sK p.1) (m.map fun p=>T.agg p.2) false⟩∧ab F 35=⟨1,.map (q.map fun p=>sK p.1) (q.map fun p=>T.agg p.2) false⟩) _ l.length ?_ ?_ 0 _ (Nat.zero_le _) ⟨fr,lh,[],rfl,by simp,(fun p hp=>by cases hp),N,O,SZ,J,U,V,W,D,Js,X⟩)
 ·rintro k _ hk ⟨fr,F,q,rfl,hq,I,N,O,SZ,J,U,V,W,D,Js,X⟩
  left
  have aN:(k:Int)<l.length:=zO
  have hw:=aI (k:=k) zO
  obtain⟨rr,aQ⟩:=Jk ha hc k hk
  have RH:k<(l.map Ap.cd).length:=by simpa using hk
  have yD:aU q l[k].cd=none:=B3 (by rw[hq];have:=Oy hnd RH;rwa [List.getElem_map]at this)
  obtain⟨v,hzv,fH,wH,SP⟩:=aff K.1 K.2 l[k].zn (hzn _ (List.getElem_mem hk))
  have hqv: ∃u∈l,u.cd=l[k].cd∧ ∃z∈H,z.nm=u.zn∧BY z v:=⟨l[k],List.getElem_mem hk,rfl,hzv⟩
  have jx:lU (.one .str) (.s l[k].cd) (.agg v) (q.map fun p=>sK p.1) (q.map fun p=>T.agg p.2)=_:=u9 (kT:=sK) (vT:=T.agg) Dj q l[k].cd v yD
  have YC:(l.map Ap.cd).take (k+1)=(l.map Ap.cd).take k++ [l[k].cd]:=by rw[List.take_succ_eq_append_getElem RH,List.getElem_map]
  rw[YC]
  generalize l[k]=z at*
  unfold fY aR at D ⊢
  simp only[List.cons_append,List.nil_append]at D ⊢
  simp only[qA,seval,bp,aJ,kY,N,O,SZ,J,U,X,D,Js,aN,aQ,hw,cq,fH,wH,pq,yj,jx]
  refine⟨_,rfl,_,_,q++ [(z.cd,v)],rfl, ?_, ?_, ?_, ?_, ?_, ?_, ?_, ?_, ?_, ?_, ?_, ?_⟩
  ·rw[List.map_append,hq];rfl
  ·intro p hp
   rcases List.mem_append.1 hp with hp|hp
   ·exact I p hp
   ·rw[List.mem_singleton.1 hp];exact hqv
  all_goals (simp only[qA,seval,N,O,SZ,J,V,W,D,Js])
 ·rintro _ ⟨fr,F,q,rfl,hq,I,N,O,SZ,J,U,V,W,D,Js,X⟩
  simp only[qA,seval,kY,J,U,Int.lt_irrefl]
  exact⟨_,_,k9,rfl,rfl,V,W,D,⟨q,X,I,by rw[hq,List.take_of_length_le xv]⟩,rfl⟩
end Go.Proofs.YtcpceiclnbmgiaaGreat
