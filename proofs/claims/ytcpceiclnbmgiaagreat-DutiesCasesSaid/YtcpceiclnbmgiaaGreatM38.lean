/- Walks of functions of the program and of the reference, and their plain laws, part 38. Conditions: the theorems' own. -/
import Derived.Test.YtcpceiclnbmgiaaGreatGS
import Derived.Test.YtcpceiclnbmgiaaGreatM1
import Derived.Test.YtcpceiclnbmgiaaGreatM14
import Derived.Test.YtcpceiclnbmgiaaGreatM15
import Derived.Test.YtcpceiclnbmgiaaGreatM26
import Derived.Test.YtcpceiclnbmgiaaGreatM27
import Derived.Test.YtcpceiclnbmgiaaGreatM28
import Derived.Test.YtcpceiclnbmgiaaGreatM29
import Derived.Test.YtcpceiclnbmgiaaGreatM30
import Derived.Test.YtcpceiclnbmgiaaGreatM31
import Derived.Test.YtcpceiclnbmgiaaGreatM32
import Derived.Test.YtcpceiclnbmgiaaGreatM33
import Derived.Test.YtcpceiclnbmgiaaGreatM34
import Derived.Test.YtcpceiclnbmgiaaGreatM35
import Derived.Test.YtcpceiclnbmgiaaGreatM36
import Derived.KernelRfl
set_option maxRecDepth 100000
set_option linter.unusedSimpArgs false
set_option linter.unusedVariables false
set_option maxRecDepth 1000000
set_option maxHeartbeats 16000000
namespace Go.Proofs.YtcpceiclnbmgiaaGreat
open Go Go.Ev
def Tk(v:T)(n i:Nat)(K:Int)(s:List Nat)(N:Int):Prop:=i<n∧n≤1000∧froz v=true∧lenI v=some (.i .i64 (n:Int))∧ ∃r,∀kk,dV v (.i kk (i:Int)) 4=some (.vp (.i .i64 K:: .s s:: .i .i64 N::r))
theorem Tk.of(cs:List T)(n i:Nat)(K:Int)(s:List Nat)(N:Int)(r:List T)(hi:i<n)(D:n≤1000)(F:cs.length=n*4)(h:cs.drop (i*4)= .i .i64 K:: .s s:: .i .i64 N::r):Tk (.sl cs n false) n i K s N:=by
 refine⟨hi,D,rfl,rfl,r,fun kk=> ?_⟩
 rw[di,if_pos ⟨by omega,by simpa using hi,by rw[F];simp only[Int.toNat_natCast];omega⟩,Int.toNat_natCast,h]
section
variable{v:T}{n i:Nat}{K:Int}{s:List Nat}{N:Int}(h:Tk v n i K s N)
include h
theorem Am(k:Int):ae pE 122 [v,.i .i64 (i:Int),.i .i64 k] []=some (.b (decide (K=k)),[]):=by
 obtain⟨h1,h2,h3,h4,r,h5⟩:=h
 have hi:(i:Int)<n:=zO
 rw[an agU (by simp[Tu])]
 by_cases e:K=k
 all_goals simp(maxDischargeDepth:=6) only[qA,seval,Tu,h3,h4,hi,h5,e]
theorem EJ(w:List Nat):ae pE 125 [v,.i .i64 (i:Int),.s w] []=some (.b (decide (K=1∧s=w)),[]):=by
 obtain⟨h1,h2,h3,h4,r,h5⟩:=h
 have hi:(i:Int)<n:=zO
 rw[an agX (by simp[PL])]
 by_cases e:K=1
 ·by_cases e2:s=w
  all_goals simp(maxDischargeDepth:=6) only[qA,seval,PL,h3,h4,hi,h5,e,e2]
 ·simp(maxDischargeDepth:=6) only[qA,seval,PL,h3,h4,hi,h5,e]
theorem an5:ae pE 124 [v,.i .i64 (i:Int)] []=some (.b (decide (K=1)&&jB s),[]):=by
 have hk:=Am h 1
 obtain⟨h1,h2,h3,h4,r,h5⟩:=h
 have hi:(i:Int)<n:=zO
 have D:=oh s
 rw[an agV (by simp[Tv])]
 by_cases e:K=1
 all_goals simp(maxDischargeDepth:=6) only[qA,seval,Tv,h3,h4,hi,h5,hk,D,e,Nc,HY]
end
def Hb(s:List Nat):Int:=if s= [100,117,116,121]then 1 else if s= [114,101,115,116]then 2 else if s= [112,97,105,114,105,110,103]then 3 else 0
theorem MO(s:List Nat):ae pE 127 [.s s] []=some (.i .i64 (Hb s),[]):=by
 rw[an UN (by simp[HR])]
 unfold Hb
 by_cases e1:s= [100,117,116,121]
 ·simp(maxDischargeDepth:=6) only[qA,seval,HR,e1]
 ·by_cases e2:s= [114,101,115,116]
  ·simp(maxDischargeDepth:=6) only[qA,seval,HR,e1,e2]
   rfl
  ·by_cases e3:s= [112,97,105,114,105,110,103]
   ·simp(maxDischargeDepth:=6) only[qA,seval,HR,e1,e2,e3]
    rfl
   ·simp(maxDischargeDepth:=6) only[qA,seval,HR,e1,e2,e3]
def MP:List (List Nat):= [[114,101,112,111,114,116],[114,101,108,101,97,115,101],[99,111,110,110,101,99,116],[115,105,116],[108,97,121,111,118,101,114],[103,117,97,114,97,110,116,101,101],[110,105,103,104,116]]
theorem an6{v:T}{n:Nat}{K:Int}{s:List Nat}{N:Int}(h:Tk v n 0 K s N)(hs:s∉MP)(fr:Fr)(lh:aB ah)(sh:List ah)(h2:aa fr 2=v)(F:aa fr 7= .sl (strs MP) 7 true)(H:aa fr 8= .i .i64 0):
  Lp pE 335 te fr lh sh (.ext 0) fun f l s=>s=sh∧l=lh:=by
 have Hw:MP.length=7:=rfl
 have I:IsSl (T.sl (strs MP) 7 true) MP.length (strs MP):= .inr ⟨_,rfl⟩
 obtain⟨_,_,h3,h4,r,h5⟩:=h
 have h5: ∀kk,dV v (.i kk 0) 4=some (.vp (.i .i64 K:: .s s:: .i .i64 N::r)):=h5
 generalize T.sl (strs MP) 7 true=fT at*
 refine bV CC (fun k f l s=>aa f 8= .i .i64 (k:Int)∧s=sh∧l=lh) 7 ⟨H,rfl,rfl⟩ ?_ ?_
 ·rintro k f _ _ hk D ⟨g8,rfl,rfl⟩
  have J:(k:Int)<7:=zO
  have O:=aI (k:=k) zO
  obtain⟨q,U⟩:=vU I k zO
  have V: ¬s=MP[k]:=fun e=>hs (e▸List.getElem_mem _)
  generalize MP[k]=w at*
  simp(maxDischargeDepth:=6) only[qA,bp,wY,aJ,seval,gd,te,D,h2,F,g8,J,O,h5,U,V]
 ·rintro f _ _ D ⟨g8,rfl,rfl⟩
  have g8:aa f 8= .i .i64 7:=g8
  simp only[qA,seval,gd,te,D,g8,Int.lt_irrefl]
section
variable{E:Env}{call:kg}{n:Nat}{fr:Fr}{lh:aB ah}{sh:List ah}{ds:List (List Nat×aF)}{bw:List FP}{u:List Nat}
theorem agd{x v:aX}{m k g off kk F H len sz:Nat}(hx:rd fr x= .ptr .S k g off)(V:rd fr v= .isl .S kk F H len sz)(Lf:pv (aE sh k)=true):aM E call n ((u,⟨none,.st x v m,none⟩)::ds) bw ⟨fr,lh,sh⟩=
  if meets u bw (Dn (rd fr x))=true then ke E call n ds (bw++ [Dn (rd fr x)]) (aj E call n [⟨none,.st x v m,none⟩] ⟨fr,lh,sh⟩)else none:=by
 refine nM fun J=> ?_
 by_cases O:(decide ((cellsOf (rd fr v)).length≠m)|| !noTup (rd fr v))=true
 ·obtain⟨w,I,hr,r⟩:=qm (q:= .fail) (by rfl) (by rw[dC];simp only[bC,nI,hx];rw[if_pos O]) J
  simp[Q.run]at hr
 ·obtain⟨w,I,hr,r⟩:=qm (q:= .rd .S k (IY k g off m (rd fr v))) (by rfl) (by rw[dC];simp only[bC,nI,hx];rw[if_neg O];rfl) J
  simp only[Q.run,Q.log,Q.asks]at hr r
  have Oe:(St.mk fr lh sh).get .S k=aE sh k:=rfl
  generalize U:(St.mk fr lh sh).get .S k=e at hr r
  rw[←Oe,U]at Lf
  obtain⟨W,ob⟩:=e
  unfold IY at hr r
  by_cases D:W=g
  ·cases ob with
   |none=>simp[D,Q.run]at hr
   |map ks Z z=>simp[D,Q.run]at hr
   |cells cs wm bx=>
    have Lf:bx=true:=Lf
    subst Lf
    simp only[D,if_true]at hr r
    split at hr
    ·rename_i hc
     rw[if_pos hc]at r
     have hs:(true&&(Sp.S==Sp.L))=false:=rfl
     have Hv:(true&&(Sp.S==Sp.S))=true:=rfl
     have X:Ev.fz true aL (.isl .S kk F H len sz)= .ret (.isl .S kk F H len sz,[]):=rfl
     rw[hs,Hv,V,X]at hr r
     simp only[Bool.false_eq_true,if_false]at hr r
     simp only[Q.bind]at hr r
     split at hr
     ·simp[Q.run]at hr
     ·rename_i Y
      rw[if_neg Y]at r
      simp[Q.run]at hr
      obtain⟨rfl,rfl⟩:=hr
      rw[r (by simp[Ev.inB,xP,U]),hx]
      rfl
    ·simp[Q.run]at hr
  ·simp only[D,if_false,Q.run]at hr
   cases hr
def aaJ(sh:List ah):T→Bool
 | .ptr .S k _ _=>pv (aE sh k)
 |_=>false
theorem fW{sh:List ah}{k g off:Nat}:aaJ sh (.ptr .S k g off)=pv (aE sh k):=nr rfl
def aaK:T→Bool
 | .isl .S .. =>true
 |_=>false
theorem fX{k g off len sz:Nat}:aaK (.isl .S k g off len sz)=true:=nr rfl
theorem pT{x v:aX}{m:Nat}(hx:aaJ sh (rd fr x)=true)(r:aaK (rd fr v)=true):aM E call n ((u,⟨none,.st x v m,none⟩)::ds) bw ⟨fr,lh,sh⟩=
  if meets u bw (Dn (rd fr x))=true then ke E call n ds (bw++ [Dn (rd fr x)]) (aj E call n [⟨none,.st x v m,none⟩] ⟨fr,lh,sh⟩)else none:=by
 cases h1:rd fr x with
 |ptr sp k g off=>
  cases sp with
  |L=>rw[h1]at hx;cases hx
  |S=>
   cases h2:rd fr v with
   |isl sp kk D F len sz=>
    cases sp with
    |L=>rw[h2]at r;cases r
    |S=>
     rw[h1]at hx
     have:=agd (E:=E) (call:=call) (n:=n) (lh:=lh) (ds:=ds) (bw:=bw) (u:=u) (m:=m) h1 h2 hx
     rw[this,h1]
   |_=>rw[h2]at r;cases r
 |_=>rw[h1]at hx;cases hx
end
def stR(r:List T)(jo:T)(sn:List T)(n:Nat)(cs:List T):List ah:=
 ⟨1,.cells (r++ [jo,if n=0 then .nilsl else .isl .S 2 n 0 n 6,.nilsl,.nilsl,.nilsl,.nilsl,.i .i64 0]) 0 true⟩::⟨1,.cells sn 0 true⟩::if n=0 then []else [⟨n,.cells cs 0 false⟩]
theorem aHB(x0 x1 x2 x3 x4 x5 x6 jo:T)(sn:List T)(n:Nat)(hn:n≤100)(cs:List T)(I:cs.length=n*6)(v:T)(N:Nat)(r F:List Nat)(N0 N1 N2 N3:Int)(h0:Tk v N 0 1 r N0)(h1:Tk v N 1 1 [114,117,108,101] N1)(h2:Tk v N 2 1 F N2)(h3:Tk v N 3 1 [105,115] N3)(X:r= [100,117,116,121]∨r= [114,101,115,116]∨r= [112,97,105,114,105,110,103])(BT:jB F=true)
  (Y:T) (ft:lF v=some N) (DU:tu 4 v 4 N=some Y) (Fx:froz Y=true) (a b c d:T) (ha:froz1 a=true∧froz1 b=true∧froz1 c=true∧froz1 d=true) (s:List ah) (he:ae pE 126 [Y] []=some (.tup [.agg [a,b,c,d],.i .i64 (-1)],s)):
  ae pE 79 [.ptr .S 0 1 0,.ptr .S 1 1 0,v] (stR [x0,x1,x2,x3,x4,x5,x6] jo sn n cs)=some (.i .i64 0,stR [x0,x1,x2,x3,x4,x5,x6] jo sn (n+1) (cs++ [.i .i64 (Hb r),.s F,a,b,c,d])):=by
 have hs:r∉MP:=by rcases X with rfl|rfl|rfl <;> decide
 have hL:=fun fr lh sh=>an6 h0 hs fr lh sh
 have wZ:=Am h0 1
 have Dt:=EJ h1
 have J:=EJ h3
 have Df:=an5 h2
 have O:=MO r
 have U:Hb r≠0:=by rcases X with rfl|rfl|rfl <;> decide
 have qa: ¬r= [99,111,110,115,116]:=by rcases X with rfl|rfl|rfl <;> decide
 obtain⟨_,_,Z,z2,r0,Kn⟩:=h0
 obtain⟨_,_,_,_,r2,H⟩:=h2
 have Kn: ∀kk,dV v (.i kk 0) 4=some (.vp (.i .i64 1:: .s r:: .i .i64 N0::r0)):=Kn
 have H: ∀kk,dV v (.i kk 2) 4=some (.vp (.i .i64 1:: .s F:: .i .i64 N2::r2)):=H
 generalize Hb r=S at*
 have Zq:T.sl (strs MP) 7 true= .sl [.s [114,101,112,111,114,116],.s [114,101,108,101,97,115,101],.s [99,111,110,110,101,99,116],.s [115,105,116],.s [108,97,121,111,118,101,114],.s [103,117,97,114,97,110,116,101,101],.s [110,105,103,104,116]] 7 true:=rfl
 rw[an aco (by simp[c79])]
 unfold stR
 have aaL:ae pE 122 [v,.i .i64 0,.i .i64 1] []=some (.b (decide ((1:Int)=1)),[]):=wZ
 simp(maxDischargeDepth:=6) only[qA,seval,c79,repl,aaL,Z,Nc]
 generalize hD:DC pE 335 (.loop te) _=D
 obtain⟨f2,l2,s2,rfl,⟨rfl,rfl⟩,W⟩:=sZ CC hD (hL _ _ _ wL (by rw[Zq];simp only[qA,seval]) wL)
 have p0:aa f2 0= .ptr .S 0 1 0:=by rw[W 0 yv];simp only[qA,seval]
 have p1:aa f2 1= .ptr .S 1 1 0:=by rw[W 1 yv];simp only[qA,seval]
 have p2:aa f2 2=v:=by rw[W 2 yv];simp only[qA,seval]
 clear W hD hL
 have Dt: ∀w,ae pE 125 [v,.i .i64 1,.s w] []=some (.b (decide ((1:Int)=1∧ [114,117,108,101]=w)),[]):=Dt
 have J: ∀w,ae pE 125 [v,.i .i64 3,.s w] []=some (.b (decide ((1:Int)=1∧ [105,115]=w)),[]):=J
 have Df:ae pE 124 [v,.i .i64 2] []=some (.b (decide ((1:Int)=1)&&jB F),[]):=Df
 rw[BT]at Df
 have e1:=Dt [114,117,108,101]
 have e3:=J [105,115]
 simp only[and_self,decide_true]at e1 e3
 obtain⟨y1,y2,y3,y4⟩:=ha
 have y1':cellsOf a= [a]:=by cases a <;> simp_all[froz1,cellsOf]
 have r80:80≤roomy:=yv
 have Sx: ∀m,ny m .nilsl=⟨true,[],[(.S,m)]⟩:=fun _=>rfl
 by_cases V:n=0
 ·subst V
  have I:cs= []:=List.length_eq_zero_iff.1 zO
  subst I
  have gn: ∀lh,Ev.stV lh [⟨1,.cells [x0,x1,x2,x3,x4,x5,x6,jo,.nilsl,.nilsl,.nilsl,.nilsl,.nilsl,.i .i64 0] 0 true⟩,⟨1,.cells sn 0 true⟩,⟨1,.cells [.i .i64 S,.s F,a,b,c,d] 0 false⟩] (.ptr .S 0 1 8) (.isl .S 2 1 0 1 6) 1=some (lh,[⟨1,.cells [x0,x1,x2,x3,x4,x5,x6,jo,.isl .S 2 1 0 1 6,.nilsl,.nilsl,.nilsl,.nilsl,.i .i64 0] 0 true⟩,⟨1,.cells sn 0 true⟩,⟨1,.cells [.i .i64 S,.s F,a,b,c,d] 0 false⟩]):=fun lh=>by
   rw[iL (by rfl) (by rfl),dD,if_pos ⟨rfl,rfl,rfl,Nat.zero_le _,by simp⟩]
   rfl
  simp(maxDischargeDepth:=6) only[qA,eh,bp,gv,aJ,seval,repl,p0,p2,Kn,H,qa,O,U,e1,e3,Df,ft,DU,Fx,he,Z,y1,y2,y3,y4,agW,uq,ur,uu,DF,cF,dk,aP,cw,cX,Sx,pT,fW,fX,eN,r80,gn]
 ·have r81:(n+1)*80≤roomy:=by unfold roomy;omega
  have age:n*6=cs.length:=I.symm
  have gn: ∀lh,Ev.stV lh [⟨1,.cells [x0,x1,x2,x3,x4,x5,x6,jo,.isl .S 2 n 0 n 6,.nilsl,.nilsl,.nilsl,.nilsl,.i .i64 0] 0 true⟩,⟨1,.cells sn 0 true⟩,⟨n+1,.cells (cs++ [.i .i64 S,.s F,a,b,c,d]) 0 false⟩] (.ptr .S 0 1 8) (.isl .S 2 (n+1) 0 (n+1) 6) 1=some (lh,[⟨1,.cells [x0,x1,x2,x3,x4,x5,x6,jo,.isl .S 2 (n+1) 0 (n+1) 6,.nilsl,.nilsl,.nilsl,.nilsl,.i .i64 0] 0 true⟩,⟨1,.cells sn 0 true⟩,⟨n+1,.cells (cs++ [.i .i64 S,.s F,a,b,c,d]) 0 false⟩]):=fun lh=>by
   rw[iL (by rfl) (by rfl),dD,if_pos ⟨rfl,rfl,rfl,Nat.zero_le _,by simp⟩]
   rfl
  have De: ¬n+1=0:=zO
  simp(maxDischargeDepth:=6) only[qA,eh,bp,gv,aJ,seval,repl,p0,p2,Kn,H,qa,O,U,e1,e3,Df,ft,DU,Fx,he,Z,y1,y2,y3,y4,agW,uq,ur,uu,DF,cF,dk,aP,cW,dR,bZ,pT,fW,fX,eN,gn,r81,age,V,eN,ny]
def stK(r:List T)(jo D:T)(sn:List T)(P:List ah)(n:Nat)(cs:List T):List ah:=
 ⟨1,.cells (r++ [jo,D,if n=0 then .nilsl else .isl .S (2+P.length) n 0 n 5,.nilsl,.nilsl,.nilsl,.i .i64 0]) 0 true⟩::⟨1,.cells sn 0 true⟩::(P++if n=0 then []else [⟨n,.cells cs 0 false⟩])
theorem aHD(x0 x1 x2 x3 x4 x5 x6 jo F:T)(sn:List T)(P:List ah)(hP:P.length≤1)(n:Nat)(hn:n≤100)(cs:List T)(J:cs.length=n*5)(v:T)(N:Nat)(r:List Nat)(N0 N1 N2:Int)(h0:Tk v N 0 1 r N0)(h1:Tk v N 1 1 [99,111,115,116] N1)(h2:Tk v N 2 1 [105,115] N2)(fK:r= [100,117,116,121]∨r= [114,101,115,116]∨r= [112,97,105,114,105,110,103])
  (tl:T) (ft:lF v=some N) (DU:tu 4 v 3 N=some tl) (Fx:froz tl=true) (a b c d:T) (ha:froz1 a=true∧froz1 b=true∧froz1 c=true∧froz1 d=true) (s:List ah) (he:ae pE 126 [tl] []=some (.tup [.agg [a,b,c,d],.i .i64 (-1)],s)):
  ae pE 79 [.ptr .S 0 1 0,.ptr .S 1 1 0,v] (stK [x0,x1,x2,x3,x4,x5,x6] jo F sn P n cs)=some (.i .i64 0,stK [x0,x1,x2,x3,x4,x5,x6] jo F sn P (n+1) (cs++ [.i .i64 (Hb r),a,b,c,d])):=by
 have hs:r∉MP:=by rcases fK with rfl|rfl|rfl <;> decide
 have hL:=fun fr lh sh=>an6 h0 hs fr lh sh
 have wZ:=Am h0 1
 have Dt:=EJ h1
 have Dd:=EJ h2
 have H:=MO r
 have I:Hb r≠0:=by rcases fK with rfl|rfl|rfl <;> decide
 have qa: ¬r= [99,111,110,115,116]:=by rcases fK with rfl|rfl|rfl <;> decide
 obtain⟨_,_,V,z2,r0,Kn⟩:=h0
 have Kn: ∀kk,dV v (.i kk 0) 4=some (.vp (.i .i64 1:: .s r:: .i .i64 N0::r0)):=Kn
 generalize Hb r=S at*
 have Zq:T.sl (strs MP) 7 true= .sl [.s [114,101,112,111,114,116],.s [114,101,108,101,97,115,101],.s [99,111,110,110,101,99,116],.s [115,105,116],.s [108,97,121,111,118,101,114],.s [103,117,97,114,97,110,116,101,101],.s [110,105,103,104,116]] 7 true:=rfl
 rw[an aco (by simp[c79])]
 unfold stK
 have aaL:ae pE 122 [v,.i .i64 0,.i .i64 1] []=some (.b (decide ((1:Int)=1)),[]):=wZ
 simp(maxDischargeDepth:=6) only[qA,seval,c79,repl,aaL,V,Nc]
 generalize hD:DC pE 335 (.loop te) _=D
 obtain⟨f2,l2,s2,rfl,⟨rfl,rfl⟩,iH⟩:=sZ CC hD (hL _ _ _ wL (by rw[Zq];simp only[qA,seval]) wL)
 have p0:aa f2 0= .ptr .S 0 1 0:=by rw[iH 0 yv];simp only[qA,seval]
 have p1:aa f2 1= .ptr .S 1 1 0:=by rw[iH 1 yv];simp only[qA,seval]
 have p2:aa f2 2=v:=by rw[iH 2 yv];simp only[qA,seval]
 clear iH hD hL
 have Dt: ∀w,ae pE 125 [v,.i .i64 1,.s w] []=some (.b (decide ((1:Int)=1∧ [99,111,115,116]=w)),[]):=Dt
 have Dd: ∀w,ae pE 125 [v,.i .i64 2,.s w] []=some (.b (decide ((1:Int)=1∧ [105,115]=w)),[]):=Dd
 have e1:=Dt [99,111,115,116]
 have e2:ae pE 125 [v,.i .i64 1,.s [114,117,108,101]] []=some (.b false,[]):=Dt [114,117,108,101]
 have e3:=Dd [105,115]
 simp only[and_self,decide_true]at e1 e3
 obtain⟨y1,y2,y3,y4⟩:=ha
 have W:64≤roomy:=yv
 have X:(n+1)*64≤roomy:=by unfold roomy;omega
 have Y:n*5=cs.length:=J.symm
 have De: ¬n+1=0:=zO
 have Z:P= []∨ ∃e,P= [e]:=by
  match P,hP with
  | [],_=>exact .inl rfl
  | [e],_=>exact .inr ⟨e,rfl⟩
 by_cases O:n=0
 ·subst O
  have J:cs= []:=List.length_eq_zero_iff.1 zO
  subst J
  rcases Z with rfl|⟨e,rfl⟩
  ·have U: ∀lh,Ev.stV lh [⟨1,.cells [x0,x1,x2,x3,x4,x5,x6,jo,F,.nilsl,.nilsl,.nilsl,.nilsl,.i .i64 0] 0 true⟩,⟨1,.cells sn 0 true⟩,⟨1,.cells [.i .i64 S,a,b,c,d] 0 false⟩] (.ptr .S 0 1 9) (.isl .S 2 1 0 1 5) 1=some (lh,[⟨1,.cells [x0,x1,x2,x3,x4,x5,x6,jo,F,.isl .S 2 1 0 1 5,.nilsl,.nilsl,.nilsl,.i .i64 0] 0 true⟩,⟨1,.cells sn 0 true⟩,⟨1,.cells [.i .i64 S,a,b,c,d] 0 false⟩]):=fun lh=>by
    rw[iL (by rfl) (by rfl),dD,if_pos ⟨rfl,rfl,rfl,Nat.zero_le _,by simp⟩]
    rfl
   simp(maxDischargeDepth:=6) only[qA,eh,bp,gv,aJ,seval,repl,p0,p2,Kn,qa,H,I,e1,e2,e3,ft,DU,Fx,he,V,y1,y2,y3,y4,uq,ur,uu,DF,cF,dk,aP,cw,cX,ny,pT,fW,fX,eN,W,U]
  ·have U: ∀lh,Ev.stV lh [⟨1,.cells [x0,x1,x2,x3,x4,x5,x6,jo,F,.nilsl,.nilsl,.nilsl,.nilsl,.i .i64 0] 0 true⟩,⟨1,.cells sn 0 true⟩,e,⟨1,.cells [.i .i64 S,a,b,c,d] 0 false⟩] (.ptr .S 0 1 9) (.isl .S 3 1 0 1 5) 1=some (lh,[⟨1,.cells [x0,x1,x2,x3,x4,x5,x6,jo,F,.isl .S 3 1 0 1 5,.nilsl,.nilsl,.nilsl,.i .i64 0] 0 true⟩,⟨1,.cells sn 0 true⟩,e,⟨1,.cells [.i .i64 S,a,b,c,d] 0 false⟩]):=fun lh=>by
    rw[iL (by rfl) (by rfl),dD,if_pos ⟨rfl,rfl,rfl,Nat.zero_le _,by simp⟩]
    rfl
   simp(maxDischargeDepth:=6) only[qA,eh,bp,gv,aJ,seval,repl,p0,p2,Kn,qa,H,I,e1,e2,e3,ft,DU,Fx,he,V,y1,y2,y3,y4,uq,ur,uu,DF,cF,dk,aP,cw,cX,ny,pT,fW,fX,eN,W,U]
 ·rcases Z with rfl|⟨e,rfl⟩
  ·have U: ∀lh,Ev.stV lh [⟨1,.cells [x0,x1,x2,x3,x4,x5,x6,jo,F,.isl .S 2 n 0 n 5,.nilsl,.nilsl,.nilsl,.i .i64 0] 0 true⟩,⟨1,.cells sn 0 true⟩,⟨n+1,.cells (cs++ [.i .i64 S,a,b,c,d]) 0 false⟩] (.ptr .S 0 1 9) (.isl .S 2 (n+1) 0 (n+1) 5) 1=some (lh,[⟨1,.cells [x0,x1,x2,x3,x4,x5,x6,jo,F,.isl .S 2 (n+1) 0 (n+1) 5,.nilsl,.nilsl,.nilsl,.i .i64 0] 0 true⟩,⟨1,.cells sn 0 true⟩,⟨n+1,.cells (cs++ [.i .i64 S,a,b,c,d]) 0 false⟩]):=fun lh=>by
    rw[iL (by rfl) (by rfl),dD,if_pos ⟨rfl,rfl,rfl,Nat.zero_le _,by simp⟩]
    rfl
   simp(maxDischargeDepth:=6) only[qA,eh,bp,gv,aJ,seval,repl,p0,p2,Kn,qa,H,I,e1,e2,e3,ft,DU,Fx,he,V,y1,y2,y3,y4,uq,ur,uu,DF,cF,dk,aP,cW,dR,bZ,ny,pT,fW,fX,eN,U,X,Y,O]
  ·have U: ∀lh,Ev.stV lh [⟨1,.cells [x0,x1,x2,x3,x4,x5,x6,jo,F,.isl .S 3 n 0 n 5,.nilsl,.nilsl,.nilsl,.i .i64 0] 0 true⟩,⟨1,.cells sn 0 true⟩,e,⟨n+1,.cells (cs++ [.i .i64 S,a,b,c,d]) 0 false⟩] (.ptr .S 0 1 9) (.isl .S 3 (n+1) 0 (n+1) 5) 1=some (lh,[⟨1,.cells [x0,x1,x2,x3,x4,x5,x6,jo,F,.isl .S 3 (n+1) 0 (n+1) 5,.nilsl,.nilsl,.nilsl,.i .i64 0] 0 true⟩,⟨1,.cells sn 0 true⟩,e,⟨n+1,.cells (cs++ [.i .i64 S,a,b,c,d]) 0 false⟩]):=fun lh=>by
    rw[iL (by rfl) (by rfl),dD,if_pos ⟨rfl,rfl,rfl,Nat.zero_le _,by simp⟩]
    rfl
   simp(maxDischargeDepth:=6) only[qA,eh,bp,gv,aJ,seval,repl,p0,p2,Kn,qa,H,I,e1,e2,e3,ft,DU,Fx,he,V,y1,y2,y3,y4,uq,ur,uu,DF,cF,dk,aP,cW,dR,bZ,ny,pT,fW,fX,eN,U,X,Y,O]
def stC(r:List T)(jo D MM:T)(sn:List T)(P:List ah)(cr:List T):List ah:=
 ⟨1,.cells (r++ [jo,D,MM,if cr= []then .nilsl else .isl .S (2+P.length) 1 0 1 4,.nilsl,.nilsl,.i .i64 0]) 0 true⟩::⟨1,.cells sn 0 true⟩::(P++if cr= []then []else [⟨1,.cells cr 0 false⟩])
theorem aHE(x0 x1 x2 x3 x4 x5 x6 jo r MM:T)(sn:List T)(P:List ah)(hP:P.length≤2)(v:T)(N:Nat)(N0 N1 N2:Int)(h0:Tk v N 0 1 [100,117,116,121] N0)(h1:Tk v N 1 1 [99,114,101,100,105,116] N1)(h2:Tk v N 2 1 [105,115] N2)
  (V:T) (W:lF v=some N) (DU:tu 4 v 3 N=some V) (Fx:froz V=true) (a b c d:T) (ha:froz1 a=true∧froz1 b=true∧froz1 c=true∧froz1 d=true) (s:List ah) (X:ae pE 126 [V] []=some (.tup [.agg [a,b,c,d],.i .i64 (-1)],s)):
  ae pE 79 [.ptr .S 0 1 0,.ptr .S 1 1 0,v] (stC [x0,x1,x2,x3,x4,x5,x6] jo r MM sn P [])=some (.i .i64 0,stC [x0,x1,x2,x3,x4,x5,x6] jo r MM sn P [a,b,c,d]):=by
 have hs:([100,117,116,121]:List Nat)∉MP:=yv
 have hL:=fun fr lh sh=>an6 h0 hs fr lh sh
 have wZ:=Am h0 1
 have Dt:=EJ h1
 have Dd:=EJ h2
 have F:ae pE 127 [.s [100,117,116,121]] []=some (.i .i64 1,[]):=MO _
 have H:(1:Int)≠0:=yv
 have Y: ¬([100,117,116,121]:List Nat)= [99,111,110,115,116]:=yv
 obtain⟨_,_,O,z2,r0,Kn⟩:=h0
 have Kn: ∀kk,dV v (.i kk 0) 4=some (.vp (.i .i64 1:: .s [100,117,116,121]:: .i .i64 N0::r0)):=Kn
 have Zq:T.sl (strs MP) 7 true= .sl [.s [114,101,112,111,114,116],.s [114,101,108,101,97,115,101],.s [99,111,110,110,101,99,116],.s [115,105,116],.s [108,97,121,111,118,101,114],.s [103,117,97,114,97,110,116,101,101],.s [110,105,103,104,116]] 7 true:=rfl
 rw[an aco (by simp[c79])]
 unfold stC
 have Z:ae pE 122 [v,.i .i64 0,.i .i64 1] []=some (.b (decide ((1:Int)=1)),[]):=wZ
 simp(maxDischargeDepth:=6) only[qA,seval,c79,repl,Z,O,Nc]
 generalize hD:DC pE 335 (.loop te) _=D
 obtain⟨f2,l2,s2,rfl,⟨rfl,rfl⟩,U⟩:=sZ CC hD (hL _ _ _ wL (by rw[Zq];simp only[qA,seval]) wL)
 have p0:aa f2 0= .ptr .S 0 1 0:=by rw[U 0 yv];simp only[qA,seval]
 have p1:aa f2 1= .ptr .S 1 1 0:=by rw[U 1 yv];simp only[qA,seval]
 have p2:aa f2 2=v:=by rw[U 2 yv];simp only[qA,seval]
 clear U hD hL
 have Dt: ∀w,ae pE 125 [v,.i .i64 1,.s w] []=some (.b (decide ((1:Int)=1∧ [99,114,101,100,105,116]=w)),[]):=Dt
 have Dd: ∀w,ae pE 125 [v,.i .i64 2,.s w] []=some (.b (decide ((1:Int)=1∧ [105,115]=w)),[]):=Dd
 have e1:=Dt [99,114,101,100,105,116]
 have e4:ae pE 125 [v,.i .i64 1,.s [99,111,115,116]] []=some (.b false,[]):=Dt [99,111,115,116]
 have e2:ae pE 125 [v,.i .i64 1,.s [114,117,108,101]] []=some (.b false,[]):=Dt [114,117,108,101]
 have e3:=Dd [105,115]
 simp only[and_self,decide_true]at e1 e3
 obtain⟨y1,y2,y3,y4⟩:=ha
 have I:56≤roomy:=yv
 have hPc:P= []∨(∃e,P= [e])∨ ∃e f,P= [e,f]:=by
  match P,hP with
  | [],_=>exact .inl rfl
  | [e],_=>exact .inr (.inl ⟨e,rfl⟩)
  | [e,f],_=>exact .inr (.inr ⟨e,f,rfl⟩)
 rcases hPc with rfl|⟨e,rfl⟩|⟨e,f,rfl⟩
 ·have J: ∀lh,Ev.stV lh [⟨1,.cells [x0,x1,x2,x3,x4,x5,x6,jo,r,MM,.nilsl,.nilsl,.nilsl,.i .i64 0] 0 true⟩,⟨1,.cells sn 0 true⟩,⟨1,.cells [a,b,c,d] 0 false⟩] (.ptr .S 0 1 10) (.isl .S 2 1 0 1 4) 1=some (lh,[⟨1,.cells [x0,x1,x2,x3,x4,x5,x6,jo,r,MM,.isl .S 2 1 0 1 4,.nilsl,.nilsl,.i .i64 0] 0 true⟩,⟨1,.cells sn 0 true⟩,⟨1,.cells [a,b,c,d] 0 false⟩]):=fun lh=>by
   rw[iL (by rfl) (by rfl),dD,if_pos ⟨rfl,rfl,rfl,Nat.zero_le _,by simp⟩]
   rfl
  simp(maxDischargeDepth:=6) only[qA,eh,bp,gv,aJ,seval,repl,p0,p2,Kn,Y,F,H,e1,e2,e3,e4,W,DU,Fx,X,O,y1,y2,y3,y4,uq,ur,uu,cF,dk,aP,cw,cX,ny,qZ,il,pT,fW,fX,eN,I,J]
 ·have J: ∀lh,Ev.stV lh [⟨1,.cells [x0,x1,x2,x3,x4,x5,x6,jo,r,MM,.nilsl,.nilsl,.nilsl,.i .i64 0] 0 true⟩,⟨1,.cells sn 0 true⟩,e,⟨1,.cells [a,b,c,d] 0 false⟩] (.ptr .S 0 1 10) (.isl .S 3 1 0 1 4) 1=some (lh,[⟨1,.cells [x0,x1,x2,x3,x4,x5,x6,jo,r,MM,.isl .S 3 1 0 1 4,.nilsl,.nilsl,.i .i64 0] 0 true⟩,⟨1,.cells sn 0 true⟩,e,⟨1,.cells [a,b,c,d] 0 false⟩]):=fun lh=>by
   rw[iL (by rfl) (by rfl),dD,if_pos ⟨rfl,rfl,rfl,Nat.zero_le _,by simp⟩]
   rfl
  simp(maxDischargeDepth:=6) only[qA,eh,bp,gv,aJ,seval,repl,p0,p2,Kn,Y,F,H,e1,e2,e3,e4,W,DU,Fx,X,O,y1,y2,y3,y4,uq,ur,uu,cF,dk,aP,cw,cX,ny,qZ,il,pT,fW,fX,eN,I,J]
 ·have J: ∀lh,Ev.stV lh [⟨1,.cells [x0,x1,x2,x3,x4,x5,x6,jo,r,MM,.nilsl,.nilsl,.nilsl,.i .i64 0] 0 true⟩,⟨1,.cells sn 0 true⟩,e,f,⟨1,.cells [a,b,c,d] 0 false⟩] (.ptr .S 0 1 10) (.isl .S 4 1 0 1 4) 1=some (lh,[⟨1,.cells [x0,x1,x2,x3,x4,x5,x6,jo,r,MM,.isl .S 4 1 0 1 4,.nilsl,.nilsl,.i .i64 0] 0 true⟩,⟨1,.cells sn 0 true⟩,e,f,⟨1,.cells [a,b,c,d] 0 false⟩]):=fun lh=>by
   rw[iL (by rfl) (by rfl),dD,if_pos ⟨rfl,rfl,rfl,Nat.zero_le _,by simp⟩]
   rfl
  simp(maxDischargeDepth:=6) only[qA,eh,bp,gv,aJ,seval,repl,p0,p2,Kn,Y,F,H,e1,e2,e3,e4,W,DU,Fx,X,O,y1,y2,y3,y4,uq,ur,uu,cF,dk,aP,cw,cX,ny,qZ,il,pT,fW,fX,eN,I,J]
def Pv(l:List Nat)(s D:List ah):Prop:= ∃r a u,∃n:Nat,ae pE 78 [.s l] []=some (.tup [r,a,.i .i64 0],u)∧lenI r=some (.i .i64 ((n+1:Nat):Int))∧froz r=true∧ae pE 79 [.ptr .S 0 1 0,.ptr .S 1 1 0,r] s=some (.i .i64 0,D)
def vV:List (List Nat)→List ah→List ah→Prop
 | [],s,r=>r=s
 |l::D,s,r=> ∃m,Pv l s m∧vV D m r
theorem rz: ∀{a b:List (List Nat)} {s m r:List ah},vV a s m→vV b m r→vV (a++b) s r
 | [],_,_,_,_,h1,h2=>by rw[vV]at h1;subst h1;exact h2
 |l::a,_,_,_,_,⟨q,h0,h1⟩,h2=>⟨q,h0,rz h1 h2⟩
theorem aHF(v:T)(r:List (List Nat))(D:IsSl v r.length (strs r))(hb:r.length<1000000)(s2:List ah)(fr:Fr)(lh:aB ah)(sh:List ah)(hs:vV r sh s2)(h5:aa fr 5=v)(H:aa fr 7= .ptr .S 0 1 0)(I:aa fr 8= .ptr .S 1 1 0)(J:aa fr 9= .i .i64 0):
  Lp pE 61 Az fr lh sh (.ext 0) fun f l s=>s=s2∧l=lh:=by
 refine bV aaO (fun k f l s=>aa f 9= .i .i64 (k:Int)∧l=lh∧vV (r.drop k) s s2) r.length ⟨J,rfl,hs⟩ ?_ ?_
 ·rintro k f _ s hk F ⟨g9,rfl,hs⟩
  have O:(k:Int)<r.length:=zO
  have U:=aI (k:=k) zO
  rw[List.drop_eq_getElem_cons hk]at hs
  obtain⟨s',⟨V,a,u,n,W,X,Y,Z⟩,hs⟩:=hs
  obtain⟨q,aQ⟩:=vU D k hk
  have wJ:(0:Int)<((n+1:Nat):Int):=zO
  simp(maxDischargeDepth:=6) only[qA,eh,seval,gd,Az,F,h5,H,I,g9,D.lenI,O,aQ,W,X,Y,Z,wJ,U,hs,aDq,aDr]
 ·rintro f _ s F ⟨g9,rfl,hs⟩
  rw[List.drop_length,vV]at hs
  subst hs
  simp only[qA,seval,gd,Az,F,h5,g9,D.lenI,Int.lt_irrefl]
theorem nF: ∀(cs r:List T),r.length=cs.length→splice cs 0 r=r
 | [],[],_=>by simp[splice]
 | [],v::r,h=>by simp at h
 |c::cs,[],h=>by simp at h
 |c::cs,v::r,h=>by simp[splice,nF cs r (by simpa using h)]
def iZ(n:Int):T:= .i .i64 n
def kS0:List ah:=sL [iZ 0,iZ 0,iZ 0,iZ 1440,iZ 2880,iZ 0,iZ 0] .nilsl [.b false,.b false,.b false,.b false,.b false,.b false,.b false]
theorem aaP(r:List (List Nat))(hx:aay (lp r))(U: ∀l∈r,10∉l)(hl:r.length≤1000)(rc cs:List T)(F:List ah)(H:rc.length=14)
  (I: ∀q lh,∃us,tw q lh (⟨1,.cells rc 0 true⟩::F) false rc=some (cs,us))
  (hs:vV r kS0 (⟨1,.cells rc 0 true⟩::F)) (s':List ah) (J:ae pE 80 [.agg cs] []=some (.i .i64 0,s')):
  ∃V,ae pE 47 [.s (lp r)] []=some (.tup [.agg cs,.i .i64 0,.i .i64 0],V):=by
 have W:=aaB r hx U hl
 have hv:IsSl (cE r.length (strs r)) r.length (strs r):=hZ fun h=>by
  rw[List.length_eq_zero_iff.1 h];rfl
 have O:=fun fr lh=>aHF (cE r.length (strs r)) r hv zO _ fr lh _ hs
 have hz1:=hv.froz1
 unfold kS0 sL iZ at O
 simp only[List.cons_append,List.nil_append]at O
 have Af:rc.take 14=rc:=by rw[←H];exact List.take_length
 have X:=nF [T.i IntKind.i64 0,T.i IntKind.i64 0,T.i IntKind.i64 0,T.i IntKind.i64 0,T.i IntKind.i64 0,T.i IntKind.i64 0,T.i IntKind.i64 0,T.nilsl,T.nilsl,T.nilsl,T.nilsl,T.nilsl,T.nilsl,T.i IntKind.i64 0] rc (by rw[H];rfl)
 obtain⟨us,Y⟩: ∃us:Nat→aB ah→List Up,∀q lh,tw q lh (⟨1,.cells rc 0 true⟩::F) false rc=some (cs,us q lh):=⟨fun q lh=>(I q lh).choose,fun q lh=>(I q lh).choose_spec⟩
 rw[an auh (by simp[c47])]
 generalize lp r=tx at*
 generalize cE r.length (strs r)=v at*
 simp(maxDischargeDepth:=6) only[qA,eh,seval,c47,W,aDo]
 generalize hD:DC pE 61 (.loop Az) _=D
 obtain⟨f2,l2,s2,rfl,⟨rfl,rfl⟩,Z⟩:=sZ aaO hD (O _ _ wL wL wL wL)
 have p2:aa f2 2= .ptr .L 2 1 0:=by rw[Z 2 yv];simp only[qA,seval]
 have p7:aa f2 7= .ptr .S 0 1 0:=by rw[Z 7 yv];simp only[qA,seval]
 clear Z hD O
 simp(maxDischargeDepth:=6) only[qA,eh,seval,p2,p7,J,aDs,H,Af,X,Y]
 exact⟨_,rfl⟩
theorem MQ(x:Ex):jI x (kz x):=rfl
theorem vW(x:Ex): ∃d,kz x= [.i .i64 x.op,.i .i64 x.num,.s x.name,d]∧froz1 d=true:=by
 cases x with
 |mk op n s a=>
  cases a with
  |nil=>exact⟨.nilsl,by rw[kz];rfl,rfl⟩
  |cons b r=>exact⟨_,by rw[kz];rfl,rfl⟩
def Hc(u:Ru):List T:= .i .i64 u.sc:: .s u.nm::kz u.x
def KU(u:Co):List T:= .i .i64 u.sc::kz u.x
theorem an7(u:Ru):Ri u (Hc u):=by
 obtain⟨a,r,e,h1,_⟩:=(MQ u.x).cells
 exact⟨a,r,by unfold Hc;rw[e],h1,e.symm⟩
theorem an8(u:Co):XZ u (KU u):=by
 obtain⟨a,r,e,h1,_⟩:=(MQ u.x).cells
 exact⟨a,r,by unfold KU;rw[e],h1,e.symm⟩
theorem Ko: ∀l:List Ru,aA Ri l (l.flatMap Hc)
 | []=>rfl
 |u::l=>⟨_,_,rfl,an7 u,Ko l⟩
theorem Kp: ∀l:List Co,aA XZ l (l.flatMap KU)
 | []=>rfl
 |u::l=>⟨_,_,rfl,an8 u,Kp l⟩
theorem sR: ∀l∈nP,ScK l:=td 6 s3 (td 6 s4 s5)
theorem eR: ∀l∈ruX,PaK 4 l:=td 6 e1 (td 6 e2 e3)
theorem sKo: ∀l∈nR++sI,ScK l:=td 7 s6 s7
theorem eKo: ∀l∈koX,PaK 3 l:=td 8 e4 e5
def CD:List (List Nat):=hls++nP++nR++sI
theorem an9: ∀l∈CD,(tok l).length=(tok l).length/4*4∧0<(tok l).length/4∧(tok l).length/4≤1000:=by decide+kernel
theorem aaQ:(∀l∈nP,4≤(tok l).length/4)∧ ∀l∈nR++sI,3≤(tok l).length/4:=by decide+kernel
theorem lnk{l:List Nat}(D:l∈CD)(h:ScK l){s r:List ah}(F:ae pE 79 [.ptr .S 0 1 0,.ptr .S 1 1 0,sJ 0 l] s=some (.i .i64 0,r)):Pv l s r:=by
 obtain⟨u,H⟩:=h
 obtain⟨_,h2,_⟩:=an9 l D
 refine⟨_,_,u,(tok l).length/4-1,H, ?_,rfl,F⟩
 show some (T.i .i64 (((tok l).length/4-0:Nat):Int))=_
 rw[show(tok l).length/4-0=(tok l).length/4-1+1 by omega]
def scW(s:Int):List Nat:=if s=1 then [100,117,116,121]else if s=2 then [114,101,115,116]else [112,97,105,114,105,110,103]
theorem aaS{s:Int}(h:s=1∨s=2∨s=3):Hb (scW s)=s∧(scW s= [100,117,116,121]∨scW s= [114,101,115,116]∨scW s= [112,97,105,114,105,110,103]):=by
 rcases h with rfl|rfl|rfl <;> decide
def hdR(u:Ru):List T:=S9 1 (scW u.sc) 0 0++S9 1 [114,117,108,101] 0 ((scW u.sc).length+1)++S9 1 u.nm 0 ((scW u.sc).length+6)++S9 1 [105,115] 0 ((scW u.sc).length+7+u.nm.length)
def hdK(s:Int)(w:List Nat):List T:=S9 1 (scW s) 0 0++S9 1 w 0 ((scW s).length+1)++S9 1 [105,115] 0 ((scW s).length+2+w.length)
theorem tkR:(nP.map fun l=>(tok l).take 16)=qo.map hdR:=by kernel_rfl
theorem tkK:(nR.map fun l=>(tok l).take 12)=tC.map fun u=>hdK u.sc [99,111,115,116]:=by kernel_rfl
theorem tkC:(sI.map fun l=>(tok l).take 12)=sI.map fun _=>hdK 1 [99,114,101,100,105,116]:=by kernel_rfl
theorem MR{α β γ:Type}{L:List α}{M:List β}{f:α→γ}{g:β→γ}(h:L.map f=M.map g)(i:Nat)(h1:i<L.length)(h2:i<M.length):f L[i]=g M[i]:=by
 have:=congrArg (fun l=>l[i]?) h
 simpa[List.getElem?_eq_getElem,h1,h2]using this
theorem Kq{α β γ:Type}{A:List α}{B:List β}(f:β→γ)(i:Nat)(h1:i<A.length)(h2:i<B.length):(A[i],f B[i])∈A.zip (B.map f):=List.mem_iff_getElem.2 ⟨i,by rw[List.length_zip,List.length_map];omega,by simp⟩
theorem aaT{α β:Type}{A:List α}{B:List β}(i:Nat)(h1:i<A.length)(h2:i<B.length):(A[i],B[i])∈A.zip B:=List.mem_iff_getElem.2 ⟨i,by rw[List.length_zip];omega,by simp⟩
theorem aoa: ∀u∈qo,(u.sc=1∨u.sc=2∨u.sc=3)∧jB u.nm=true:=by decide+kernel
theorem aob: ∀u∈tC,u.sc=1∨u.sc=2∨u.sc=3:=by decide+kernel
theorem DA{l:List Nat}(F:l∈CD){a:List T}{m i:Nat}(H:(tok l).take m=a){s:List Nat}{r:List T}{N:Int}(h:a.drop (i*4)= .i .i64 1:: .s s:: .i .i64 N::r)(hi:i<(tok l).length/4):Tk (sJ 0 l) ((tok l).length/4) i 1 s N:=by
 obtain⟨h1,_,h3⟩:=an9 l F
 refine Tk.of (tok l) _ i 1 s N (r++(tok l).drop m) hi h3 h1 ?_
 have e:=List.take_append_drop m (tok l)
 rw[H]at e
 have D:i*4≤a.length:=by
  refine Nat.le_of_not_lt fun I=> ?_
  rw[List.drop_eq_nil_of_le zO]at h
  cases h
 have e2:(tok l).drop (i*4)=(a++(tok l).drop m).drop (i*4):=by rw[e]
 rw[e2,List.drop_append_of_le_length D,h]
 rfl
theorem Hd{l:List Nat}(r:l∈CD)(k:Nat)(hk:k≤(tok l).length/4):lF (sJ 0 l)=some ((tok l).length/4)∧tu 4 (sJ 0 l) k ((tok l).length/4)=some (sJ k l):=by
 obtain⟨h1,_,_⟩:=an9 l r
 refine⟨rfl, ?_⟩
 have h3:((tok l).drop (k*4)).take (((tok l).length/4-k)*4)=(tok l).drop (k*4):=List.take_of_length_le (by rw[List.length_drop,Nat.sub_mul];omega)
 show tu 4 (.sl (tok l) _ false) k _=_
 unfold sJ
 simp[tu,hk,←h1,h3]
theorem aoc{l:List Nat}(h:l∈nP):l∈CD:=by unfold CD;simp[h]
theorem mem_co{l:List Nat}(h:l∈nR):l∈CD:=by unfold CD;simp[h]
theorem aod{l:List Nat}(h:l∈sI):l∈CD:=by unfold CD;simp[h]
theorem aHG(x0 x1 x2 x3 x4 x5 x6 jo:T)(sn:List T)(i:Nat)(hi:i<18)(n:Nat)(J:n≤100)(cs:List T)(F:cs.length=n*6):Pv (nP[i]'hi) (stR [x0,x1,x2,x3,x4,x5,x6] jo sn n cs) (stR [x0,x1,x2,x3,x4,x5,x6] jo sn (n+1) (cs++Hc (qo[i]'hi))):=by
 have H:nP[i]'hi∈nP:=List.getElem_mem hi
 have r:=aoc H
 have D:=MR tkR i hi hi
 have h4:=aaQ.1 _ H
 obtain⟨O,BT⟩:=aoa _ (List.getElem_mem (h:=hi))
 obtain⟨s,I⟩:=eR (nP[i]'hi,(qo[i]'hi).x) (Kq (A:=nP) (B:=qo) Ru.x i hi hi)
 obtain⟨d,e4,U⟩:=vW (qo[i]'hi).x
 rw[show(nP[i]'hi,(qo[i]'hi).x).2=(qo[i]'hi).x from rfl,e4]at I
 obtain⟨V,W⟩:=aaS O
 obtain⟨X,Y⟩:=Hd r 4 h4
 refine lnk r (sR _ H) ?_
 have h:=aHB x0 x1 x2 x3 x4 x5 x6 jo sn n J cs F _ _ _ _ _ _ _ _ (DA r (i:=0) D rfl zO) (DA r (i:=1) D rfl zO) (DA r (i:=2) D rfl zO) (DA r (i:=3) D rfl zO) W BT _ X Y rfl _ _ _ _ ⟨rfl,rfl,rfl,U⟩ s I
 rw[V]at h
 unfold Hc
 rw[e4]
 exact h
theorem aHH(x0 x1 x2 x3 x4 x5 x6 jo D:T)(sn:List T)(P:List ah)(O:P.length≤1)(i:Nat)(hi:i<10)(n:Nat)(U:n≤100)(cs:List T)(F:cs.length=n*5):Pv (nR[i]'hi) (stK [x0,x1,x2,x3,x4,x5,x6] jo D sn P n cs) (stK [x0,x1,x2,x3,x4,x5,x6] jo D sn P (n+1) (cs++KU (tC[i]'hi))):=by
 have H:nR[i]'hi∈nR:=List.getElem_mem hi
 have r:=mem_co H
 have I:=MR tkK i hi hi
 have h4:=aaQ.2 _ (List.mem_append_left _ H)
 have V:=aob _ (List.getElem_mem (h:=hi))
 obtain⟨s,J⟩:=eKo (nR[i]'hi,(tC[i]'hi).x) (List.mem_append_left _ (List.mem_append_left _ (Kq (A:=nR) (B:=tC) Co.x i hi hi)))
 obtain⟨d,e4,W⟩:=vW (tC[i]'hi).x
 rw[show(nR[i]'hi,(tC[i]'hi).x).2=(tC[i]'hi).x from rfl,e4]at J
 obtain⟨X,Y⟩:=aaS V
 obtain⟨Z,b2⟩:=Hd r 3 h4
 refine lnk r (sKo _ (List.mem_append_left _ H)) ?_
 have h:=aHD x0 x1 x2 x3 x4 x5 x6 jo D sn P O n U cs F _ _ _ _ _ _ (DA r (i:=0) I rfl zO) (DA r (i:=1) I rfl zO) (DA r (i:=2) I rfl zO) Y _ Z b2 rfl _ _ _ _ ⟨rfl,rfl,rfl,W⟩ s J
 rw[X]at h
 unfold KU
 rw[e4]
 exact h
theorem azG(x0 x1 x2 x3 x4 x5 x6 jo D MM:T)(sn:List T)(P:List ah)(J:P.length≤2)(i:Nat)(hi:i<3):Pv (sI[i]'hi) (stC [x0,x1,x2,x3,x4,x5,x6] jo D MM sn P []) (stC [x0,x1,x2,x3,x4,x5,x6] jo D MM sn P (kz (D9[i]'hi))):=by
 have F:sI[i]'hi∈sI:=List.getElem_mem hi
 have r:=aod F
 have H:=MR tkC i hi hi
 have h4:=aaQ.2 _ (List.mem_append_right _ F)
 obtain⟨s,I⟩:=eKo (sI[i]'hi,D9[i]'hi) (List.mem_append_left _ (List.mem_append_right _ (aaT (A:=sI) (B:=D9) i hi hi)))
 obtain⟨d,e4,O⟩:=vW (D9[i]'hi)
 rw[show(sI[i]'hi,D9[i]'hi).2=D9[i]'hi from rfl,e4]at I
 obtain⟨U,V⟩:=Hd r 3 h4
 refine lnk r (sKo _ (List.mem_append_right _ F)) ?_
 rw[e4]
 exact aHE x0 x1 x2 x3 x4 x5 x6 jo D MM sn P J _ _ _ _ _ (DA r (i:=0) H rfl zO) (DA r (i:=1) H rfl zO) (DA r (i:=2) H rfl zO) _ U V rfl _ _ _ _ ⟨rfl,rfl,rfl,O⟩ s I
theorem dH(f:Nat)(L:List Nat)(g:Nat→List T)(s r:Nat→List ah)(h:(L.map fun x=>NN pE 1000 f (g x) (s x))=L.map fun x=>some (.i .i64 0,r x)): ∀x∈L,ae pE f (g x) (s x)=some (.i .i64 0,r x):=fun x hx=>DCall_iff.2 ⟨1000,List.map_inj_left.1 h x hx⟩
theorem hK(i:Nat)(hi:i<7)(j:Nat)(F:j≤2){s r:List ah}(h:ae pE 79 [.ptr .S 0 1 0,.ptr .S 1 1 0,sJ 0 (jY i j)] s=some (.i .i64 0,r)):Pv (jY i j) s r:=by
 have D:jY i j∈hls:=List.mem_flatMap.2 ⟨i,List.mem_range.2 hi,by
  have:j=0∨j=1∨j=2:=zO
  rcases this with rfl|rfl|rfl <;> simp⟩
 exact lnk (by unfold CD;simp[D]) (s2 _ D) h
theorem m3{j:Nat}(h:j≤2):j∈ [0,1,2]:=by
 have:j=0∨j=1∨j=2:=zO
 simpa using this
theorem h0(x0 x1 x2 x3 x4 x5 x6:T)(j:Nat)(r:j≤2):Pv (jY 0 j) (sL [x0,x1,x2,x3,x4,x5,x6] .nilsl [.b false,.b false,.b false,.b false,.b false,.b false,.b false]) (sL [.i .i64 (rpB j),x1,x2,x3,x4,x5,x6] .nilsl [.b true,.b false,.b false,.b false,.b false,.b false,.b false]):=hK 0 zO j r (dH 79 [0,1,2] (fun j=> [.ptr .S 0 1 0,.ptr .S 1 1 0,sJ 0 (jY 0 j)]) (fun _=>sL [x0,x1,x2,x3,x4,x5,x6] .nilsl [.b false,.b false,.b false,.b false,.b false,.b false,.b false]) (fun j=>sL [.i .i64 (rpB j),x1,x2,x3,x4,x5,x6] .nilsl [.b true,.b false,.b false,.b false,.b false,.b false,.b false]) (by kernel_rfl) j (m3 r))
theorem h1(x0 x1 x2 x3 x4 x5 x6:T)(j:Nat)(r:j≤2):Pv (jY 1 j) (sL [x0,x1,x2,x3,x4,x5,x6] .nilsl [.b true,.b false,.b false,.b false,.b false,.b false,.b false]) (sL [x0,.i .i64 (rlB j),x2,x3,x4,x5,x6] .nilsl [.b true,.b true,.b false,.b false,.b false,.b false,.b false]):=hK 1 zO j r (dH 79 [0,1,2] (fun j=> [.ptr .S 0 1 0,.ptr .S 1 1 0,sJ 0 (jY 1 j)]) (fun _=>sL [x0,x1,x2,x3,x4,x5,x6] .nilsl [.b true,.b false,.b false,.b false,.b false,.b false,.b false]) (fun j=>sL [x0,.i .i64 (rlB j),x2,x3,x4,x5,x6] .nilsl [.b true,.b true,.b false,.b false,.b false,.b false,.b false]) (by kernel_rfl) j (m3 r))
theorem h2(x0 x1 x2 x3 x4 x5 x6:T)(j:Nat)(r:j≤2):Pv (jY 2 j) (sL [x0,x1,x2,x3,x4,x5,x6] .nilsl [.b true,.b true,.b false,.b false,.b false,.b false,.b false]) (sL [x0,x1,.i .i64 (S8 j),x3,x4,x5,x6] .nilsl [.b true,.b true,.b true,.b false,.b false,.b false,.b false]):=hK 2 zO j r (dH 79 [0,1,2] (fun j=> [.ptr .S 0 1 0,.ptr .S 1 1 0,sJ 0 (jY 2 j)]) (fun _=>sL [x0,x1,x2,x3,x4,x5,x6] .nilsl [.b true,.b true,.b false,.b false,.b false,.b false,.b false]) (fun j=>sL [x0,x1,.i .i64 (S8 j),x3,x4,x5,x6] .nilsl [.b true,.b true,.b true,.b false,.b false,.b false,.b false]) (by kernel_rfl) j (m3 r))
theorem h3(x0 x1 x2 x3 x4 x5 x6:T)(j:Nat)(r:j≤2):Pv (jY 3 j) (sL [x0,x1,x2,x3,x4,x5,x6] .nilsl [.b true,.b true,.b true,.b false,.b false,.b false,.b false]) (sL [x0,x1,x2,.i .i64 (FT j),x4,x5,x6] .nilsl [.b true,.b true,.b true,.b true,.b false,.b false,.b false]):=hK 3 zO j r (dH 79 [0,1,2] (fun j=> [.ptr .S 0 1 0,.ptr .S 1 1 0,sJ 0 (jY 3 j)]) (fun _=>sL [x0,x1,x2,x3,x4,x5,x6] .nilsl [.b true,.b true,.b true,.b false,.b false,.b false,.b false]) (fun j=>sL [x0,x1,x2,.i .i64 (FT j),x4,x5,x6] .nilsl [.b true,.b true,.b true,.b true,.b false,.b false,.b false]) (by kernel_rfl) j (m3 r))
theorem h4(x0 x1 x2 x3 x4 x5 x6:T)(j:Nat)(r:j≤2):Pv (jY 4 j) (sL [x0,x1,x2,x3,x4,x5,x6] .nilsl [.b true,.b true,.b true,.b true,.b false,.b false,.b false]) (sL [x0,x1,x2,x3,.i .i64 (lyB j),x5,x6] .nilsl [.b true,.b true,.b true,.b true,.b true,.b false,.b false]):=hK 4 zO j r (dH 79 [0,1,2] (fun j=> [.ptr .S 0 1 0,.ptr .S 1 1 0,sJ 0 (jY 4 j)]) (fun _=>sL [x0,x1,x2,x3,x4,x5,x6] .nilsl [.b true,.b true,.b true,.b true,.b false,.b false,.b false]) (fun j=>sL [x0,x1,x2,x3,.i .i64 (lyB j),x5,x6] .nilsl [.b true,.b true,.b true,.b true,.b true,.b false,.b false]) (by kernel_rfl) j (m3 r))
theorem h5(x0 x1 x2 x3 x4 x5 x6:T)(j:Nat)(r:j≤2):Pv (jY 5 j) (sL [x0,x1,x2,x3,x4,x5,x6] .nilsl [.b true,.b true,.b true,.b true,.b true,.b false,.b false]) (sL [x0,x1,x2,x3,x4,.i .i64 (nfB j),.i .i64 (ntB j)] .nilsl [.b true,.b true,.b true,.b true,.b true,.b false,.b true]):=hK 5 zO j r (dH 79 [0,1,2] (fun j=> [.ptr .S 0 1 0,.ptr .S 1 1 0,sJ 0 (jY 5 j)]) (fun _=>sL [x0,x1,x2,x3,x4,x5,x6] .nilsl [.b true,.b true,.b true,.b true,.b true,.b false,.b false]) (fun j=>sL [x0,x1,x2,x3,x4,.i .i64 (nfB j),.i .i64 (ntB j)] .nilsl [.b true,.b true,.b true,.b true,.b true,.b false,.b true]) (by kernel_rfl) j (m3 r))
theorem h6(x0 x1 x2 x3 x4 x5 x6:T)(j:Nat)(r:j≤2):Pv (jY 6 j) (sL [x0,x1,x2,x3,x4,x5,x6] .nilsl [.b true,.b true,.b true,.b true,.b true,.b false,.b true]) (sL [x0,x1,x2,x3,x4,x5,x6] (.sl (.s yl::kz (oO j)) 1 false) [.b true,.b true,.b true,.b true,.b true,.b false,.b true]):=hK 6 zO j r (dH 79 [0,1,2] (fun j=> [.ptr .S 0 1 0,.ptr .S 1 1 0,sJ 0 (jY 6 j)]) (fun _=>sL [x0,x1,x2,x3,x4,x5,x6] .nilsl [.b true,.b true,.b true,.b true,.b true,.b false,.b true]) (fun j=>sL [x0,x1,x2,x3,x4,x5,x6] (.sl (.s yl::kz (oO j)) 1 false) [.b true,.b true,.b true,.b true,.b true,.b false,.b true]) (by kernel_rfl) j (m3 r))
def KT(b:Nat→Int):List T:= [.i .i64 (rpB (kB b 0)),.i .i64 (rlB (kB b 1)),.i .i64 (S8 (kB b 2)),.i .i64 (FT (kB b 3)),.i .i64 (lyB (kB b 4)),.i .i64 (nfB (kB b 5)),.i .i64 (ntB (kB b 5))]
def Ta(b:Nat→Int):T:= .sl (.s yl::kz (oO (kB b 6))) 1 false
def snU:List T:= [.b true,.b true,.b true,.b true,.b true,.b false,.b true]
theorem aoe(b:Nat→Int):vV (hdB b) kS0 (sL (KT b) (Ta b) snU):=by
 have e: ∀i,b i%3=(kB b i:Int):=fun i=>by unfold kB;omega
 unfold hdB kS0
 rw[e 0,e 1,e 2,e 3,e 4,e 5,e 6]
 exact⟨_,h0 _ _ _ _ _ _ _ _ (rq b 0),_,h1 _ _ _ _ _ _ _ _ (rq b 1),_,h2 _ _ _ _ _ _ _ _ (rq b 2),_,h3 _ _ _ _ _ _ _ _ (rq b 3),_,h4 _ _ _ _ _ _ _ _ (rq b 4),_,h5 _ _ _ _ _ _ _ _ (rq b 5),_,h6 _ _ _ _ _ _ _ _ (rq b 6),rfl⟩
theorem MS{α:Type}(L:List (List Nat))(X:List α)(f:α→List T)(sz:Nat)(St:Nat→List T→List ah)(r: ∀x,(f x).length=sz)(D:L.length=X.length)(F:X.length≤50)
  (Hy: ∀(i:Nat) (h1:i<L.length) (h2:i<X.length) (n:Nat),n≤100→ ∀cs:List T,cs.length=n*sz→Pv L[i] (St n cs) (St (n+1) (cs++f X[i]))) (p:Nat→Bool): ∀k,k≤L.length→vV (dr p 0 (L.take k)) (St 0 []) (St (dr p 0 (X.take k)).length ((dr p 0 (X.take k)).flatMap f))
 |0,_=>by simp[dr,vV]
 |k+1,hk=>by
  have ih:=MS L X f sz St r D F Hy p k zO
  rw[sr p L k zO,sr p X k zO]
  have jY:(dr p 0 (X.take k)).length≤k:=by
   have:=(dU p 0 (X.take k)).length_le
   rw[List.length_take]at this
   omega
  refine rz ih ?_
  by_cases h:p k=true
  ·rw[if_pos h,if_pos h,List.length_append,List.length_singleton,List.flatMap_append,List.flatMap_cons,List.flatMap_nil,List.append_nil]
   exact⟨_,Hy k zO zO _ zO _ (jA r _),rfl⟩
  ·rw[if_neg h,if_neg h,List.append_nil]
   exact rfl
def An(n:Nat)(cs:List T):List ah:=if n=0 then []else [⟨n,.cells cs 0 false⟩]
def slR(n:Nat):T:=if n=0 then .nilsl else .isl .S 2 n 0 n 6
def slK(k n:Nat):T:=if n=0 then .nilsl else .isl .S k n 0 n 5
theorem agf(r:List T)(jo:T)(sn:List T)(n:Nat)(cs:List T):stR r jo sn n cs=stK r jo (slR n) sn (An n cs) 0 []:=by
 unfold stR stK slR An
 simp
theorem agh(r:List T)(jo D:T)(sn:List T)(P:List ah)(n:Nat)(cs:List T):stK r jo D sn P n cs=stC r jo D (slK (2+P.length) n) sn (P++An n cs) []:=by
 unfold stK stC slK An
 simp
theorem agi(r:List T)(jo:T)(sn:List T):sL r jo sn=stR r jo sn 0 []:=by
 unfold sL stR
 simp
def azH(b:Nat→Int):List ah:=
 stC (KT b) (Ta b) (slR (ln b).ru.length) (slK (2+(An (ln b).ru.length ((ln b).ru.flatMap Hc)).length) (ln b).co.length) snU (An (ln b).ru.length ((ln b).ru.flatMap Hc)++An (ln b).co.length ((ln b).co.flatMap KU)) ((ln b).cr.flatMap kz)
theorem aog(b:Nat→Int):vV (Sw b) kS0 (azH b):=by
 unfold Sw
 have h0:=aoe b
 have h1:=MS nP qo Hc 6 (stR (KT b) (Ta b) snU) (fun u=>by unfold Hc;rw[List.length_cons,List.length_cons,pD]) rfl yv (fun i h1 _ n D cs r=>aHG _ _ _ _ _ _ _ _ _ i h1 n D cs r) (Ak b) 18 yv
 have e1:nP.take 18=nP:=rfl
 have e2:qo.take 18=qo:=rfl
 rw[e1,e2,agf _ _ _ (dr (Ak b) 0 qo).length]at h1
 rw[agi]at h0
 have H:(An (dr (Ak b) 0 qo).length ((dr (Ak b) 0 qo).flatMap Hc)).length≤1:=by unfold An;split <;> simp
 have h2:=MS nR tC KU 5 (stK (KT b) (Ta b) (slR (dr (Ak b) 0 qo).length) snU (An (dr (Ak b) 0 qo).length ((dr (Ak b) 0 qo).flatMap Hc))) (fun u=>by unfold KU;rw[List.length_cons,pD]) rfl yv (fun i h1 _ n D cs r=>aHH _ _ _ _ _ _ _ _ _ _ _ H i h1 n D cs r) (G6 b) 10 yv
 have e3:nR.take 10=nR:=rfl
 have e4:tC.take 10=tC:=rfl
 rw[e3,e4,agh _ _ _ _ _ (dr (G6 b) 0 tC).length]at h2
 refine rz (rz (rz h0 h1) h2) ?_
 have F:(An (dr (Ak b) 0 qo).length ((dr (Ak b) 0 qo).flatMap Hc)++An (dr (G6 b) 0 tC).length ((dr (G6 b) 0 tC).flatMap KU)).length≤2:=by
  have:(An (dr (G6 b) 0 tC).length ((dr (G6 b) 0 tC).flatMap KU)).length≤1:=by unfold An;split <;> simp
  rw[List.length_append];omega
 show vV (crD b) _ (stC (KT b) (Ta b) (slR (dr (Ak b) 0 qo).length) (slK (2+(An (dr (Ak b) 0 qo).length ((dr (Ak b) 0 qo).flatMap Hc)).length) (dr (G6 b) 0 tC).length) snU (An (dr (Ak b) 0 qo).length ((dr (Ak b) 0 qo).flatMap Hc)++An (dr (G6 b) 0 tC).length ((dr (G6 b) 0 tC).flatMap KU)) ((crX b).flatMap kz))
 unfold crD crX
 by_cases h:b 41%4<3
 ·rw[if_pos h,if_pos h,List.flatMap_cons,List.flatMap_nil,List.append_nil]
  refine⟨_, ?_,rfl⟩
  have h3:(b 41%4).toNat<3:=zO
  rw[show sI.getD (b 41%4).toNat []=sI[(b 41%4).toNat]'h3 from by rw[List.getD_eq_getElem?_getD,List.getElem?_eq_getElem h3];rfl,show D9.getD (b 41%4).toNat (.mk 1 2 [] [])=D9[(b 41%4).toNat]'h3 from by rw[List.getD_eq_getElem?_getD,List.getElem?_eq_getElem h3];rfl]
  exact azG _ _ _ _ _ _ _ _ _ _ _ _ F _ h3
 ·rw[if_neg h,if_neg h]
  exact rfl
def Kr(n:Nat)(cs:List T):T:=if n=0 then .nilsl else .sl cs n false
theorem aoh(x0 x1 x2 x3 x4 x5 x6 jo:T)(sn:List T)(hx:froz1 x0=true∧froz1 x1=true∧froz1 x2=true∧froz1 x3=true∧froz1 x4=true∧froz1 x5=true∧froz1 x6=true∧froz1 jo=true)(n m:Nat)(rs ks cr:List T)(hr:rs.length=n*6)(hk:ks.length=m*5)(hc:cr= []∨cr.length=4)(q:Nat)(lh:aB ah):
  ∃us,tw q lh (stC [x0,x1,x2,x3,x4,x5,x6] jo (slR n) (slK (2+(An n rs).length) m) sn (An n rs++An m ks) cr) false [x0,x1,x2,x3,x4,x5,x6,jo,slR n,slK (2+(An n rs).length) m,if cr= []then .nilsl else .isl .S (2+(An n rs++An m ks).length) 1 0 1 4,.nilsl,.nilsl,.i .i64 0]=some ([x0,x1,x2,x3,x4,x5,x6,jo,Kr n rs,Kr m ks,Kr (if cr= []then 0 else 1) cr,.nilsl,.nilsl,.i .i64 0],us):=by
 obtain⟨V,W,X,Y,Z,y5,y6,y7⟩:=hx
 unfold stC slR slK An Kr
 have F:cr≠ []→cr.length=1*4:=fun h=>by rw[hc.resolve_left h]
 have eR:=fun C D t=>yu (m:=q) (lh:=lh) (s:=C::D::⟨n,.cells rs 0 false⟩::t) (k:=2) rfl hr
 have H:=fun C D t=>yu (m:=q) (lh:=lh) (s:=C::D::⟨m,.cells ks 0 false⟩::t) (k:=2) rfl hk
 have I:=fun C D r t=>yu (m:=q) (lh:=lh) (s:=C::D::r::⟨m,.cells ks 0 false⟩::t) (k:=3) rfl hk
 have J:=fun h C D t=>yu (m:=q) (lh:=lh) (s:=C::D::⟨1,.cells cr 0 false⟩::t) (k:=2) rfl (F h)
 have O:=fun h C D r t=>yu (m:=q) (lh:=lh) (s:=C::D::r::⟨1,.cells cr 0 false⟩::t) (k:=3) rfl (F h)
 have U:=fun h C D r r' t=>yu (m:=q) (lh:=lh) (s:=C::D::r::r'::⟨1,.cells cr 0 false⟩::t) (k:=4) rfl (F h)
 have n1: ¬(1:Nat)=0:=yv
 by_cases hn:n=0 <;> by_cases hm:m=0 <;> by_cases NG:cr= []
 all_goals
  simp only[qA,hn,hm,NG,n1,V,W,X,Y,Z,y5,y6,y7,eR,H,I,J,O,U]
  exact⟨_,rfl⟩
end Go.Proofs.YtcpceiclnbmgiaaGreat
