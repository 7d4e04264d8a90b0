/- Walks of functions of the program and of the reference, and their plain laws, part 32. Conditions: the theorems' own. -/
import Derived.Test.YtcpceiclnbmgiaaGreatM23
import Derived.KernelRfl
set_option maxRecDepth 100000
set_option linter.unusedSimpArgs false
set_option linter.unusedVariables false
set_option maxRecDepth 1000000
set_option maxHeartbeats 16000000
namespace Go.Proofs.YtcpceiclnbmgiaaGreat
open Go Go.Ev
def Tk(v:T)(n i:Nat)(K:Int)(s:List Nat)(N:Int):Prop:=i<n∧n≤1000∧froz v=true∧lenI v=some (.i .i64 (n:Int))∧ ∃r,∀kk,lY v (.i kk (i:Int)) 4=some (.vp (.i .i64 K:: .s s:: .i .i64 N::r))
theorem Tk.of(cs:List T)(n i:Nat)(K:Int)(s:List Nat)(N:Int)(r:List T)(hi:i<n)(D:n≤1000)(F:cs.length=n*4)(h:cs.drop (i*4)= .i .i64 K:: .s s:: .i .i64 N::r):Tk (.sl cs n false) n i K s N:=by
 refine⟨hi,D,rfl,rfl,r,fun kk=> ?_⟩
 rw[oq,if_pos ⟨by omega,by simpa using hi,by rw[F];simp only[Int.toNat_natCast];omega⟩,Int.toNat_natCast,h]
section
variable{v:T}{n i:Nat}{K:Int}{s:List Nat}{N:Int}(h:Tk v n i K s N)
include h
theorem CW(k:Int):be pE 122 [v,.i .i64 (i:Int),.i .i64 k] []=some (.b (decide (K=k)),[]):=by
 obtain⟨I,J,D,F,r,H⟩:=h
 have hi:(i:Int)<n:=by omega
 rw[il aer (by simp[T8])]
 by_cases e:K=k
 all_goals simp(maxDischargeDepth:=6) only[qA,seval,T8,D,F,hi,H,e]
theorem G8(w:List Nat):be pE 125 [v,.i .i64 (i:Int),.s w] []=some (.b (decide (K=1∧s=w)),[]):=by
 obtain⟨J,O,D,F,r,H⟩:=h
 have hi:(i:Int)<n:=by omega
 rw[il aet (by simp[QL])]
 by_cases e:K=1
 ·by_cases I:s=w
  all_goals simp(maxDischargeDepth:=6) only[qA,seval,QL,D,F,hi,H,e,I]
 ·simp(maxDischargeDepth:=6) only[qA,seval,QL,D,F,hi,H,e]
theorem akZ:be pE 124 [v,.i .i64 (i:Int)] []=some (.b (decide (K=1)&&ou s),[]):=by
 have hk:=CW h 1
 obtain⟨J,O,D,F,r,H⟩:=h
 have hi:(i:Int)<n:=by omega
 have I:=qJ s
 rw[il aes (by simp[T9])]
 by_cases e:K=1
 all_goals simp(maxDischargeDepth:=6) only[qA,seval,T9,D,F,hi,H,hk,I,e,sC,Gh]
end
def LN(s:List Nat):Int:=if s= [100,117,116,121]then 1 else if s= [114,101,115,116]then 2 else if s= [112,97,105,114,105,110,103]then 3 else 0
theorem Oe(s:List Nat):be pE 127 [.s s] []=some (.i .i64 (LN s),[]):=by
 rw[il UR (by simp[JP])]
 unfold LN
 by_cases r:s= [100,117,116,121]
 ·simp(maxDischargeDepth:=6) only[qA,seval,JP,r]
 ·by_cases D:s= [114,101,115,116]
  ·simp(maxDischargeDepth:=6) only[qA,seval,JP,r,D]
   rfl
  ·by_cases F:s= [112,97,105,114,105,110,103]
   ·simp(maxDischargeDepth:=6) only[qA,seval,JP,r,D,F]
    rfl
   ·simp(maxDischargeDepth:=6) only[qA,seval,JP,r,D,F]
def Og:List (List Nat):= [[114,101,112,111,114,116],[114,101,108,101,97,115,101],[99,111,110,110,101,99,116],[115,105,116],[108,97,121,111,118,101,114],[103,117,97,114,97,110,116,101,101],[110,105,103,104,116]]
theorem ak0{v:T}{n:Nat}{K:Int}{s:List Nat}{N:Int}(h:Tk v n 0 K s N)(hs:s∉Og)(fr:Fr)(lh:iq b8)(sh:List b8)(H:an fr 2=v)(I:an fr 7= .sl (strs Og) 7 true)(J:an fr 8= .i .i64 0):
  Lp pE 335 uN fr lh sh (.ext 0) fun f l s=>s=sh∧l=lh:=by
 have IV:Og.length=7:=rfl
 have O:IsSl (T.sl (strs Og) 7 true) Og.length (strs Og):= .inr ⟨_,rfl⟩
 obtain⟨_,_,Y,Z,r,D⟩:=h
 have D: ∀kk,lY v (.i kk 0) 4=some (.vp (.i .i64 K:: .s s:: .i .i64 N::r)):=D
 generalize T.sl (strs Og) 7 true=fT at*
 refine ky yc (fun k f l s=>an f 8= .i .i64 (k:Int)∧s=sh∧l=lh) 7 ⟨J,rfl,rfl⟩ ?_ ?_
 ·rintro k f _ _ hk F ⟨g8,rfl,rfl⟩
  have U:(k:Int)<7:=by omega
  have V:=iN (k:=k) (by omega)
  obtain⟨q,W⟩:=zS O k (by omega)
  have X: ¬s=Og[k]:=fun e=>hs (e▸List.getElem_mem _)
  generalize Og[k]=w at*
  simp(maxDischargeDepth:=6) only[qA,jI,sW,iE,seval,gd,uN,F,H,I,g8,U,V,D,W,X]
 ·rintro f _ _ F ⟨g8,rfl,rfl⟩
  have g8:an f 8= .i .i64 7:=g8
  simp only[qA,seval,gd,uN,F,g8,Int.lt_irrefl]
section
variable{E:Env}{call:qa}{n:Nat}{fr:Fr}{lh:iq b8}{sh:List b8}{ds:List (List Nat×dy)}{jN:List FP}{u:List Nat}
theorem adM{x v:iF}{m k g off kk F H len sz:Nat}(hx:rd fr x= .ptr .S k g off)(V:rd fr v= .isl .S kk F H len sz)(MG:tQ (iz sh k)=true):iP E call n ((u,⟨none,.st x v m,none⟩)::ds) jN ⟨fr,lh,sh⟩=
  if meets u jN (Nm (rd fr x))=true then ke E call n ds (jN++ [Nm (rd fr x)]) (eb E call n [⟨none,.st x v m,none⟩] ⟨fr,lh,sh⟩)else none:=by
 refine uC fun J=> ?_
 by_cases O:(decide ((cellsOf (rd fr v)).length≠m)|| !noTup (rd fr v))=true
 ·obtain⟨w,I,hr,r⟩:=wx (q:= .fail) (by rfl) (by rw[lp];simp only[jk,sd,hx];rw[if_pos O]) J
  simp[Q.run]at hr
 ·obtain⟨w,I,hr,r⟩:=wx (q:= .rd .S k (KG k g off m (rd fr v))) (by rfl) (by rw[lp];simp only[jk,sd,hx];rw[if_neg O];rfl) J
  simp only[Q.run,Q.log,Q.asks]at hr r
  have Pk:(St.mk fr lh sh).get .S k=iz sh k:=rfl
  generalize U:(St.mk fr lh sh).get .S k=e at hr r
  rw[←Pk,U]at MG
  obtain⟨W,ob⟩:=e
  unfold KG at hr r
  by_cases D:W=g
  ·cases ob with
   |none=>simp[D,Q.run]at hr
   |map ks Z z=>simp[D,Q.run]at hr
   |cells cs wm bx=>
    have MG:bx=true:=MG
    subst MG
    simp only[D,if_true]at hr r
    split at hr
    ·rename_i hc
     rw[if_pos hc]at r
     have hs:(true&&(Sp.S==Sp.L))=false:=rfl
     have Fy:(true&&(Sp.S==Sp.S))=true:=rfl
     have X:Ev.fz true iG (.isl .S kk F H len sz)= .ret (.isl .S kk F H len sz,[]):=rfl
     rw[hs,Fy,V,X]at hr r
     simp only[Bool.false_eq_true,if_false]at hr r
     simp only[Q.bind]at hr r
     split at hr
     ·simp[Q.run]at hr
     ·rename_i Y
      rw[if_neg Y]at r
      simp[Q.run]at hr
      obtain⟨rfl,rfl⟩:=hr
      rw[r (by simp[Ev.inB,Bu,U]),hx]
      rfl
    ·simp[Q.run]at hr
  ·simp only[D,if_false,Q.run]at hr
   cases hr
def Y0(sh:List b8):T→Bool
 | .ptr .S k _ _=>tQ (iz sh k)
 |_=>false
theorem mr{sh:List b8}{k g off:Nat}:Y0 sh (.ptr .S k g off)=tQ (iz sh k):=nr rfl
def Y1:T→Bool
 | .isl .S .. =>true
 |_=>false
theorem mw{k g off len sz:Nat}:Y1 (.isl .S k g off len sz)=true:=nr rfl
theorem ui{x v:iF}{m:Nat}(hx:Y0 sh (rd fr x)=true)(D:Y1 (rd fr v)=true):iP E call n ((u,⟨none,.st x v m,none⟩)::ds) jN ⟨fr,lh,sh⟩=
  if meets u jN (Nm (rd fr x))=true then ke E call n ds (jN++ [Nm (rd fr x)]) (eb E call n [⟨none,.st x v m,none⟩] ⟨fr,lh,sh⟩)else none:=by
 cases r:rd fr x with
 |ptr sp k g off=>
  cases sp with
  |L=>rw[r]at hx;cases hx
  |S=>
   cases F:rd fr v with
   |isl sp kk H I len sz=>
    cases sp with
    |L=>rw[F]at D;cases D
    |S=>
     rw[r]at hx
     have:=adM (E:=E) (call:=call) (n:=n) (lh:=lh) (ds:=ds) (jN:=jN) (u:=u) (m:=m) r F hx
     rw[this,r]
   |_=>rw[F]at D;cases D
 |_=>rw[r]at hx;cases hx
end
def rh(r:List T)(iY:T)(sn:List T)(n:Nat)(cs:List T):List b8:=
 ⟨1,.cells (r++ [iY,if n=0 then .nilsl else .isl .S 2 n 0 n 6,.nilsl,.nilsl,.nilsl,.nilsl,.i .i64 0]) 0 true⟩::⟨1,.cells sn 0 true⟩::if n=0 then []else [⟨n,.cells cs 0 false⟩]
theorem uJ(x0 x1 x2 x3 x4 x5 x6 iY:T)(sn:List T)(n:Nat)(hn:n≤100)(cs:List T)(I:cs.length=n*6)(v:T)(N:Nat)(r F:List Nat)(N0 N1 N2 N3:Int)(W:Tk v N 0 1 r N0)(h1:Tk v N 1 1 [114,117,108,101] N1)(h2:Tk v N 2 1 F N2)(h3:Tk v N 3 1 [105,115] N3)(X:r= [100,117,116,121]∨r= [114,101,115,116]∨r= [112,97,105,114,105,110,103])(FZ:ou F=true)
  (Y:T) (oF:sF v=some N) (IW:HK 4 v 4 N=some Y) (Hr:froz Y=true) (a b c d:T) (ha:froz1 a=true∧froz1 b=true∧froz1 c=true∧froz1 d=true) (s:List b8) (he:be pE 126 [Y] []=some (.tup [.agg [a,b,c,d],.i .i64 (-1)],s)):
  be pE 79 [.ptr .S 0 1 0,.ptr .S 1 1 0,v] (rh [x0,x1,x2,x3,x4,x5,x6] iY sn n cs)=some (.i .i64 0,rh [x0,x1,x2,x3,x4,x5,x6] iY sn (n+1) (cs++ [.i .i64 (LN r),.s F,a,b,c,d])):=by
 have hs:r∉Og:=by rcases X with rfl|rfl|rfl <;> decide
 have hL:=fun fr lh sh=>ak0 W hs fr lh sh
 have Ml:=CW W 1
 have Fk:=G8 h1
 have J:=G8 h3
 have Fc:=akZ h2
 have O:=Oe r
 have U:LN r≠0:=by rcases X with rfl|rfl|rfl <;> decide
 have uB: ¬r= [99,111,110,115,116]:=by rcases X with rfl|rfl|rfl <;> decide
 obtain⟨_,_,Z,z2,r0,LO⟩:=W
 obtain⟨_,_,_,_,r2,H⟩:=h2
 have LO: ∀kk,lY v (.i kk 0) 4=some (.vp (.i .i64 1:: .s r:: .i .i64 N0::r0)):=LO
 have H: ∀kk,lY v (.i kk 2) 4=some (.vp (.i .i64 1:: .s F:: .i .i64 N2::r2)):=H
 generalize LN r=S at*
 have hfd:T.sl (strs Og) 7 true= .sl [.s [114,101,112,111,114,116],.s [114,101,108,101,97,115,101],.s [99,111,110,110,101,99,116],.s [115,105,116],.s [108,97,121,111,118,101,114],.s [103,117,97,114,97,110,116,101,101],.s [110,105,103,104,116]] 7 true:=rfl
 rw[il aan (by simp[c79])]
 unfold rh
 have Y2:be pE 122 [v,.i .i64 0,.i .i64 1] []=some (.b (decide ((1:Int)=1)),[]):=Ml
 simp(maxDischargeDepth:=6) only[qA,jl,seval,c79,repl,Y2,Z,sC]
 generalize hD:DC pE 335 (.loop uN) _=D
 obtain⟨f2,l2,s2,rfl,⟨rfl,rfl⟩,V⟩:=Ba yc hD (hL _ _ _ (by simp only[qA,seval]) (by rw[hfd];simp only[qA,seval]) (by simp only[qA,seval]))
 have p0:an f2 0= .ptr .S 0 1 0:=by rw[V 0 (by decide)];simp only[qA,seval]
 have p1:an f2 1= .ptr .S 1 1 0:=by rw[V 1 (by decide)];simp only[qA,seval]
 have p2:an f2 2=v:=by rw[V 2 (by decide)];simp only[qA,seval]
 clear V hD hL
 have Fk: ∀w,be pE 125 [v,.i .i64 1,.s w] []=some (.b (decide ((1:Int)=1∧ [114,117,108,101]=w)),[]):=Fk
 have J: ∀w,be pE 125 [v,.i .i64 3,.s w] []=some (.b (decide ((1:Int)=1∧ [105,115]=w)),[]):=J
 have Fc:be pE 124 [v,.i .i64 2] []=some (.b (decide ((1:Int)=1)&&ou F),[]):=Fc
 rw[FZ]at Fc
 have e1:=Fk [114,117,108,101]
 have e3:=J [105,115]
 simp only[and_self,decide_true]at e1 e3
 obtain⟨y1,y2,y3,y4⟩:=ha
 have y1':cellsOf a= [a]:=by cases a <;> simp_all[froz1,cellsOf]
 have Y3:80≤roomy:=by decide
 have G9: ∀m,rV m .nilsl=⟨true,[],[(.S,m)]⟩:=fun _=>rfl
 by_cases ZO:n=0
 ·subst ZO
  have I:cs= []:=List.length_eq_zero_iff.1 (by omega)
  subst I
  have nM: ∀lh,Ev.stV lh [⟨1,.cells [x0,x1,x2,x3,x4,x5,x6,iY,.nilsl,.nilsl,.nilsl,.nilsl,.nilsl,.i .i64 0] 0 true⟩,⟨1,.cells sn 0 true⟩,⟨1,.cells [.i .i64 S,.s F,a,b,c,d] 0 false⟩] (.ptr .S 0 1 8) (.isl .S 2 1 0 1 6) 1=some (lh,[⟨1,.cells [x0,x1,x2,x3,x4,x5,x6,iY,.isl .S 2 1 0 1 6,.nilsl,.nilsl,.nilsl,.nilsl,.i .i64 0] 0 true⟩,⟨1,.cells sn 0 true⟩,⟨1,.cells [.i .i64 S,.s F,a,b,c,d] 0 false⟩]):=fun lh=>by
   rw[nP (by rfl) (by rfl),kU,if_pos ⟨rfl,rfl,rfl,Nat.zero_le _,by simp⟩]
   rfl
  simp(maxDischargeDepth:=6) only[qA,jl,jI,lj,j3,iE,seval,repl,p0,p1,p2,LO,H,uB,O,U,e1,e3,Fc,oF,IW,Hr,he,Z,z2,y1,y2,y3,y4,sC,yp,yq,yt,yu,yw,jV,kl,iK,jx,ju,iQ,jR,jS,jc,G9,ui,mr,kJ,mw,lE,Y3,nM]
 ·have r81:(n+1)*80≤roomy:=by unfold roomy;omega
  have adN:n*6=cs.length:=I.symm
  have nM: ∀lh,Ev.stV lh [⟨1,.cells [x0,x1,x2,x3,x4,x5,x6,iY,.isl .S 2 n 0 n 6,.nilsl,.nilsl,.nilsl,.nilsl,.i .i64 0] 0 true⟩,⟨1,.cells sn 0 true⟩,⟨n+1,.cells (cs++ [.i .i64 S,.s F,a,b,c,d]) 0 false⟩] (.ptr .S 0 1 8) (.isl .S 2 (n+1) 0 (n+1) 6) 1=some (lh,[⟨1,.cells [x0,x1,x2,x3,x4,x5,x6,iY,.isl .S 2 (n+1) 0 (n+1) 6,.nilsl,.nilsl,.nilsl,.nilsl,.i .i64 0] 0 true⟩,⟨1,.cells sn 0 true⟩,⟨n+1,.cells (cs++ [.i .i64 S,.s F,a,b,c,d]) 0 false⟩]):=fun lh=>by
   rw[nP (by rfl) (by rfl),kU,if_pos ⟨rfl,rfl,rfl,Nat.zero_le _,by simp⟩]
   rfl
  have Cv: ¬n+1=0:=by omega
  simp(maxDischargeDepth:=6) only[qA,jl,jI,lj,j3,iE,seval,repl,p0,p1,p2,LO,H,uB,O,U,e1,e3,Fc,oF,IW,Hr,he,Z,z2,y1,y2,y3,y4,sC,yp,yq,yt,yu,yw,jV,kl,iK,jx,ju,iQ,jR,jS,jc,G9,ui,mr,kJ,mw,lE,Y3,nM,r81,adN,ZO,Cv,lE,rV]
def xX(r:List T)(iY D:T)(sn:List T)(P:List b8)(n:Nat)(cs:List T):List b8:=
 ⟨1,.cells (r++ [iY,D,if n=0 then .nilsl else .isl .S (2+P.length) n 0 n 5,.nilsl,.nilsl,.nilsl,.i .i64 0]) 0 true⟩::⟨1,.cells sn 0 true⟩::(P++if n=0 then []else [⟨n,.cells cs 0 false⟩])
theorem F0(x0 x1 x2 x3 x4 x5 x6 iY F:T)(sn:List T)(P:List b8)(hP:P.length≤1)(n:Nat)(hn:n≤100)(cs:List T)(J:cs.length=n*5)(v:T)(N:Nat)(r:List Nat)(N0 N1 N2:Int)(h0:Tk v N 0 1 r N0)(h1:Tk v N 1 1 [99,111,115,116] N1)(h2:Tk v N 2 1 [105,115] N2)(nk:r= [100,117,116,121]∨r= [114,101,115,116]∨r= [112,97,105,114,105,110,103])
  (tl:T) (oF:sF v=some N) (IW:HK 4 v 3 N=some tl) (Hr:froz tl=true) (a b c d:T) (ha:froz1 a=true∧froz1 b=true∧froz1 c=true∧froz1 d=true) (s:List b8) (he:be pE 126 [tl] []=some (.tup [.agg [a,b,c,d],.i .i64 (-1)],s)):
  be pE 79 [.ptr .S 0 1 0,.ptr .S 1 1 0,v] (xX [x0,x1,x2,x3,x4,x5,x6] iY F sn P n cs)=some (.i .i64 0,xX [x0,x1,x2,x3,x4,x5,x6] iY F sn P (n+1) (cs++ [.i .i64 (LN r),a,b,c,d])):=by
 have hs:r∉Og:=by rcases nk with rfl|rfl|rfl <;> decide
 have hL:=fun fr lh sh=>ak0 h0 hs fr lh sh
 have Ml:=CW h0 1
 have Fk:=G8 h1
 have Cu:=G8 h2
 have H:=Oe r
 have I:LN r≠0:=by rcases nk with rfl|rfl|rfl <;> decide
 have uB: ¬r= [99,111,110,115,116]:=by rcases nk with rfl|rfl|rfl <;> decide
 obtain⟨_,_,U,z2,r0,LO⟩:=h0
 have LO: ∀kk,lY v (.i kk 0) 4=some (.vp (.i .i64 1:: .s r:: .i .i64 N0::r0)):=LO
 generalize LN r=S at*
 have hfd:T.sl (strs Og) 7 true= .sl [.s [114,101,112,111,114,116],.s [114,101,108,101,97,115,101],.s [99,111,110,110,101,99,116],.s [115,105,116],.s [108,97,121,111,118,101,114],.s [103,117,97,114,97,110,116,101,101],.s [110,105,103,104,116]] 7 true:=rfl
 rw[il aan (by simp[c79])]
 unfold xX
 have Y2:be pE 122 [v,.i .i64 0,.i .i64 1] []=some (.b (decide ((1:Int)=1)),[]):=Ml
 simp(maxDischargeDepth:=6) only[qA,jl,seval,c79,repl,Y2,U,sC]
 generalize hD:DC pE 335 (.loop uN) _=D
 obtain⟨f2,l2,s2,rfl,⟨rfl,rfl⟩,mM⟩:=Ba yc hD (hL _ _ _ (by simp only[qA,seval]) (by rw[hfd];simp only[qA,seval]) (by simp only[qA,seval]))
 have p0:an f2 0= .ptr .S 0 1 0:=by rw[mM 0 (by decide)];simp only[qA,seval]
 have p1:an f2 1= .ptr .S 1 1 0:=by rw[mM 1 (by decide)];simp only[qA,seval]
 have p2:an f2 2=v:=by rw[mM 2 (by decide)];simp only[qA,seval]
 clear mM hD hL
 have Fk: ∀w,be pE 125 [v,.i .i64 1,.s w] []=some (.b (decide ((1:Int)=1∧ [99,111,115,116]=w)),[]):=Fk
 have Cu: ∀w,be pE 125 [v,.i .i64 2,.s w] []=some (.b (decide ((1:Int)=1∧ [105,115]=w)),[]):=Cu
 have V:=Fk [99,111,115,116]
 have e2:be pE 125 [v,.i .i64 1,.s [114,117,108,101]] []=some (.b false,[]):=Fk [114,117,108,101]
 have W:=Cu [105,115]
 simp only[and_self,decide_true]at V W
 obtain⟨y1,y2,y3,y4⟩:=ha
 have Y3:64≤roomy:=by decide
 have X:(n+1)*64≤roomy:=by unfold roomy;omega
 have Y:n*5=cs.length:=J.symm
 have Cv: ¬n+1=0:=by omega
 have Z:P= []∨ ∃e,P= [e]:=by
  match P,hP with
  | [],_=>exact .inl rfl
  | [e],_=>exact .inr ⟨e,rfl⟩
 by_cases ZO:n=0
 ·subst ZO
  have J:cs= []:=List.length_eq_zero_iff.1 (by omega)
  subst J
  rcases Z with rfl|⟨e,rfl⟩
  ·have O: ∀lh,Ev.stV lh [⟨1,.cells [x0,x1,x2,x3,x4,x5,x6,iY,F,.nilsl,.nilsl,.nilsl,.nilsl,.i .i64 0] 0 true⟩,⟨1,.cells sn 0 true⟩,⟨1,.cells [.i .i64 S,a,b,c,d] 0 false⟩] (.ptr .S 0 1 9) (.isl .S 2 1 0 1 5) 1=some (lh,[⟨1,.cells [x0,x1,x2,x3,x4,x5,x6,iY,F,.isl .S 2 1 0 1 5,.nilsl,.nilsl,.nilsl,.i .i64 0] 0 true⟩,⟨1,.cells sn 0 true⟩,⟨1,.cells [.i .i64 S,a,b,c,d] 0 false⟩]):=fun lh=>by
    rw[nP (by rfl) (by rfl),kU,if_pos ⟨rfl,rfl,rfl,Nat.zero_le _,by simp⟩]
    rfl
   simp(maxDischargeDepth:=6) only[qA,jl,jI,lj,j3,iE,seval,repl,p0,p1,p2,LO,uB,H,I,V,e2,W,oF,IW,Hr,he,U,z2,y1,y2,y3,y4,sC,yp,yq,yt,yu,yw,jV,kl,iK,jx,ju,iQ,jR,jS,jc,rV,ui,mr,kJ,mw,lE,Y3,O]
  ·have O: ∀lh,Ev.stV lh [⟨1,.cells [x0,x1,x2,x3,x4,x5,x6,iY,F,.nilsl,.nilsl,.nilsl,.nilsl,.i .i64 0] 0 true⟩,⟨1,.cells sn 0 true⟩,e,⟨1,.cells [.i .i64 S,a,b,c,d] 0 false⟩] (.ptr .S 0 1 9) (.isl .S 3 1 0 1 5) 1=some (lh,[⟨1,.cells [x0,x1,x2,x3,x4,x5,x6,iY,F,.isl .S 3 1 0 1 5,.nilsl,.nilsl,.nilsl,.i .i64 0] 0 true⟩,⟨1,.cells sn 0 true⟩,e,⟨1,.cells [.i .i64 S,a,b,c,d] 0 false⟩]):=fun lh=>by
    rw[nP (by rfl) (by rfl),kU,if_pos ⟨rfl,rfl,rfl,Nat.zero_le _,by simp⟩]
    rfl
   simp(maxDischargeDepth:=6) only[qA,jl,jI,lj,j3,iE,seval,repl,p0,p1,p2,LO,uB,H,I,V,e2,W,oF,IW,Hr,he,U,z2,y1,y2,y3,y4,sC,yp,yq,yt,yu,yw,jV,kl,iK,jx,ju,iQ,jR,jS,jc,rV,ui,mr,kJ,mw,lE,Y3,O]
 ·rcases Z with rfl|⟨e,rfl⟩
  ·have O: ∀lh,Ev.stV lh [⟨1,.cells [x0,x1,x2,x3,x4,x5,x6,iY,F,.isl .S 2 n 0 n 5,.nilsl,.nilsl,.nilsl,.i .i64 0] 0 true⟩,⟨1,.cells sn 0 true⟩,⟨n+1,.cells (cs++ [.i .i64 S,a,b,c,d]) 0 false⟩] (.ptr .S 0 1 9) (.isl .S 2 (n+1) 0 (n+1) 5) 1=some (lh,[⟨1,.cells [x0,x1,x2,x3,x4,x5,x6,iY,F,.isl .S 2 (n+1) 0 (n+1) 5,.nilsl,.nilsl,.nilsl,.i .i64 0] 0 true⟩,⟨1,.cells sn 0 true⟩,⟨n+1,.cells (cs++ [.i .i64 S,a,b,c,d]) 0 false⟩]):=fun lh=>by
    rw[nP (by rfl) (by rfl),kU,if_pos ⟨rfl,rfl,rfl,Nat.zero_le _,by simp⟩]
    rfl
   simp(maxDischargeDepth:=6) only[qA,jl,jI,lj,j3,iE,seval,repl,p0,p1,p2,LO,uB,H,I,V,e2,W,oF,IW,Hr,he,U,z2,y1,y2,y3,y4,sC,yp,yq,yt,yu,yw,jV,kl,iK,jx,ju,iQ,jR,jS,jc,rV,ui,mr,kJ,mw,lE,Y3,O,X,Y,ZO,Cv]
  ·have O: ∀lh,Ev.stV lh [⟨1,.cells [x0,x1,x2,x3,x4,x5,x6,iY,F,.isl .S 3 n 0 n 5,.nilsl,.nilsl,.nilsl,.i .i64 0] 0 true⟩,⟨1,.cells sn 0 true⟩,e,⟨n+1,.cells (cs++ [.i .i64 S,a,b,c,d]) 0 false⟩] (.ptr .S 0 1 9) (.isl .S 3 (n+1) 0 (n+1) 5) 1=some (lh,[⟨1,.cells [x0,x1,x2,x3,x4,x5,x6,iY,F,.isl .S 3 (n+1) 0 (n+1) 5,.nilsl,.nilsl,.nilsl,.i .i64 0] 0 true⟩,⟨1,.cells sn 0 true⟩,e,⟨n+1,.cells (cs++ [.i .i64 S,a,b,c,d]) 0 false⟩]):=fun lh=>by
    rw[nP (by rfl) (by rfl),kU,if_pos ⟨rfl,rfl,rfl,Nat.zero_le _,by simp⟩]
    rfl
   simp(maxDischargeDepth:=6) only[qA,jl,jI,lj,j3,iE,seval,repl,p0,p1,p2,LO,uB,H,I,V,e2,W,oF,IW,Hr,he,U,z2,y1,y2,y3,y4,sC,yp,yq,yt,yu,yw,jV,kl,iK,jx,ju,iQ,jR,jS,jc,rV,ui,mr,kJ,mw,lE,Y3,O,X,Y,ZO,Cv]
def Oh(r:List T)(iY D ET:T)(sn:List T)(P:List b8)(cr:List T):List b8:=
 ⟨1,.cells (r++ [iY,D,ET,if cr= []then .nilsl else .isl .S (2+P.length) 1 0 1 4,.nilsl,.nilsl,.i .i64 0]) 0 true⟩::⟨1,.cells sn 0 true⟩::(P++if cr= []then []else [⟨1,.cells cr 0 false⟩])
theorem ak1(x0 x1 x2 x3 x4 x5 x6 iY r ET:T)(sn:List T)(P:List b8)(hP:P.length≤2)(v:T)(N:Nat)(N0 N1 N2:Int)(W:Tk v N 0 1 [100,117,116,121] N0)(h1:Tk v N 1 1 [99,114,101,100,105,116] N1)(h2:Tk v N 2 1 [105,115] N2)
  (X:T) (Y:sF v=some N) (IW:HK 4 v 3 N=some X) (Hr:froz X=true) (a b c d:T) (ha:froz1 a=true∧froz1 b=true∧froz1 c=true∧froz1 d=true) (s:List b8) (Z:be pE 126 [X] []=some (.tup [.agg [a,b,c,d],.i .i64 (-1)],s)):
  be pE 79 [.ptr .S 0 1 0,.ptr .S 1 1 0,v] (Oh [x0,x1,x2,x3,x4,x5,x6] iY r ET sn P [])=some (.i .i64 0,Oh [x0,x1,x2,x3,x4,x5,x6] iY r ET sn P [a,b,c,d]):=by
 have hs:([100,117,116,121]:List Nat)∉Og:=by decide
 have hL:=fun fr lh sh=>ak0 W hs fr lh sh
 have Ml:=CW W 1
 have Fk:=G8 h1
 have Cu:=G8 h2
 have F:be pE 127 [.s [100,117,116,121]] []=some (.i .i64 1,[]):=Oe _
 have H:(1:Int)≠0:=by decide
 have uB: ¬([100,117,116,121]:List Nat)= [99,111,110,115,116]:=by decide
 obtain⟨_,_,J,z2,r0,LO⟩:=W
 have LO: ∀kk,lY v (.i kk 0) 4=some (.vp (.i .i64 1:: .s [100,117,116,121]:: .i .i64 N0::r0)):=LO
 have hfd:T.sl (strs Og) 7 true= .sl [.s [114,101,112,111,114,116],.s [114,101,108,101,97,115,101],.s [99,111,110,110,101,99,116],.s [115,105,116],.s [108,97,121,111,118,101,114],.s [103,117,97,114,97,110,116,101,101],.s [110,105,103,104,116]] 7 true:=rfl
 rw[il aan (by simp[c79])]
 unfold Oh
 have Y2:be pE 122 [v,.i .i64 0,.i .i64 1] []=some (.b (decide ((1:Int)=1)),[]):=Ml
 simp(maxDischargeDepth:=6) only[qA,jl,seval,c79,repl,Y2,J,sC]
 generalize hD:DC pE 335 (.loop uN) _=D
 obtain⟨f2,l2,s2,rfl,⟨rfl,rfl⟩,O⟩:=Ba yc hD (hL _ _ _ (by simp only[qA,seval]) (by rw[hfd];simp only[qA,seval]) (by simp only[qA,seval]))
 have p0:an f2 0= .ptr .S 0 1 0:=by rw[O 0 (by decide)];simp only[qA,seval]
 have p1:an f2 1= .ptr .S 1 1 0:=by rw[O 1 (by decide)];simp only[qA,seval]
 have p2:an f2 2=v:=by rw[O 2 (by decide)];simp only[qA,seval]
 clear O hD hL
 have Fk: ∀w,be pE 125 [v,.i .i64 1,.s w] []=some (.b (decide ((1:Int)=1∧ [99,114,101,100,105,116]=w)),[]):=Fk
 have Cu: ∀w,be pE 125 [v,.i .i64 2,.s w] []=some (.b (decide ((1:Int)=1∧ [105,115]=w)),[]):=Cu
 have U:=Fk [99,114,101,100,105,116]
 have e4:be pE 125 [v,.i .i64 1,.s [99,111,115,116]] []=some (.b false,[]):=Fk [99,111,115,116]
 have e2:be pE 125 [v,.i .i64 1,.s [114,117,108,101]] []=some (.b false,[]):=Fk [114,117,108,101]
 have V:=Cu [105,115]
 simp only[and_self,decide_true]at U V
 obtain⟨y1,y2,y3,y4⟩:=ha
 have Y3:56≤roomy:=by decide
 have hPc:P= []∨(∃e,P= [e])∨ ∃e f,P= [e,f]:=by
  match P,hP with
  | [],_=>exact .inl rfl
  | [e],_=>exact .inr (.inl ⟨e,rfl⟩)
  | [e,f],_=>exact .inr (.inr ⟨e,f,rfl⟩)
 rcases hPc with rfl|⟨e,rfl⟩|⟨e,f,rfl⟩
 ·have I: ∀lh,Ev.stV lh [⟨1,.cells [x0,x1,x2,x3,x4,x5,x6,iY,r,ET,.nilsl,.nilsl,.nilsl,.i .i64 0] 0 true⟩,⟨1,.cells sn 0 true⟩,⟨1,.cells [a,b,c,d] 0 false⟩] (.ptr .S 0 1 10) (.isl .S 2 1 0 1 4) 1=some (lh,[⟨1,.cells [x0,x1,x2,x3,x4,x5,x6,iY,r,ET,.isl .S 2 1 0 1 4,.nilsl,.nilsl,.i .i64 0] 0 true⟩,⟨1,.cells sn 0 true⟩,⟨1,.cells [a,b,c,d] 0 false⟩]):=fun lh=>by
   rw[nP (by rfl) (by rfl),kU,if_pos ⟨rfl,rfl,rfl,Nat.zero_le _,by simp⟩]
   rfl
  simp(maxDischargeDepth:=6) only[qA,jl,jI,lj,j3,iE,seval,repl,p0,p1,p2,LO,uB,F,H,U,e2,V,e4,Y,IW,Hr,Z,J,z2,y1,y2,y3,y4,sC,yp,yq,yt,yu,yw,jV,kl,iK,jx,ju,iQ,jR,jS,jc,rV,BP,pT,ui,mr,kJ,mw,lE,Y3,I]
 ·have I: ∀lh,Ev.stV lh [⟨1,.cells [x0,x1,x2,x3,x4,x5,x6,iY,r,ET,.nilsl,.nilsl,.nilsl,.i .i64 0] 0 true⟩,⟨1,.cells sn 0 true⟩,e,⟨1,.cells [a,b,c,d] 0 false⟩] (.ptr .S 0 1 10) (.isl .S 3 1 0 1 4) 1=some (lh,[⟨1,.cells [x0,x1,x2,x3,x4,x5,x6,iY,r,ET,.isl .S 3 1 0 1 4,.nilsl,.nilsl,.i .i64 0] 0 true⟩,⟨1,.cells sn 0 true⟩,e,⟨1,.cells [a,b,c,d] 0 false⟩]):=fun lh=>by
   rw[nP (by rfl) (by rfl),kU,if_pos ⟨rfl,rfl,rfl,Nat.zero_le _,by simp⟩]
   rfl
  simp(maxDischargeDepth:=6) only[qA,jl,jI,lj,j3,iE,seval,repl,p0,p1,p2,LO,uB,F,H,U,e2,V,e4,Y,IW,Hr,Z,J,z2,y1,y2,y3,y4,sC,yp,yq,yt,yu,yw,jV,kl,iK,jx,ju,iQ,jR,jS,jc,rV,BP,pT,ui,mr,kJ,mw,lE,Y3,I]
 ·have I: ∀lh,Ev.stV lh [⟨1,.cells [x0,x1,x2,x3,x4,x5,x6,iY,r,ET,.nilsl,.nilsl,.nilsl,.i .i64 0] 0 true⟩,⟨1,.cells sn 0 true⟩,e,f,⟨1,.cells [a,b,c,d] 0 false⟩] (.ptr .S 0 1 10) (.isl .S 4 1 0 1 4) 1=some (lh,[⟨1,.cells [x0,x1,x2,x3,x4,x5,x6,iY,r,ET,.isl .S 4 1 0 1 4,.nilsl,.nilsl,.i .i64 0] 0 true⟩,⟨1,.cells sn 0 true⟩,e,f,⟨1,.cells [a,b,c,d] 0 false⟩]):=fun lh=>by
   rw[nP (by rfl) (by rfl),kU,if_pos ⟨rfl,rfl,rfl,Nat.zero_le _,by simp⟩]
   rfl
  simp(maxDischargeDepth:=6) only[qA,jl,jI,lj,j3,iE,seval,repl,p0,p1,p2,LO,uB,F,H,U,e2,V,e4,Y,IW,Hr,Z,J,z2,y1,y2,y3,y4,sC,yp,yq,yt,yu,yw,jV,kl,iK,jx,ju,iQ,jR,jS,jc,rV,BP,pT,ui,mr,kJ,mw,lE,Y3,I]
def nZ(r:List T)(iY:T)(sn:List T):List b8:= [⟨1,.cells (r++ [iY,.nilsl,.nilsl,.nilsl,.nilsl,.nilsl,.i .i64 0]) 0 true⟩,⟨1,.cells sn 0 true⟩]
theorem d00(x0 x1 x2 x3 x4 x5 x6:T):be pE 79 [.ptr .S 0 1 0,.ptr .S 1 1 0,.sl akl 2 false] (nZ [x0,x1,x2,x3,x4,x5,x6] .nilsl [.b false,.b false,.b false,.b false,.b false,.b false,.b false])=some (.i .i64 0,nZ [.i .i64 (rpB 0),x1,x2,x3,x4,x5,x6] (.nilsl) [.b true,.b false,.b false,.b false,.b false,.b false,.b false]):=DCall_iff.2 ⟨1000,by rw[←fy];kernel_rfl⟩
theorem d01(x0 x1 x2 x3 x4 x5 x6:T):be pE 79 [.ptr .S 0 1 0,.ptr .S 1 1 0,.sl akm 2 false] (nZ [x0,x1,x2,x3,x4,x5,x6] .nilsl [.b false,.b false,.b false,.b false,.b false,.b false,.b false])=some (.i .i64 0,nZ [.i .i64 (rpB 1),x1,x2,x3,x4,x5,x6] (.nilsl) [.b true,.b false,.b false,.b false,.b false,.b false,.b false]):=DCall_iff.2 ⟨1000,by rw[←fy];kernel_rfl⟩
theorem d02(x0 x1 x2 x3 x4 x5 x6:T):be pE 79 [.ptr .S 0 1 0,.ptr .S 1 1 0,.sl akn 2 false] (nZ [x0,x1,x2,x3,x4,x5,x6] .nilsl [.b false,.b false,.b false,.b false,.b false,.b false,.b false])=some (.i .i64 0,nZ [.i .i64 (rpB 2),x1,x2,x3,x4,x5,x6] (.nilsl) [.b true,.b false,.b false,.b false,.b false,.b false,.b false]):=DCall_iff.2 ⟨1000,by rw[←fy];kernel_rfl⟩
theorem d10(x0 x1 x2 x3 x4 x5 x6:T):be pE 79 [.ptr .S 0 1 0,.ptr .S 1 1 0,.sl ako 2 false] (nZ [x0,x1,x2,x3,x4,x5,x6] .nilsl [.b true,.b false,.b false,.b false,.b false,.b false,.b false])=some (.i .i64 0,nZ [x0,.i .i64 (rlB 0),x2,x3,x4,x5,x6] (.nilsl) [.b true,.b true,.b false,.b false,.b false,.b false,.b false]):=DCall_iff.2 ⟨1000,by rw[←fy];kernel_rfl⟩
theorem d11(x0 x1 x2 x3 x4 x5 x6:T):be pE 79 [.ptr .S 0 1 0,.ptr .S 1 1 0,.sl akp 2 false] (nZ [x0,x1,x2,x3,x4,x5,x6] .nilsl [.b true,.b false,.b false,.b false,.b false,.b false,.b false])=some (.i .i64 0,nZ [x0,.i .i64 (rlB 1),x2,x3,x4,x5,x6] (.nilsl) [.b true,.b true,.b false,.b false,.b false,.b false,.b false]):=DCall_iff.2 ⟨1000,by rw[←fy];kernel_rfl⟩
theorem d12(x0 x1 x2 x3 x4 x5 x6:T):be pE 79 [.ptr .S 0 1 0,.ptr .S 1 1 0,.sl akq 2 false] (nZ [x0,x1,x2,x3,x4,x5,x6] .nilsl [.b true,.b false,.b false,.b false,.b false,.b false,.b false])=some (.i .i64 0,nZ [x0,.i .i64 (rlB 2),x2,x3,x4,x5,x6] (.nilsl) [.b true,.b true,.b false,.b false,.b false,.b false,.b false]):=DCall_iff.2 ⟨1000,by rw[←fy];kernel_rfl⟩
theorem d20(x0 x1 x2 x3 x4 x5 x6:T):be pE 79 [.ptr .S 0 1 0,.ptr .S 1 1 0,.sl akr 2 false] (nZ [x0,x1,x2,x3,x4,x5,x6] .nilsl [.b true,.b true,.b false,.b false,.b false,.b false,.b false])=some (.i .i64 0,nZ [x0,x1,.i .i64 (NT 0),x3,x4,x5,x6] (.nilsl) [.b true,.b true,.b true,.b false,.b false,.b false,.b false]):=DCall_iff.2 ⟨1000,by rw[←fy];kernel_rfl⟩
theorem d21(x0 x1 x2 x3 x4 x5 x6:T):be pE 79 [.ptr .S 0 1 0,.ptr .S 1 1 0,.sl aks 2 false] (nZ [x0,x1,x2,x3,x4,x5,x6] .nilsl [.b true,.b true,.b false,.b false,.b false,.b false,.b false])=some (.i .i64 0,nZ [x0,x1,.i .i64 (NT 1),x3,x4,x5,x6] (.nilsl) [.b true,.b true,.b true,.b false,.b false,.b false,.b false]):=DCall_iff.2 ⟨1000,by rw[←fy];kernel_rfl⟩
theorem d22(x0 x1 x2 x3 x4 x5 x6:T):be pE 79 [.ptr .S 0 1 0,.ptr .S 1 1 0,.sl akt 2 false] (nZ [x0,x1,x2,x3,x4,x5,x6] .nilsl [.b true,.b true,.b false,.b false,.b false,.b false,.b false])=some (.i .i64 0,nZ [x0,x1,.i .i64 (NT 2),x3,x4,x5,x6] (.nilsl) [.b true,.b true,.b true,.b false,.b false,.b false,.b false]):=DCall_iff.2 ⟨1000,by rw[←fy];kernel_rfl⟩
theorem d30(x0 x1 x2 x3 x4 x5 x6:T):be pE 79 [.ptr .S 0 1 0,.ptr .S 1 1 0,.sl aku 2 false] (nZ [x0,x1,x2,x3,x4,x5,x6] .nilsl [.b true,.b true,.b true,.b false,.b false,.b false,.b false])=some (.i .i64 0,nZ [x0,x1,x2,.i .i64 (FI 0),x4,x5,x6] (.nilsl) [.b true,.b true,.b true,.b true,.b false,.b false,.b false]):=DCall_iff.2 ⟨1000,by rw[←fy];kernel_rfl⟩
theorem d31(x0 x1 x2 x3 x4 x5 x6:T):be pE 79 [.ptr .S 0 1 0,.ptr .S 1 1 0,.sl akv 2 false] (nZ [x0,x1,x2,x3,x4,x5,x6] .nilsl [.b true,.b true,.b true,.b false,.b false,.b false,.b false])=some (.i .i64 0,nZ [x0,x1,x2,.i .i64 (FI 1),x4,x5,x6] (.nilsl) [.b true,.b true,.b true,.b true,.b false,.b false,.b false]):=DCall_iff.2 ⟨1000,by rw[←fy];kernel_rfl⟩
theorem d32(x0 x1 x2 x3 x4 x5 x6:T):be pE 79 [.ptr .S 0 1 0,.ptr .S 1 1 0,.sl akw 2 false] (nZ [x0,x1,x2,x3,x4,x5,x6] .nilsl [.b true,.b true,.b true,.b false,.b false,.b false,.b false])=some (.i .i64 0,nZ [x0,x1,x2,.i .i64 (FI 2),x4,x5,x6] (.nilsl) [.b true,.b true,.b true,.b true,.b false,.b false,.b false]):=DCall_iff.2 ⟨1000,by rw[←fy];kernel_rfl⟩
theorem d40(x0 x1 x2 x3 x4 x5 x6:T):be pE 79 [.ptr .S 0 1 0,.ptr .S 1 1 0,.sl akx 2 false] (nZ [x0,x1,x2,x3,x4,x5,x6] .nilsl [.b true,.b true,.b true,.b true,.b false,.b false,.b false])=some (.i .i64 0,nZ [x0,x1,x2,x3,.i .i64 (lyB 0),x5,x6] (.nilsl) [.b true,.b true,.b true,.b true,.b true,.b false,.b false]):=DCall_iff.2 ⟨1000,by rw[←fy];kernel_rfl⟩
theorem d41(x0 x1 x2 x3 x4 x5 x6:T):be pE 79 [.ptr .S 0 1 0,.ptr .S 1 1 0,.sl aky 2 false] (nZ [x0,x1,x2,x3,x4,x5,x6] .nilsl [.b true,.b true,.b true,.b true,.b false,.b false,.b false])=some (.i .i64 0,nZ [x0,x1,x2,x3,.i .i64 (lyB 1),x5,x6] (.nilsl) [.b true,.b true,.b true,.b true,.b true,.b false,.b false]):=DCall_iff.2 ⟨1000,by rw[←fy];kernel_rfl⟩
theorem d42(x0 x1 x2 x3 x4 x5 x6:T):be pE 79 [.ptr .S 0 1 0,.ptr .S 1 1 0,.sl akz 2 false] (nZ [x0,x1,x2,x3,x4,x5,x6] .nilsl [.b true,.b true,.b true,.b true,.b false,.b false,.b false])=some (.i .i64 0,nZ [x0,x1,x2,x3,.i .i64 (lyB 2),x5,x6] (.nilsl) [.b true,.b true,.b true,.b true,.b true,.b false,.b false]):=DCall_iff.2 ⟨1000,by rw[←fy];kernel_rfl⟩
theorem d50(x0 x1 x2 x3 x4 x5 x6:T):be pE 79 [.ptr .S 0 1 0,.ptr .S 1 1 0,.sl akA 4 false] (nZ [x0,x1,x2,x3,x4,x5,x6] .nilsl [.b true,.b true,.b true,.b true,.b true,.b false,.b false])=some (.i .i64 0,nZ [x0,x1,x2,x3,x4,.i .i64 (nfB 0),.i .i64 (ntB 0)] (.nilsl) [.b true,.b true,.b true,.b true,.b true,.b false,.b true]):=DCall_iff.2 ⟨1000,by rw[←fy];kernel_rfl⟩
theorem d51(x0 x1 x2 x3 x4 x5 x6:T):be pE 79 [.ptr .S 0 1 0,.ptr .S 1 1 0,.sl akB 4 false] (nZ [x0,x1,x2,x3,x4,x5,x6] .nilsl [.b true,.b true,.b true,.b true,.b true,.b false,.b false])=some (.i .i64 0,nZ [x0,x1,x2,x3,x4,.i .i64 (nfB 1),.i .i64 (ntB 1)] (.nilsl) [.b true,.b true,.b true,.b true,.b true,.b false,.b true]):=DCall_iff.2 ⟨1000,by rw[←fy];kernel_rfl⟩
theorem d52(x0 x1 x2 x3 x4 x5 x6:T):be pE 79 [.ptr .S 0 1 0,.ptr .S 1 1 0,.sl akC 4 false] (nZ [x0,x1,x2,x3,x4,x5,x6] .nilsl [.b true,.b true,.b true,.b true,.b true,.b false,.b false])=some (.i .i64 0,nZ [x0,x1,x2,x3,x4,.i .i64 (nfB 2),.i .i64 (ntB 2)] (.nilsl) [.b true,.b true,.b true,.b true,.b true,.b false,.b true]):=DCall_iff.2 ⟨1000,by rw[←fy];kernel_rfl⟩
theorem d60(x0 x1 x2 x3 x4 x5 x6:T):be pE 79 [.ptr .S 0 1 0,.ptr .S 1 1 0,.sl akD 4 false] (nZ [x0,x1,x2,x3,x4,x5,x6] .nilsl [.b true,.b true,.b true,.b true,.b true,.b false,.b true])=some (.i .i64 0,nZ [x0,x1,x2,x3,x4,x5,x6] (.sl (.s CT::nR (Bh 0)) 1 false) [.b true,.b true,.b true,.b true,.b true,.b false,.b true]):=DCall_iff.2 ⟨1000,by rw[←fy];kernel_rfl⟩
theorem d61(x0 x1 x2 x3 x4 x5 x6:T):be pE 79 [.ptr .S 0 1 0,.ptr .S 1 1 0,.sl akE 6 false] (nZ [x0,x1,x2,x3,x4,x5,x6] .nilsl [.b true,.b true,.b true,.b true,.b true,.b false,.b true])=some (.i .i64 0,nZ [x0,x1,x2,x3,x4,x5,x6] (.sl (.s CT::nR (Bh 1)) 1 false) [.b true,.b true,.b true,.b true,.b true,.b false,.b true]):=DCall_iff.2 ⟨1000,by rw[←fy];kernel_rfl⟩
theorem d62(x0 x1 x2 x3 x4 x5 x6:T):be pE 79 [.ptr .S 0 1 0,.ptr .S 1 1 0,.sl akF 7 false] (nZ [x0,x1,x2,x3,x4,x5,x6] .nilsl [.b true,.b true,.b true,.b true,.b true,.b false,.b true])=some (.i .i64 0,nZ [x0,x1,x2,x3,x4,x5,x6] (.sl (.s CT::nR (Bh 2)) 1 false) [.b true,.b true,.b true,.b true,.b true,.b false,.b true]):=DCall_iff.2 ⟨1000,by rw[←fy];kernel_rfl⟩
def nS(l:List Nat)(s r:List b8):Prop:= ∃Y4 a u,∃n:Nat,be pE 78 [.s l] []=some (.tup [Y4,a,.i .i64 0],u)∧lenI Y4=some (.i .i64 ((n+1:Nat):Int))∧froz Y4=true∧be pE 79 [.ptr .S 0 1 0,.ptr .S 1 1 0,Y4] s=some (.i .i64 0,r)
def zV:List (List Nat)→List b8→List b8→Prop
 | [],s,r=>r=s
 |l::D,s,r=> ∃m,nS l s m∧zV D m r
theorem vz: ∀{a b:List (List Nat)} {s m F:List b8},zV a s m→zV b m F→zV (a++b) s F
 | [],_,_,_,_,r,D=>by rw[zV]at r;subst r;exact D
 |l::a,_,_,_,_,⟨q,H,r⟩,D=>⟨q,H,vz r D⟩
theorem aBs(v:T)(r:List (List Nat))(D:IsSl v r.length (strs r))(hb:r.length<1000000)(F:List b8)(fr:Fr)(lh:iq b8)(sh:List b8)(hs:zV r sh F)(I:an fr 5=v)(J:an fr 7= .ptr .S 0 1 0)(O:an fr 8= .ptr .S 1 1 0)(U:an fr 9= .i .i64 0):
  Lp pE 61 Al fr lh sh (.ext 0) fun f l s=>s=F∧l=lh:=by
 refine ky Jh (fun k f l s=>an f 9= .i .i64 (k:Int)∧l=lh∧zV (r.drop k) s F) r.length ⟨U,rfl,hs⟩ ?_ ?_
 ·rintro k f _ s hk H ⟨g9,rfl,hs⟩
  have V:(k:Int)<r.length:=by omega
  have W:=iN (k:=k) (by omega)
  rw[List.drop_eq_getElem_cons hk]at hs
  obtain⟨s',⟨Y4,a,u,n,X,Y,Z,q4⟩,hs⟩:=hs
  obtain⟨q,jg⟩:=zS D k hk
  have xo:(0:Int)<((n+1:Nat):Int):=by omega
  simp(maxDischargeDepth:=6) only[qA,jl,seval,gd,Al,H,I,J,O,g9,D.lenI,V,jg,X,Y,Z,q4,xo,W,hs,ax7,ax8]
 ·rintro f _ s H ⟨g9,rfl,hs⟩
  rw[List.drop_length,zV]at hs
  subst hs
  simp only[qA,seval,gd,Al,H,I,g9,D.lenI,Int.lt_irrefl]
theorem rW: ∀(cs r:List T),r.length=cs.length→splice cs 0 r=r
 | [],[],_=>by simp[splice]
 | [],v::r,h=>by simp at h
 |c::cs,[],h=>by simp at h
 |c::cs,v::r,h=>by simp[splice,rW cs r (by simpa using h)]
def iZ(n:Int):T:= .i .i64 n
def kS0:List b8:=nZ [iZ 0,iZ 0,iZ 0,iZ 1440,iZ 2880,iZ 0,iZ 0] .nilsl [.b false,.b false,.b false,.b false,.b false,.b false,.b false]
theorem Y5(r:List (List Nat))(hx:YO (qg r))(U: ∀l∈r,10∉l)(hl:r.length≤1000)(rc cs:List T)(F:List b8)(H:rc.length=14)
  (I: ∀q lh,∃us,xx q lh (⟨1,.cells rc 0 true⟩::F) false rc=some (cs,us))
  (hs:zV r kS0 (⟨1,.cells rc 0 true⟩::F)) (s':List b8) (J:be pE 80 [.agg cs] []=some (.i .i64 0,s')):
  ∃V,be pE 47 [.s (qg r)] []=some (.tup [.agg cs,.i .i64 0,.i .i64 0],V):=by
 have W:=YP r hx U hl
 have hv:IsSl (lu r.length (strs r)) r.length (strs r):=mV fun h=>by
  rw[List.length_eq_zero_iff.1 h];rfl
 have O:=fun fr lh=>aBs (lu r.length (strs r)) r hv (by omega) _ fr lh _ hs
 have X:=hv.froz1
 unfold kS0 nZ iZ at O
 simp only[List.cons_append,List.nil_append]at O
 have I6:rc.take 14=rc:=by rw[←H];exact List.take_length
 have Y:=rW [T.i IntKind.i64 0,T.i IntKind.i64 0,T.i IntKind.i64 0,T.i IntKind.i64 0,T.i IntKind.i64 0,T.i IntKind.i64 0,T.i IntKind.i64 0,T.nilsl,T.nilsl,T.nilsl,T.nilsl,T.nilsl,T.nilsl,T.i IntKind.i64 0] rc (by rw[H];rfl)
 obtain⟨us,Z⟩: ∃us:Nat→iq b8→List Up,∀q lh,xx q lh (⟨1,.cells rc 0 true⟩::F) false rc=some (cs,us q lh):=⟨fun q lh=>(I q lh).choose,fun q lh=>(I q lh).choose_spec⟩
 rw[il apM (by simp[c47])]
 generalize qg r=tx at*
 generalize lu r.length (strs r)=v at*
 simp(maxDischargeDepth:=6) only[qA,jl,seval,c47,repl,W,ax5,X]
 generalize hD:DC pE 61 (.loop Al) _=D
 obtain⟨f2,l2,s2,rfl,⟨rfl,rfl⟩,mM⟩:=Ba Jh hD (O _ _ (by simp only[qA,seval]) (by simp only[qA,seval]) (by simp only[qA,seval]) (by simp only[qA,seval]))
 have p2:an f2 2= .ptr .L 2 1 0:=by rw[mM 2 (by decide)];simp only[qA,seval]
 have p7:an f2 7= .ptr .S 0 1 0:=by rw[mM 7 (by decide)];simp only[qA,seval]
 clear mM hD O
 simp(maxDischargeDepth:=6) only[qA,jl,seval,p2,p7,J,ax9,H,I6,Y,Z]
 exact⟨_,rfl⟩
mutual
theorem Bm: ∀x:Ex,mY x (nR x)
 | .mk op n s []=>by
   rw[nR,mY]
   exact⟨_,[],rfl,.inl ⟨rfl,rfl,rfl⟩,by rw[ku]⟩
 | .mk op n s (b::r)=>by
   rw[nR,mY]
   refine⟨_,nR b++SV r,rfl,.inr ⟨_,rfl⟩, ?_⟩
   rw[ku]
   exact⟨_,_,rfl,Bm b,Qp r⟩
theorem Qp: ∀l:List Ex,ku l (SV l)
 | []=>by rw[SV,ku]
 |x::r=>by
  rw[SV,ku]
  exact⟨_,_,rfl,Bm x,Qp r⟩
end
theorem jb(x:Ex): ∃d,nR x= [.i .i64 x.op,.i .i64 x.num,.s x.name,d]∧froz1 d=true:=by
 cases x with
 |mk op n s a=>
  cases a with
  |nil=>exact⟨.nilsl,by rw[nR];rfl,rfl⟩
  |cons b r=>exact⟨_,by rw[nR];rfl,rfl⟩
def pF(u:Ru):List T:= .i .i64 u.sc:: .s u.nm::nR u.x
def vD(u:Co):List T:= .i .i64 u.sc::nR u.x
theorem ak2(u:Ru):Tq u (pF u):=by
 have h:=Bm u.x
 obtain⟨H,I,x⟩:=u
 cases x with
 |mk op n s a=>
  rw[mY]at h
  obtain⟨d,r,e,D,F⟩:=h
  exact⟨d,r,by unfold pF;rw[e];rfl,D,F⟩
theorem ak3(u:Co):ZY u (vD u):=by
 have h:=Bm u.x
 obtain⟨H,x⟩:=u
 cases x with
 |mk op n s a=>
  rw[mY]at h
  obtain⟨d,r,e,D,F⟩:=h
  exact⟨d,r,by unfold vD;rw[e];rfl,D,F⟩
theorem LP: ∀l:List Ru,iA Tq l (l.flatMap pF)
 | []=>rfl
 |u::l=>⟨_,_,rfl,ak2 u,LP l⟩
theorem LQ: ∀l:List Co,iA ZY l (l.flatMap vD)
 | []=>rfl
 |u::l=>⟨_,_,rfl,ak3 u,LQ l⟩
end Go.Proofs.YtcpceiclnbmgiaaGreat
