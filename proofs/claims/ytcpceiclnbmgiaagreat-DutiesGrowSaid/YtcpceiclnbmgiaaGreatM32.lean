/- Walks of functions of the program and of the reference, and their plain laws, part 32. Conditions: the theorems' own. -/
import Derived.Test.YtcpceiclnbmgiaaGreatM23
import Derived.KernelRfl
set_option maxRecDepth 100000
set_option linter.unusedSimpArgs false
set_option linter.unusedVariables false
set_option maxRecDepth 1000000
set_option maxHeartbeats 16000000
namespace Go.Proofs.YtcpceiclnbmgiaaGreat
open Go Go.Ev
def Tk(v:T)(n i:Nat)(K:Int)(s:List Nat)(N:Int):Prop:=i<n∧n≤1000∧froz v=true∧lenI v=some (.i .i64 (n:Int))∧ ∃r,∀kk,lH v (.i kk (i:Int)) 4=some (.vp (.i .i64 K:: .s s:: .i .i64 N::r))
theorem Tk.of(cs:List T)(n i:Nat)(K:Int)(s:List Nat)(N:Int)(r:List T)(hi:i<n)(D:n≤1000)(F:cs.length=n*4)(h:cs.drop (i*4)= .i .i64 K:: .s s:: .i .i64 N::r):Tk (.sl cs n false) n i K s N:=by
 refine⟨hi,D,rfl,rfl,r,fun kk=> ?_⟩
 rw[nQ,if_pos ⟨by omega,by simpa using hi,by rw[F];simp only[Int.toNat_natCast];omega⟩,Int.toNat_natCast,h]
section
variable{v:T}{n i:Nat}{K:Int}{s:List Nat}{N:Int}(h:Tk v n i K s N)
include h
theorem Cd(k:Int):be pE 122 [v,.i .i64 (i:Int),.i .i64 k] []=some (.b (decide (K=k)),[]):=by
 obtain⟨I,J,D,F,r,H⟩:=h
 have hi:(i:Int)<n:=by omega
 rw[gQ adt (by simp[S8])]
 by_cases e:K=k
 all_goals simp(maxDischargeDepth:=6) only[qA,seval,S8,D,F,hi,H,e]
theorem Gt(w:List Nat):be pE 125 [v,.i .i64 (i:Int),.s w] []=some (.b (decide (K=1∧s=w)),[]):=by
 obtain⟨J,O,D,F,r,H⟩:=h
 have hi:(i:Int)<n:=by omega
 rw[gQ adv (by simp[PW])]
 by_cases e:K=1
 ·by_cases I:s=w
  all_goals simp(maxDischargeDepth:=6) only[qA,seval,PW,D,F,hi,H,e,I]
 ·simp(maxDischargeDepth:=6) only[qA,seval,PW,D,F,hi,H,e]
theorem akd:be pE 124 [v,.i .i64 (i:Int)] []=some (.b (decide (K=1)&&nW s),[]):=by
 have hk:=Cd h 1
 obtain⟨J,O,D,F,r,H⟩:=h
 have hi:(i:Int)<n:=by omega
 have I:=qg s
 rw[gQ adu (by simp[S9])]
 by_cases e:K=1
 all_goals simp(maxDischargeDepth:=6) only[qA,seval,S9,D,F,hi,H,hk,I,e,rR,Fv]
end
def KX(s:List Nat):Int:=if s= [100,117,116,121]then 1 else if s= [114,101,115,116]then 2 else if s= [112,97,105,114,105,110,103]then 3 else 0
theorem Ng(s:List Nat):be pE 127 [.s s] []=some (.i .i64 (KX s),[]):=by
 rw[gQ TW (by simp[I5])]
 unfold KX
 by_cases r:s= [100,117,116,121]
 ·simp(maxDischargeDepth:=6) only[qA,seval,I5,r]
 ·by_cases D:s= [114,101,115,116]
  ·simp(maxDischargeDepth:=6) only[qA,seval,I5,r,D]
   rfl
  ·by_cases F:s= [112,97,105,114,105,110,103]
   ·simp(maxDischargeDepth:=6) only[qA,seval,I5,r,D,F]
    rfl
   ·simp(maxDischargeDepth:=6) only[qA,seval,I5,r,D,F]
def Nh:List (List Nat):= [[114,101,112,111,114,116],[114,101,108,101,97,115,101],[99,111,110,110,101,99,116],[115,105,116],[108,97,121,111,118,101,114],[103,117,97,114,97,110,116,101,101],[110,105,103,104,116]]
theorem ake{v:T}{n:Nat}{K:Int}{s:List Nat}{N:Int}(h:Tk v n 0 K s N)(hs:s∉Nh)(fr:Fr)(lh:gW b8)(sh:List b8)(H:an fr 2=v)(I:an fr 7= .sl (strs Nh) 7 true)(J:an fr 8= .i .i64 0):
  Lp pE 335 uh fr lh sh (.ext 0) fun f l s=>s=sh∧l=lh:=by
 have H9:Nh.length=7:=rfl
 have O:IsSl (T.sl (strs Nh) 7 true) Nh.length (strs Nh):= .inr ⟨_,rfl⟩
 obtain⟨_,_,Y,Z,r,D⟩:=h
 have D: ∀kk,lH v (.i kk 0) 4=some (.vp (.i .i64 K:: .s s:: .i .i64 N::r)):=D
 generalize T.sl (strs Nh) 7 true=fT at*
 refine kK xj (fun k f l s=>an f 8= .i .i64 (k:Int)∧s=sh∧l=lh) 7 ⟨J,rfl,rfl⟩ ?_ ?_
 ·rintro k f _ _ hk F ⟨g8,rfl,rfl⟩
  have U:(k:Int)<7:=by omega
  have V:=iJ (k:=k) (by omega)
  obtain⟨q,W⟩:=yV O k (by omega)
  have X: ¬s=Nh[k]:=fun e=>hs (e▸List.getElem_mem _)
  generalize Nh[k]=w at*
  simp(maxDischargeDepth:=6) only[qA,jq,qw,ig,seval,gd,uh,F,H,I,g8,U,V,D,W,X]
 ·rintro f _ _ F ⟨g8,rfl,rfl⟩
  have g8:an f 8= .i .i64 7:=g8
  simp only[qA,seval,gd,uh,F,g8,Int.lt_irrefl]
section
variable{E:Env}{call:pw}{n:Nat}{fr:Fr}{lh:gW b8}{sh:List b8}{ds:List (List Nat×dy)}{jl:List FP}{u:List Nat}
theorem acT{x v:im}{m k g off kk F H len sz:Nat}(hx:rd fr x= .ptr .S k g off)(V:rd fr v= .isl .S kk F H len sz)(LN:ti (gY sh k)=true):iw E call n ((u,⟨none,.st x v m,none⟩)::ds) jl ⟨fr,lh,sh⟩=
  if meets u jl (Mq (rd fr x))=true then ke E call n ds (jl++ [Mq (rd fr x)]) (dE E call n [⟨none,.st x v m,none⟩] ⟨fr,lh,sh⟩)else none:=by
 refine sk fun J=> ?_
 by_cases O:(decide ((cellsOf (rd fr v)).length≠m)|| !noTup (rd fr v))=true
 ·obtain⟨w,I,hr,r⟩:=tU (q:= .fail) (by rfl) (by rw[ko];simp only[iX,ry,hx];rw[if_pos O]) J
  simp[Q.run]at hr
 ·obtain⟨w,I,hr,r⟩:=tU (q:= .rd .S k (JX k g off m (rd fr v))) (by rfl) (by rw[ko];simp only[iX,ry,hx];rw[if_neg O];rfl) J
  simp only[Q.run,Q.log,Q.asks]at hr r
  have Ot:(St.mk fr lh sh).get .S k=gY sh k:=rfl
  generalize U:(St.mk fr lh sh).get .S k=e at hr r
  rw[←Ot,U]at LN
  obtain⟨W,ob⟩:=e
  unfold JX at hr r
  by_cases D:W=g
  ·cases ob with
   |none=>simp[D,Q.run]at hr
   |map ks Z z=>simp[D,Q.run]at hr
   |cells cs wm bx=>
    have LN:bx=true:=LN
    subst LN
    simp only[D,if_true]at hr r
    split at hr
    ·rename_i hc
     rw[if_pos hc]at r
     have hs:(true&&(Sp.S==Sp.L))=false:=rfl
     have EJ:(true&&(Sp.S==Sp.S))=true:=rfl
     have X:Ev.fz true iq (.isl .S kk F H len sz)= .ret (.isl .S kk F H len sz,[]):=rfl
     rw[hs,EJ,V,X]at hr r
     simp only[Bool.false_eq_true,if_false]at hr r
     simp only[Q.bind]at hr r
     split at hr
     ·simp[Q.run]at hr
     ·rename_i Y
      rw[if_neg Y]at r
      simp[Q.run]at hr
      obtain⟨rfl,rfl⟩:=hr
      rw[r (by simp[Ev.inB,AP,U]),hx]
      rfl
    ·simp[Q.run]at hr
  ·simp only[D,if_false,Q.run]at hr
   cases hr
def Ym(sh:List b8):T→Bool
 | .ptr .S k _ _=>ti (gY sh k)
 |_=>false
theorem l0{sh:List b8}{k g off:Nat}:Ym sh (.ptr .S k g off)=ti (gY sh k):=nr rfl
def Yn:T→Bool
 | .isl .S .. =>true
 |_=>false
theorem l6{k g off len sz:Nat}:Yn (.isl .S k g off len sz)=true:=nr rfl
theorem tG{x v:im}{m:Nat}(hx:Ym sh (rd fr x)=true)(D:Yn (rd fr v)=true):iw E call n ((u,⟨none,.st x v m,none⟩)::ds) jl ⟨fr,lh,sh⟩=
  if meets u jl (Mq (rd fr x))=true then ke E call n ds (jl++ [Mq (rd fr x)]) (dE E call n [⟨none,.st x v m,none⟩] ⟨fr,lh,sh⟩)else none:=by
 cases r:rd fr x with
 |ptr sp k g off=>
  cases sp with
  |L=>rw[r]at hx;cases hx
  |S=>
   cases F:rd fr v with
   |isl sp kk H I len sz=>
    cases sp with
    |L=>rw[F]at D;cases D
    |S=>
     rw[r]at hx
     have:=acT (E:=E) (call:=call) (n:=n) (lh:=lh) (ds:=ds) (jl:=jl) (u:=u) (m:=m) r F hx
     rw[this,r]
   |_=>rw[F]at D;cases D
 |_=>rw[r]at hx;cases hx
end
def qH(r:List T)(iK:T)(sn:List T)(n:Nat)(cs:List T):List b8:=
 ⟨1,.cells (r++ [iK,if n=0 then .nilsl else .isl .S 2 n 0 n 6,.nilsl,.nilsl,.nilsl,.nilsl,.i .i64 0]) 0 true⟩::⟨1,.cells sn 0 true⟩::if n=0 then []else [⟨n,.cells cs 0 false⟩]
theorem tZ(x0 x1 x2 x3 x4 x5 x6 iK:T)(sn:List T)(n:Nat)(hn:n≤100)(cs:List T)(I:cs.length=n*6)(v:T)(N:Nat)(r F:List Nat)(N0 N1 N2 N3:Int)(W:Tk v N 0 1 r N0)(h1:Tk v N 1 1 [114,117,108,101] N1)(h2:Tk v N 2 1 F N2)(h3:Tk v N 3 1 [105,115] N3)(X:r= [100,117,116,121]∨r= [114,101,115,116]∨r= [112,97,105,114,105,110,103])(Fa:nW F=true)
  (Y:T) (oa:rz v=some N) (Ia:Ad 4 v 4 N=some Y) (GL:froz Y=true) (a b c d:T) (ha:froz1 a=true∧froz1 b=true∧froz1 c=true∧froz1 d=true) (s:List b8) (he:be pE 126 [Y] []=some (.tup [.agg [a,b,c,d],.i .i64 (-1)],s)):
  be pE 79 [.ptr .S 0 1 0,.ptr .S 1 1 0,v] (qH [x0,x1,x2,x3,x4,x5,x6] iK sn n cs)=some (.i .i64 0,qH [x0,x1,x2,x3,x4,x5,x6] iK sn (n+1) (cs++ [.i .i64 (KX r),.s F,a,b,c,d])):=by
 have hs:r∉Nh:=by rcases X with rfl|rfl|rfl <;> decide
 have hL:=fun fr lh sh=>ake W hs fr lh sh
 have OT:=Cd W 1
 have E8:=Gt h1
 have J:=Gt h3
 have EU:=akd h2
 have O:=Ng r
 have U:KX r≠0:=by rcases X with rfl|rfl|rfl <;> decide
 have tb: ¬r= [99,111,110,115,116]:=by rcases X with rfl|rfl|rfl <;> decide
 obtain⟨_,_,Z,z2,r0,KY⟩:=W
 obtain⟨_,_,_,_,r2,H⟩:=h2
 have KY: ∀kk,lH v (.i kk 0) 4=some (.vp (.i .i64 1:: .s r:: .i .i64 N0::r0)):=KY
 have H: ∀kk,lH v (.i kk 2) 4=some (.vp (.i .i64 1:: .s F:: .i .i64 N2::r2)):=H
 generalize KX r=S at*
 have hfd:T.sl (strs Nh) 7 true= .sl [.s [114,101,112,111,114,116],.s [114,101,108,101,97,115,101],.s [99,111,110,110,101,99,116],.s [115,105,116],.s [108,97,121,111,118,101,114],.s [103,117,97,114,97,110,116,101,101],.s [110,105,103,104,116]] 7 true:=rfl
 rw[gQ ZE (by simp[Zq])]
 unfold qH
 have Yo:be pE 122 [v,.i .i64 0,.i .i64 1] []=some (.b (decide ((1:Int)=1)),[]):=OT
 simp(maxDischargeDepth:=6) only[qA,iY,seval,Zq,repl,Yo,Z,rR]
 generalize hD:DC pE 335 (.loop uh) _=D
 obtain⟨f2,l2,s2,rfl,⟨rfl,rfl⟩,V⟩:=E7 xj hD (hL _ _ _ (by simp only[qA,seval]) (by rw[hfd];simp only[qA,seval]) (by simp only[qA,seval]))
 have p0:an f2 0= .ptr .S 0 1 0:=by rw[V 0 (by decide)];simp only[qA,seval]
 have p1:an f2 1= .ptr .S 1 1 0:=by rw[V 1 (by decide)];simp only[qA,seval]
 have p2:an f2 2=v:=by rw[V 2 (by decide)];simp only[qA,seval]
 clear V hD hL
 have E8: ∀w,be pE 125 [v,.i .i64 1,.s w] []=some (.b (decide ((1:Int)=1∧ [114,117,108,101]=w)),[]):=E8
 have J: ∀w,be pE 125 [v,.i .i64 3,.s w] []=some (.b (decide ((1:Int)=1∧ [105,115]=w)),[]):=J
 have EU:be pE 124 [v,.i .i64 2] []=some (.b (decide ((1:Int)=1)&&nW F),[]):=EU
 rw[Fa]at EU
 have e1:=E8 [114,117,108,101]
 have e3:=J [105,115]
 simp only[and_self,decide_true]at e1 e3
 obtain⟨y1,y2,y3,y4⟩:=ha
 have y1':cellsOf a= [a]:=by cases a <;> simp_all[froz1,cellsOf]
 have Yp:80≤roomy:=by decide
 have Gu: ∀m,ri m .nilsl=⟨true,[],[(.S,m)]⟩:=fun _=>rfl
 by_cases Y3:n=0
 ·subst Y3
  have I:cs= []:=List.length_eq_zero_iff.1 (by omega)
  subst I
  have ni: ∀lh,Ev.stV lh [⟨1,.cells [x0,x1,x2,x3,x4,x5,x6,iK,.nilsl,.nilsl,.nilsl,.nilsl,.nilsl,.i .i64 0] 0 true⟩,⟨1,.cells sn 0 true⟩,⟨1,.cells [.i .i64 S,.s F,a,b,c,d] 0 false⟩] (.ptr .S 0 1 8) (.isl .S 2 1 0 1 6) 1=some (lh,[⟨1,.cells [x0,x1,x2,x3,x4,x5,x6,iK,.isl .S 2 1 0 1 6,.nilsl,.nilsl,.nilsl,.nilsl,.i .i64 0] 0 true⟩,⟨1,.cells sn 0 true⟩,⟨1,.cells [.i .i64 S,.s F,a,b,c,d] 0 false⟩]):=fun lh=>by
   rw[nl (by rfl) (by rfl),kz,if_pos ⟨rfl,rfl,rfl,Nat.zero_le _,by simp⟩]
   rfl
  simp(maxDischargeDepth:=6) only[qA,iY,jq,lR,jO,ig,seval,repl,p0,p1,p2,KY,H,tb,O,U,e1,e3,EU,oa,Ia,GL,he,Z,z2,y1,y2,y3,y4,rR,xz,xD,xE,xF,xG,jH,jZ,iz,jk,jf,iD,jC,jD,iO,Gu,tG,l0,ki,l6,kU,Yp,ni]
 ·have r81:(n+1)*80≤roomy:=by unfold roomy;omega
  have acU:n*6=cs.length:=I.symm
  have ni: ∀lh,Ev.stV lh [⟨1,.cells [x0,x1,x2,x3,x4,x5,x6,iK,.isl .S 2 n 0 n 6,.nilsl,.nilsl,.nilsl,.nilsl,.i .i64 0] 0 true⟩,⟨1,.cells sn 0 true⟩,⟨n+1,.cells (cs++ [.i .i64 S,.s F,a,b,c,d]) 0 false⟩] (.ptr .S 0 1 8) (.isl .S 2 (n+1) 0 (n+1) 6) 1=some (lh,[⟨1,.cells [x0,x1,x2,x3,x4,x5,x6,iK,.isl .S 2 (n+1) 0 (n+1) 6,.nilsl,.nilsl,.nilsl,.nilsl,.i .i64 0] 0 true⟩,⟨1,.cells sn 0 true⟩,⟨n+1,.cells (cs++ [.i .i64 S,.s F,a,b,c,d]) 0 false⟩]):=fun lh=>by
   rw[nl (by rfl) (by rfl),kz,if_pos ⟨rfl,rfl,rfl,Nat.zero_le _,by simp⟩]
   rfl
  have A2: ¬n+1=0:=by omega
  simp(maxDischargeDepth:=6) only[qA,iY,jq,lR,jO,ig,seval,repl,p0,p1,p2,KY,H,tb,O,U,e1,e3,EU,oa,Ia,GL,he,Z,z2,y1,y2,y3,y4,rR,xz,xD,xE,xF,xG,jH,jZ,iz,jk,jf,iD,jC,jD,iO,Gu,tG,l0,ki,l6,kU,Yp,ni,r81,acU,Y3,A2,kU,ri]
def xh(r:List T)(iK D:T)(sn:List T)(P:List b8)(n:Nat)(cs:List T):List b8:=
 ⟨1,.cells (r++ [iK,D,if n=0 then .nilsl else .isl .S (2+P.length) n 0 n 5,.nilsl,.nilsl,.nilsl,.i .i64 0]) 0 true⟩::⟨1,.cells sn 0 true⟩::(P++if n=0 then []else [⟨n,.cells cs 0 false⟩])
theorem Fb(x0 x1 x2 x3 x4 x5 x6 iK F:T)(sn:List T)(P:List b8)(hP:P.length≤1)(n:Nat)(hn:n≤100)(cs:List T)(J:cs.length=n*5)(v:T)(N:Nat)(r:List Nat)(N0 N1 N2:Int)(h0:Tk v N 0 1 r N0)(h1:Tk v N 1 1 [99,111,115,116] N1)(h2:Tk v N 2 1 [105,115] N2)(mF:r= [100,117,116,121]∨r= [114,101,115,116]∨r= [112,97,105,114,105,110,103])
  (tl:T) (oa:rz v=some N) (Ia:Ad 4 v 3 N=some tl) (GL:froz tl=true) (a b c d:T) (ha:froz1 a=true∧froz1 b=true∧froz1 c=true∧froz1 d=true) (s:List b8) (he:be pE 126 [tl] []=some (.tup [.agg [a,b,c,d],.i .i64 (-1)],s)):
  be pE 79 [.ptr .S 0 1 0,.ptr .S 1 1 0,v] (xh [x0,x1,x2,x3,x4,x5,x6] iK F sn P n cs)=some (.i .i64 0,xh [x0,x1,x2,x3,x4,x5,x6] iK F sn P (n+1) (cs++ [.i .i64 (KX r),a,b,c,d])):=by
 have hs:r∉Nh:=by rcases mF with rfl|rfl|rfl <;> decide
 have hL:=fun fr lh sh=>ake h0 hs fr lh sh
 have OT:=Cd h0 1
 have E8:=Gt h1
 have Et:=Gt h2
 have H:=Ng r
 have I:KX r≠0:=by rcases mF with rfl|rfl|rfl <;> decide
 have tb: ¬r= [99,111,110,115,116]:=by rcases mF with rfl|rfl|rfl <;> decide
 obtain⟨_,_,U,z2,r0,KY⟩:=h0
 have KY: ∀kk,lH v (.i kk 0) 4=some (.vp (.i .i64 1:: .s r:: .i .i64 N0::r0)):=KY
 generalize KX r=S at*
 have hfd:T.sl (strs Nh) 7 true= .sl [.s [114,101,112,111,114,116],.s [114,101,108,101,97,115,101],.s [99,111,110,110,101,99,116],.s [115,105,116],.s [108,97,121,111,118,101,114],.s [103,117,97,114,97,110,116,101,101],.s [110,105,103,104,116]] 7 true:=rfl
 rw[gQ ZE (by simp[Zq])]
 unfold xh
 have Yo:be pE 122 [v,.i .i64 0,.i .i64 1] []=some (.b (decide ((1:Int)=1)),[]):=OT
 simp(maxDischargeDepth:=6) only[qA,iY,seval,Zq,repl,Yo,U,rR]
 generalize hD:DC pE 335 (.loop uh) _=D
 obtain⟨f2,l2,s2,rfl,⟨rfl,rfl⟩,oM⟩:=E7 xj hD (hL _ _ _ (by simp only[qA,seval]) (by rw[hfd];simp only[qA,seval]) (by simp only[qA,seval]))
 have p0:an f2 0= .ptr .S 0 1 0:=by rw[oM 0 (by decide)];simp only[qA,seval]
 have p1:an f2 1= .ptr .S 1 1 0:=by rw[oM 1 (by decide)];simp only[qA,seval]
 have p2:an f2 2=v:=by rw[oM 2 (by decide)];simp only[qA,seval]
 clear oM hD hL
 have E8: ∀w,be pE 125 [v,.i .i64 1,.s w] []=some (.b (decide ((1:Int)=1∧ [99,111,115,116]=w)),[]):=E8
 have Et: ∀w,be pE 125 [v,.i .i64 2,.s w] []=some (.b (decide ((1:Int)=1∧ [105,115]=w)),[]):=Et
 have V:=E8 [99,111,115,116]
 have e2:be pE 125 [v,.i .i64 1,.s [114,117,108,101]] []=some (.b false,[]):=E8 [114,117,108,101]
 have W:=Et [105,115]
 simp only[and_self,decide_true]at V W
 obtain⟨y1,y2,y3,y4⟩:=ha
 have Yp:64≤roomy:=by decide
 have X:(n+1)*64≤roomy:=by unfold roomy;omega
 have Y:n*5=cs.length:=J.symm
 have A2: ¬n+1=0:=by omega
 have Z:P= []∨ ∃e,P= [e]:=by
  match P,hP with
  | [],_=>exact .inl rfl
  | [e],_=>exact .inr ⟨e,rfl⟩
 by_cases Y3:n=0
 ·subst Y3
  have J:cs= []:=List.length_eq_zero_iff.1 (by omega)
  subst J
  rcases Z with rfl|⟨e,rfl⟩
  ·have O: ∀lh,Ev.stV lh [⟨1,.cells [x0,x1,x2,x3,x4,x5,x6,iK,F,.nilsl,.nilsl,.nilsl,.nilsl,.i .i64 0] 0 true⟩,⟨1,.cells sn 0 true⟩,⟨1,.cells [.i .i64 S,a,b,c,d] 0 false⟩] (.ptr .S 0 1 9) (.isl .S 2 1 0 1 5) 1=some (lh,[⟨1,.cells [x0,x1,x2,x3,x4,x5,x6,iK,F,.isl .S 2 1 0 1 5,.nilsl,.nilsl,.nilsl,.i .i64 0] 0 true⟩,⟨1,.cells sn 0 true⟩,⟨1,.cells [.i .i64 S,a,b,c,d] 0 false⟩]):=fun lh=>by
    rw[nl (by rfl) (by rfl),kz,if_pos ⟨rfl,rfl,rfl,Nat.zero_le _,by simp⟩]
    rfl
   simp(maxDischargeDepth:=6) only[qA,iY,jq,lR,jO,ig,seval,repl,p0,p1,p2,KY,tb,H,I,V,e2,W,oa,Ia,GL,he,U,z2,y1,y2,y3,y4,rR,xz,xD,xE,xF,xG,jH,jZ,iz,jk,jf,iD,jC,jD,iO,ri,tG,l0,ki,l6,kU,Yp,O]
  ·have O: ∀lh,Ev.stV lh [⟨1,.cells [x0,x1,x2,x3,x4,x5,x6,iK,F,.nilsl,.nilsl,.nilsl,.nilsl,.i .i64 0] 0 true⟩,⟨1,.cells sn 0 true⟩,e,⟨1,.cells [.i .i64 S,a,b,c,d] 0 false⟩] (.ptr .S 0 1 9) (.isl .S 3 1 0 1 5) 1=some (lh,[⟨1,.cells [x0,x1,x2,x3,x4,x5,x6,iK,F,.isl .S 3 1 0 1 5,.nilsl,.nilsl,.nilsl,.i .i64 0] 0 true⟩,⟨1,.cells sn 0 true⟩,e,⟨1,.cells [.i .i64 S,a,b,c,d] 0 false⟩]):=fun lh=>by
    rw[nl (by rfl) (by rfl),kz,if_pos ⟨rfl,rfl,rfl,Nat.zero_le _,by simp⟩]
    rfl
   simp(maxDischargeDepth:=6) only[qA,iY,jq,lR,jO,ig,seval,repl,p0,p1,p2,KY,tb,H,I,V,e2,W,oa,Ia,GL,he,U,z2,y1,y2,y3,y4,rR,xz,xD,xE,xF,xG,jH,jZ,iz,jk,jf,iD,jC,jD,iO,ri,tG,l0,ki,l6,kU,Yp,O]
 ·rcases Z with rfl|⟨e,rfl⟩
  ·have O: ∀lh,Ev.stV lh [⟨1,.cells [x0,x1,x2,x3,x4,x5,x6,iK,F,.isl .S 2 n 0 n 5,.nilsl,.nilsl,.nilsl,.i .i64 0] 0 true⟩,⟨1,.cells sn 0 true⟩,⟨n+1,.cells (cs++ [.i .i64 S,a,b,c,d]) 0 false⟩] (.ptr .S 0 1 9) (.isl .S 2 (n+1) 0 (n+1) 5) 1=some (lh,[⟨1,.cells [x0,x1,x2,x3,x4,x5,x6,iK,F,.isl .S 2 (n+1) 0 (n+1) 5,.nilsl,.nilsl,.nilsl,.i .i64 0] 0 true⟩,⟨1,.cells sn 0 true⟩,⟨n+1,.cells (cs++ [.i .i64 S,a,b,c,d]) 0 false⟩]):=fun lh=>by
    rw[nl (by rfl) (by rfl),kz,if_pos ⟨rfl,rfl,rfl,Nat.zero_le _,by simp⟩]
    rfl
   simp(maxDischargeDepth:=6) only[qA,iY,jq,lR,jO,ig,seval,repl,p0,p1,p2,KY,tb,H,I,V,e2,W,oa,Ia,GL,he,U,z2,y1,y2,y3,y4,rR,xz,xD,xE,xF,xG,jH,jZ,iz,jk,jf,iD,jC,jD,iO,ri,tG,l0,ki,l6,kU,Yp,O,X,Y,Y3,A2]
  ·have O: ∀lh,Ev.stV lh [⟨1,.cells [x0,x1,x2,x3,x4,x5,x6,iK,F,.isl .S 3 n 0 n 5,.nilsl,.nilsl,.nilsl,.i .i64 0] 0 true⟩,⟨1,.cells sn 0 true⟩,e,⟨n+1,.cells (cs++ [.i .i64 S,a,b,c,d]) 0 false⟩] (.ptr .S 0 1 9) (.isl .S 3 (n+1) 0 (n+1) 5) 1=some (lh,[⟨1,.cells [x0,x1,x2,x3,x4,x5,x6,iK,F,.isl .S 3 (n+1) 0 (n+1) 5,.nilsl,.nilsl,.nilsl,.i .i64 0] 0 true⟩,⟨1,.cells sn 0 true⟩,e,⟨n+1,.cells (cs++ [.i .i64 S,a,b,c,d]) 0 false⟩]):=fun lh=>by
    rw[nl (by rfl) (by rfl),kz,if_pos ⟨rfl,rfl,rfl,Nat.zero_le _,by simp⟩]
    rfl
   simp(maxDischargeDepth:=6) only[qA,iY,jq,lR,jO,ig,seval,repl,p0,p1,p2,KY,tb,H,I,V,e2,W,oa,Ia,GL,he,U,z2,y1,y2,y3,y4,rR,xz,xD,xE,xF,xG,jH,jZ,iz,jk,jf,iD,jC,jD,iO,ri,tG,l0,ki,l6,kU,Yp,O,X,Y,Y3,A2]
def Ni(r:List T)(iK D D9:T)(sn:List T)(P:List b8)(cr:List T):List b8:=
 ⟨1,.cells (r++ [iK,D,D9,if cr= []then .nilsl else .isl .S (2+P.length) 1 0 1 4,.nilsl,.nilsl,.i .i64 0]) 0 true⟩::⟨1,.cells sn 0 true⟩::(P++if cr= []then []else [⟨1,.cells cr 0 false⟩])
theorem akf(x0 x1 x2 x3 x4 x5 x6 iK r D9:T)(sn:List T)(P:List b8)(hP:P.length≤2)(v:T)(N:Nat)(N0 N1 N2:Int)(W:Tk v N 0 1 [100,117,116,121] N0)(h1:Tk v N 1 1 [99,114,101,100,105,116] N1)(h2:Tk v N 2 1 [105,115] N2)
  (X:T) (Y:rz v=some N) (Ia:Ad 4 v 3 N=some X) (GL:froz X=true) (a b c d:T) (ha:froz1 a=true∧froz1 b=true∧froz1 c=true∧froz1 d=true) (s:List b8) (Z:be pE 126 [X] []=some (.tup [.agg [a,b,c,d],.i .i64 (-1)],s)):
  be pE 79 [.ptr .S 0 1 0,.ptr .S 1 1 0,v] (Ni [x0,x1,x2,x3,x4,x5,x6] iK r D9 sn P [])=some (.i .i64 0,Ni [x0,x1,x2,x3,x4,x5,x6] iK r D9 sn P [a,b,c,d]):=by
 have hs:([100,117,116,121]:List Nat)∉Nh:=by decide
 have hL:=fun fr lh sh=>ake W hs fr lh sh
 have OT:=Cd W 1
 have E8:=Gt h1
 have Et:=Gt h2
 have F:be pE 127 [.s [100,117,116,121]] []=some (.i .i64 1,[]):=Ng _
 have H:(1:Int)≠0:=by decide
 have tb: ¬([100,117,116,121]:List Nat)= [99,111,110,115,116]:=by decide
 obtain⟨_,_,J,z2,r0,KY⟩:=W
 have KY: ∀kk,lH v (.i kk 0) 4=some (.vp (.i .i64 1:: .s [100,117,116,121]:: .i .i64 N0::r0)):=KY
 have hfd:T.sl (strs Nh) 7 true= .sl [.s [114,101,112,111,114,116],.s [114,101,108,101,97,115,101],.s [99,111,110,110,101,99,116],.s [115,105,116],.s [108,97,121,111,118,101,114],.s [103,117,97,114,97,110,116,101,101],.s [110,105,103,104,116]] 7 true:=rfl
 rw[gQ ZE (by simp[Zq])]
 unfold Ni
 have Yo:be pE 122 [v,.i .i64 0,.i .i64 1] []=some (.b (decide ((1:Int)=1)),[]):=OT
 simp(maxDischargeDepth:=6) only[qA,iY,seval,Zq,repl,Yo,J,rR]
 generalize hD:DC pE 335 (.loop uh) _=D
 obtain⟨f2,l2,s2,rfl,⟨rfl,rfl⟩,O⟩:=E7 xj hD (hL _ _ _ (by simp only[qA,seval]) (by rw[hfd];simp only[qA,seval]) (by simp only[qA,seval]))
 have p0:an f2 0= .ptr .S 0 1 0:=by rw[O 0 (by decide)];simp only[qA,seval]
 have p1:an f2 1= .ptr .S 1 1 0:=by rw[O 1 (by decide)];simp only[qA,seval]
 have p2:an f2 2=v:=by rw[O 2 (by decide)];simp only[qA,seval]
 clear O hD hL
 have E8: ∀w,be pE 125 [v,.i .i64 1,.s w] []=some (.b (decide ((1:Int)=1∧ [99,114,101,100,105,116]=w)),[]):=E8
 have Et: ∀w,be pE 125 [v,.i .i64 2,.s w] []=some (.b (decide ((1:Int)=1∧ [105,115]=w)),[]):=Et
 have U:=E8 [99,114,101,100,105,116]
 have e4:be pE 125 [v,.i .i64 1,.s [99,111,115,116]] []=some (.b false,[]):=E8 [99,111,115,116]
 have e2:be pE 125 [v,.i .i64 1,.s [114,117,108,101]] []=some (.b false,[]):=E8 [114,117,108,101]
 have V:=Et [105,115]
 simp only[and_self,decide_true]at U V
 obtain⟨y1,y2,y3,y4⟩:=ha
 have Yp:56≤roomy:=by decide
 have hPc:P= []∨(∃e,P= [e])∨ ∃e f,P= [e,f]:=by
  match P,hP with
  | [],_=>exact .inl rfl
  | [e],_=>exact .inr (.inl ⟨e,rfl⟩)
  | [e,f],_=>exact .inr (.inr ⟨e,f,rfl⟩)
 rcases hPc with rfl|⟨e,rfl⟩|⟨e,f,rfl⟩
 ·have I: ∀lh,Ev.stV lh [⟨1,.cells [x0,x1,x2,x3,x4,x5,x6,iK,r,D9,.nilsl,.nilsl,.nilsl,.i .i64 0] 0 true⟩,⟨1,.cells sn 0 true⟩,⟨1,.cells [a,b,c,d] 0 false⟩] (.ptr .S 0 1 10) (.isl .S 2 1 0 1 4) 1=some (lh,[⟨1,.cells [x0,x1,x2,x3,x4,x5,x6,iK,r,D9,.isl .S 2 1 0 1 4,.nilsl,.nilsl,.i .i64 0] 0 true⟩,⟨1,.cells sn 0 true⟩,⟨1,.cells [a,b,c,d] 0 false⟩]):=fun lh=>by
   rw[nl (by rfl) (by rfl),kz,if_pos ⟨rfl,rfl,rfl,Nat.zero_le _,by simp⟩]
   rfl
  simp(maxDischargeDepth:=6) only[qA,iY,jq,lR,jO,ig,seval,repl,p0,p1,p2,KY,tb,F,H,U,e2,V,e4,Y,Ia,GL,Z,J,z2,y1,y2,y3,y4,rR,xz,xD,xE,xF,xG,jH,jZ,iz,jk,jf,iD,jC,jD,iO,ri,Bf,pq,tG,l0,ki,l6,kU,Yp,I]
 ·have I: ∀lh,Ev.stV lh [⟨1,.cells [x0,x1,x2,x3,x4,x5,x6,iK,r,D9,.nilsl,.nilsl,.nilsl,.i .i64 0] 0 true⟩,⟨1,.cells sn 0 true⟩,e,⟨1,.cells [a,b,c,d] 0 false⟩] (.ptr .S 0 1 10) (.isl .S 3 1 0 1 4) 1=some (lh,[⟨1,.cells [x0,x1,x2,x3,x4,x5,x6,iK,r,D9,.isl .S 3 1 0 1 4,.nilsl,.nilsl,.i .i64 0] 0 true⟩,⟨1,.cells sn 0 true⟩,e,⟨1,.cells [a,b,c,d] 0 false⟩]):=fun lh=>by
   rw[nl (by rfl) (by rfl),kz,if_pos ⟨rfl,rfl,rfl,Nat.zero_le _,by simp⟩]
   rfl
  simp(maxDischargeDepth:=6) only[qA,iY,jq,lR,jO,ig,seval,repl,p0,p1,p2,KY,tb,F,H,U,e2,V,e4,Y,Ia,GL,Z,J,z2,y1,y2,y3,y4,rR,xz,xD,xE,xF,xG,jH,jZ,iz,jk,jf,iD,jC,jD,iO,ri,Bf,pq,tG,l0,ki,l6,kU,Yp,I]
 ·have I: ∀lh,Ev.stV lh [⟨1,.cells [x0,x1,x2,x3,x4,x5,x6,iK,r,D9,.nilsl,.nilsl,.nilsl,.i .i64 0] 0 true⟩,⟨1,.cells sn 0 true⟩,e,f,⟨1,.cells [a,b,c,d] 0 false⟩] (.ptr .S 0 1 10) (.isl .S 4 1 0 1 4) 1=some (lh,[⟨1,.cells [x0,x1,x2,x3,x4,x5,x6,iK,r,D9,.isl .S 4 1 0 1 4,.nilsl,.nilsl,.i .i64 0] 0 true⟩,⟨1,.cells sn 0 true⟩,e,f,⟨1,.cells [a,b,c,d] 0 false⟩]):=fun lh=>by
   rw[nl (by rfl) (by rfl),kz,if_pos ⟨rfl,rfl,rfl,Nat.zero_le _,by simp⟩]
   rfl
  simp(maxDischargeDepth:=6) only[qA,iY,jq,lR,jO,ig,seval,repl,p0,p1,p2,KY,tb,F,H,U,e2,V,e4,Y,Ia,GL,Z,J,z2,y1,y2,y3,y4,rR,xz,xD,xE,xF,xG,jH,jZ,iz,jk,jf,iD,jC,jD,iO,ri,Bf,pq,tG,l0,ki,l6,kU,Yp,I]
def nD(r:List T)(iK:T)(sn:List T):List b8:= [⟨1,.cells (r++ [iK,.nilsl,.nilsl,.nilsl,.nilsl,.nilsl,.i .i64 0]) 0 true⟩,⟨1,.cells sn 0 true⟩]
theorem d00(x0 x1 x2 x3 x4 x5 x6:T):be pE 79 [.ptr .S 0 1 0,.ptr .S 1 1 0,.sl ajA 2 false] (nD [x0,x1,x2,x3,x4,x5,x6] .nilsl [.b false,.b false,.b false,.b false,.b false,.b false,.b false])=some (.i .i64 0,nD [.i .i64 (rpB 0),x1,x2,x3,x4,x5,x6] (.nilsl) [.b true,.b false,.b false,.b false,.b false,.b false,.b false]):=DCall_iff.2 ⟨1000,by rw[←gN];kernel_rfl⟩
theorem d01(x0 x1 x2 x3 x4 x5 x6:T):be pE 79 [.ptr .S 0 1 0,.ptr .S 1 1 0,.sl ajB 2 false] (nD [x0,x1,x2,x3,x4,x5,x6] .nilsl [.b false,.b false,.b false,.b false,.b false,.b false,.b false])=some (.i .i64 0,nD [.i .i64 (rpB 1),x1,x2,x3,x4,x5,x6] (.nilsl) [.b true,.b false,.b false,.b false,.b false,.b false,.b false]):=DCall_iff.2 ⟨1000,by rw[←gN];kernel_rfl⟩
theorem d02(x0 x1 x2 x3 x4 x5 x6:T):be pE 79 [.ptr .S 0 1 0,.ptr .S 1 1 0,.sl ajC 2 false] (nD [x0,x1,x2,x3,x4,x5,x6] .nilsl [.b false,.b false,.b false,.b false,.b false,.b false,.b false])=some (.i .i64 0,nD [.i .i64 (rpB 2),x1,x2,x3,x4,x5,x6] (.nilsl) [.b true,.b false,.b false,.b false,.b false,.b false,.b false]):=DCall_iff.2 ⟨1000,by rw[←gN];kernel_rfl⟩
theorem d10(x0 x1 x2 x3 x4 x5 x6:T):be pE 79 [.ptr .S 0 1 0,.ptr .S 1 1 0,.sl ajD 2 false] (nD [x0,x1,x2,x3,x4,x5,x6] .nilsl [.b true,.b false,.b false,.b false,.b false,.b false,.b false])=some (.i .i64 0,nD [x0,.i .i64 (rlB 0),x2,x3,x4,x5,x6] (.nilsl) [.b true,.b true,.b false,.b false,.b false,.b false,.b false]):=DCall_iff.2 ⟨1000,by rw[←gN];kernel_rfl⟩
theorem d11(x0 x1 x2 x3 x4 x5 x6:T):be pE 79 [.ptr .S 0 1 0,.ptr .S 1 1 0,.sl ajE 2 false] (nD [x0,x1,x2,x3,x4,x5,x6] .nilsl [.b true,.b false,.b false,.b false,.b false,.b false,.b false])=some (.i .i64 0,nD [x0,.i .i64 (rlB 1),x2,x3,x4,x5,x6] (.nilsl) [.b true,.b true,.b false,.b false,.b false,.b false,.b false]):=DCall_iff.2 ⟨1000,by rw[←gN];kernel_rfl⟩
theorem d12(x0 x1 x2 x3 x4 x5 x6:T):be pE 79 [.ptr .S 0 1 0,.ptr .S 1 1 0,.sl ajF 2 false] (nD [x0,x1,x2,x3,x4,x5,x6] .nilsl [.b true,.b false,.b false,.b false,.b false,.b false,.b false])=some (.i .i64 0,nD [x0,.i .i64 (rlB 2),x2,x3,x4,x5,x6] (.nilsl) [.b true,.b true,.b false,.b false,.b false,.b false,.b false]):=DCall_iff.2 ⟨1000,by rw[←gN];kernel_rfl⟩
theorem d20(x0 x1 x2 x3 x4 x5 x6:T):be pE 79 [.ptr .S 0 1 0,.ptr .S 1 1 0,.sl ajG 2 false] (nD [x0,x1,x2,x3,x4,x5,x6] .nilsl [.b true,.b true,.b false,.b false,.b false,.b false,.b false])=some (.i .i64 0,nD [x0,x1,.i .i64 (MW 0),x3,x4,x5,x6] (.nilsl) [.b true,.b true,.b true,.b false,.b false,.b false,.b false]):=DCall_iff.2 ⟨1000,by rw[←gN];kernel_rfl⟩
theorem d21(x0 x1 x2 x3 x4 x5 x6:T):be pE 79 [.ptr .S 0 1 0,.ptr .S 1 1 0,.sl ajH 2 false] (nD [x0,x1,x2,x3,x4,x5,x6] .nilsl [.b true,.b true,.b false,.b false,.b false,.b false,.b false])=some (.i .i64 0,nD [x0,x1,.i .i64 (MW 1),x3,x4,x5,x6] (.nilsl) [.b true,.b true,.b true,.b false,.b false,.b false,.b false]):=DCall_iff.2 ⟨1000,by rw[←gN];kernel_rfl⟩
theorem d22(x0 x1 x2 x3 x4 x5 x6:T):be pE 79 [.ptr .S 0 1 0,.ptr .S 1 1 0,.sl ajI 2 false] (nD [x0,x1,x2,x3,x4,x5,x6] .nilsl [.b true,.b true,.b false,.b false,.b false,.b false,.b false])=some (.i .i64 0,nD [x0,x1,.i .i64 (MW 2),x3,x4,x5,x6] (.nilsl) [.b true,.b true,.b true,.b false,.b false,.b false,.b false]):=DCall_iff.2 ⟨1000,by rw[←gN];kernel_rfl⟩
theorem d30(x0 x1 x2 x3 x4 x5 x6:T):be pE 79 [.ptr .S 0 1 0,.ptr .S 1 1 0,.sl ajJ 2 false] (nD [x0,x1,x2,x3,x4,x5,x6] .nilsl [.b true,.b true,.b true,.b false,.b false,.b false,.b false])=some (.i .i64 0,nD [x0,x1,x2,.i .i64 (EV 0),x4,x5,x6] (.nilsl) [.b true,.b true,.b true,.b true,.b false,.b false,.b false]):=DCall_iff.2 ⟨1000,by rw[←gN];kernel_rfl⟩
theorem d31(x0 x1 x2 x3 x4 x5 x6:T):be pE 79 [.ptr .S 0 1 0,.ptr .S 1 1 0,.sl ajK 2 false] (nD [x0,x1,x2,x3,x4,x5,x6] .nilsl [.b true,.b true,.b true,.b false,.b false,.b false,.b false])=some (.i .i64 0,nD [x0,x1,x2,.i .i64 (EV 1),x4,x5,x6] (.nilsl) [.b true,.b true,.b true,.b true,.b false,.b false,.b false]):=DCall_iff.2 ⟨1000,by rw[←gN];kernel_rfl⟩
theorem d32(x0 x1 x2 x3 x4 x5 x6:T):be pE 79 [.ptr .S 0 1 0,.ptr .S 1 1 0,.sl ajL 2 false] (nD [x0,x1,x2,x3,x4,x5,x6] .nilsl [.b true,.b true,.b true,.b false,.b false,.b false,.b false])=some (.i .i64 0,nD [x0,x1,x2,.i .i64 (EV 2),x4,x5,x6] (.nilsl) [.b true,.b true,.b true,.b true,.b false,.b false,.b false]):=DCall_iff.2 ⟨1000,by rw[←gN];kernel_rfl⟩
theorem d40(x0 x1 x2 x3 x4 x5 x6:T):be pE 79 [.ptr .S 0 1 0,.ptr .S 1 1 0,.sl ajM 2 false] (nD [x0,x1,x2,x3,x4,x5,x6] .nilsl [.b true,.b true,.b true,.b true,.b false,.b false,.b false])=some (.i .i64 0,nD [x0,x1,x2,x3,.i .i64 (lyB 0),x5,x6] (.nilsl) [.b true,.b true,.b true,.b true,.b true,.b false,.b false]):=DCall_iff.2 ⟨1000,by rw[←gN];kernel_rfl⟩
theorem d41(x0 x1 x2 x3 x4 x5 x6:T):be pE 79 [.ptr .S 0 1 0,.ptr .S 1 1 0,.sl ajN 2 false] (nD [x0,x1,x2,x3,x4,x5,x6] .nilsl [.b true,.b true,.b true,.b true,.b false,.b false,.b false])=some (.i .i64 0,nD [x0,x1,x2,x3,.i .i64 (lyB 1),x5,x6] (.nilsl) [.b true,.b true,.b true,.b true,.b true,.b false,.b false]):=DCall_iff.2 ⟨1000,by rw[←gN];kernel_rfl⟩
theorem d42(x0 x1 x2 x3 x4 x5 x6:T):be pE 79 [.ptr .S 0 1 0,.ptr .S 1 1 0,.sl ajO 2 false] (nD [x0,x1,x2,x3,x4,x5,x6] .nilsl [.b true,.b true,.b true,.b true,.b false,.b false,.b false])=some (.i .i64 0,nD [x0,x1,x2,x3,.i .i64 (lyB 2),x5,x6] (.nilsl) [.b true,.b true,.b true,.b true,.b true,.b false,.b false]):=DCall_iff.2 ⟨1000,by rw[←gN];kernel_rfl⟩
theorem d50(x0 x1 x2 x3 x4 x5 x6:T):be pE 79 [.ptr .S 0 1 0,.ptr .S 1 1 0,.sl ajP 4 false] (nD [x0,x1,x2,x3,x4,x5,x6] .nilsl [.b true,.b true,.b true,.b true,.b true,.b false,.b false])=some (.i .i64 0,nD [x0,x1,x2,x3,x4,.i .i64 (nfB 0),.i .i64 (ntB 0)] (.nilsl) [.b true,.b true,.b true,.b true,.b true,.b false,.b true]):=DCall_iff.2 ⟨1000,by rw[←gN];kernel_rfl⟩
theorem d51(x0 x1 x2 x3 x4 x5 x6:T):be pE 79 [.ptr .S 0 1 0,.ptr .S 1 1 0,.sl ajQ 4 false] (nD [x0,x1,x2,x3,x4,x5,x6] .nilsl [.b true,.b true,.b true,.b true,.b true,.b false,.b false])=some (.i .i64 0,nD [x0,x1,x2,x3,x4,.i .i64 (nfB 1),.i .i64 (ntB 1)] (.nilsl) [.b true,.b true,.b true,.b true,.b true,.b false,.b true]):=DCall_iff.2 ⟨1000,by rw[←gN];kernel_rfl⟩
theorem d52(x0 x1 x2 x3 x4 x5 x6:T):be pE 79 [.ptr .S 0 1 0,.ptr .S 1 1 0,.sl ajR 4 false] (nD [x0,x1,x2,x3,x4,x5,x6] .nilsl [.b true,.b true,.b true,.b true,.b true,.b false,.b false])=some (.i .i64 0,nD [x0,x1,x2,x3,x4,.i .i64 (nfB 2),.i .i64 (ntB 2)] (.nilsl) [.b true,.b true,.b true,.b true,.b true,.b false,.b true]):=DCall_iff.2 ⟨1000,by rw[←gN];kernel_rfl⟩
theorem d60(x0 x1 x2 x3 x4 x5 x6:T):be pE 79 [.ptr .S 0 1 0,.ptr .S 1 1 0,.sl ajS 4 false] (nD [x0,x1,x2,x3,x4,x5,x6] .nilsl [.b true,.b true,.b true,.b true,.b true,.b false,.b true])=some (.i .i64 0,nD [x0,x1,x2,x3,x4,x5,x6] (.sl (.s B9::mV (AE 0)) 1 false) [.b true,.b true,.b true,.b true,.b true,.b false,.b true]):=DCall_iff.2 ⟨1000,by rw[←gN];kernel_rfl⟩
theorem d61(x0 x1 x2 x3 x4 x5 x6:T):be pE 79 [.ptr .S 0 1 0,.ptr .S 1 1 0,.sl ajT 6 false] (nD [x0,x1,x2,x3,x4,x5,x6] .nilsl [.b true,.b true,.b true,.b true,.b true,.b false,.b true])=some (.i .i64 0,nD [x0,x1,x2,x3,x4,x5,x6] (.sl (.s B9::mV (AE 1)) 1 false) [.b true,.b true,.b true,.b true,.b true,.b false,.b true]):=DCall_iff.2 ⟨1000,by rw[←gN];kernel_rfl⟩
theorem d62(x0 x1 x2 x3 x4 x5 x6:T):be pE 79 [.ptr .S 0 1 0,.ptr .S 1 1 0,.sl ajU 7 false] (nD [x0,x1,x2,x3,x4,x5,x6] .nilsl [.b true,.b true,.b true,.b true,.b true,.b false,.b true])=some (.i .i64 0,nD [x0,x1,x2,x3,x4,x5,x6] (.sl (.s B9::mV (AE 2)) 1 false) [.b true,.b true,.b true,.b true,.b true,.b false,.b true]):=DCall_iff.2 ⟨1000,by rw[←gN];kernel_rfl⟩
def np(l:List Nat)(s r:List b8):Prop:= ∃Yq a u,∃n:Nat,be pE 78 [.s l] []=some (.tup [Yq,a,.i .i64 0],u)∧lenI Yq=some (.i .i64 ((n+1:Nat):Int))∧froz Yq=true∧be pE 79 [.ptr .S 0 1 0,.ptr .S 1 1 0,Yq] s=some (.i .i64 0,r)
def yX:List (List Nat)→List b8→List b8→Prop
 | [],s,r=>r=s
 |l::D,s,r=> ∃m,np l s m∧yX D m r
theorem uN: ∀{a b:List (List Nat)} {s m F:List b8},yX a s m→yX b m F→yX (a++b) s F
 | [],_,_,_,_,r,D=>by rw[yX]at r;subst r;exact D
 |l::a,_,_,_,_,⟨q,H,r⟩,D=>⟨q,H,uN r D⟩
theorem az9(v:T)(r:List (List Nat))(D:IsSl v r.length (strs r))(hb:r.length<1000000)(F:List b8)(fr:Fr)(lh:gW b8)(sh:List b8)(hs:yX r sh F)(I:an fr 5=v)(J:an fr 7= .ptr .S 0 1 0)(O:an fr 8= .ptr .S 1 1 0)(U:an fr 9= .i .i64 0):
  Lp pE 61 zu fr lh sh (.ext 0) fun f l s=>s=F∧l=lh:=by
 refine kK Iv (fun k f l s=>an f 9= .i .i64 (k:Int)∧l=lh∧yX (r.drop k) s F) r.length ⟨U,rfl,hs⟩ ?_ ?_
 ·rintro k f _ s hk H ⟨g9,rfl,hs⟩
  have V:(k:Int)<r.length:=by omega
  have W:=iJ (k:=k) (by omega)
  rw[List.drop_eq_getElem_cons hk]at hs
  obtain⟨s',⟨Yq,a,u,n,X,Y,Z,q4⟩,hs⟩:=hs
  obtain⟨q,iU⟩:=yV D k hk
  have wv:(0:Int)<((n+1:Nat):Int):=by omega
  simp(maxDischargeDepth:=6) only[qA,iY,seval,gd,zu,H,I,J,O,g9,D.lenI,V,iU,X,Y,Z,q4,wv,W,hs,awN,awO]
 ·rintro f _ s H ⟨g9,rfl,hs⟩
  rw[List.drop_length,yX]at hs
  subst hs
  simp only[qA,seval,gd,zu,H,I,g9,D.lenI,Int.lt_irrefl]
theorem rj: ∀(cs r:List T),r.length=cs.length→splice cs 0 r=r
 | [],[],_=>by simp[splice]
 | [],v::r,h=>by simp at h
 |c::cs,[],h=>by simp at h
 |c::cs,v::r,h=>by simp[splice,rj cs r (by simpa using h)]
def iZ(n:Int):T:= .i .i64 n
def kS0:List b8:=nD [iZ 0,iZ 0,iZ 0,iZ 1440,iZ 2880,iZ 0,iZ 0] .nilsl [.b false,.b false,.b false,.b false,.b false,.b false,.b false]
theorem Yr(r:List (List Nat))(hx:Ya (pN r))(U: ∀l∈r,10∉l)(hl:r.length≤1000)(rc cs:List T)(F:List b8)(H:rc.length=14)
  (I: ∀q lh,∃us,wG q lh (⟨1,.cells rc 0 true⟩::F) false rc=some (cs,us))
  (hs:yX r kS0 (⟨1,.cells rc 0 true⟩::F)) (s':List b8) (J:be pE 80 [.agg cs] []=some (.i .i64 0,s')):
  ∃V,be pE 47 [.s (pN r)] []=some (.tup [.agg cs,.i .i64 0,.i .i64 0],V):=by
 have W:=Yb r hx U hl
 have hv:IsSl (mQ r.length (strs r)) r.length (strs r):=nS fun h=>by
  rw[List.length_eq_zero_iff.1 h];rfl
 have O:=fun fr lh=>az9 (mQ r.length (strs r)) r hv (by omega) _ fr lh _ hs
 have X:=hv.froz1
 unfold kS0 nD iZ at O
 simp only[List.cons_append,List.nil_append]at O
 have O4:rc.take 14=rc:=by rw[←H];exact List.take_length
 have Y:=rj [T.i IntKind.i64 0,T.i IntKind.i64 0,T.i IntKind.i64 0,T.i IntKind.i64 0,T.i IntKind.i64 0,T.i IntKind.i64 0,T.i IntKind.i64 0,T.nilsl,T.nilsl,T.nilsl,T.nilsl,T.nilsl,T.nilsl,T.i IntKind.i64 0] rc (by rw[H];rfl)
 obtain⟨us,Z⟩: ∃us:Nat→gW b8→List Up,∀q lh,wG q lh (⟨1,.cells rc 0 true⟩::F) false rc=some (cs,us q lh):=⟨fun q lh=>(I q lh).choose,fun q lh=>(I q lh).choose_spec⟩
 rw[gQ aoQ (by simp[c47])]
 generalize pN r=tx at*
 generalize mQ r.length (strs r)=v at*
 simp(maxDischargeDepth:=6) only[qA,iY,seval,c47,repl,W,awL,X]
 generalize hD:DC pE 61 (.loop zu) _=D
 obtain⟨f2,l2,s2,rfl,⟨rfl,rfl⟩,oM⟩:=E7 Iv hD (O _ _ (by simp only[qA,seval]) (by simp only[qA,seval]) (by simp only[qA,seval]) (by simp only[qA,seval]))
 have p2:an f2 2= .ptr .L 2 1 0:=by rw[oM 2 (by decide)];simp only[qA,seval]
 have p7:an f2 7= .ptr .S 0 1 0:=by rw[oM 7 (by decide)];simp only[qA,seval]
 clear oM hD O
 simp(maxDischargeDepth:=6) only[qA,iY,seval,p2,p7,J,awP,H,O4,Y,Z]
 exact⟨_,rfl⟩
mutual
theorem AI: ∀x:Ex,mC x (mV x)
 | .mk op n s []=>by
   rw[mV,mC]
   exact⟨_,[],rfl,.inl ⟨rfl,rfl,rfl⟩,by rw[j3]⟩
 | .mk op n s (b::r)=>by
   rw[mV,mC]
   refine⟨_,mV b++R6 r,rfl,.inr ⟨_,rfl⟩, ?_⟩
   rw[j3]
   exact⟨_,_,rfl,AI b,PE r⟩
theorem PE: ∀l:List Ex,j3 l (R6 l)
 | []=>by rw[R6,j3]
 |x::r=>by
  rw[R6,j3]
  exact⟨_,_,rfl,AI x,PE r⟩
end
theorem iM(x:Ex): ∃d,mV x= [.i .i64 x.op,.i .i64 x.num,.s x.name,d]∧froz1 d=true:=by
 cases x with
 |mk op n s a=>
  cases a with
  |nil=>exact⟨.nilsl,by rw[mV];rfl,rfl⟩
  |cons b r=>exact⟨_,by rw[mV];rfl,rfl⟩
def mU(u:Ru):List T:= .i .i64 u.sc:: .s u.nm::mV u.x
def ua(u:Co):List T:= .i .i64 u.sc::mV u.x
theorem akg(u:Ru):Sv u (mU u):=by
 have h:=AI u.x
 obtain⟨H,I,x⟩:=u
 cases x with
 |mk op n s a=>
  rw[mC]at h
  obtain⟨d,r,e,D,F⟩:=h
  exact⟨d,r,by unfold mU;rw[e];rfl,D,F⟩
theorem akh(u:Co):Zd u (ua u):=by
 have h:=AI u.x
 obtain⟨H,x⟩:=u
 cases x with
 |mk op n s a=>
  rw[mC]at h
  obtain⟨d,r,e,D,F⟩:=h
  exact⟨d,r,by unfold ua;rw[e];rfl,D,F⟩
theorem Eg: ∀l:List Ru,hZ Sv l (l.flatMap mU)
 | []=>rfl
 |u::l=>⟨_,_,rfl,akg u,Eg l⟩
theorem KZ: ∀l:List Co,hZ Zd l (l.flatMap ua)
 | []=>rfl
 |u::l=>⟨_,_,rfl,akh u,KZ l⟩
end Go.Proofs.YtcpceiclnbmgiaaGreat
