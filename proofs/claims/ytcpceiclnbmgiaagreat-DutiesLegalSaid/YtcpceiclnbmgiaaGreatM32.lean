/- Walks of functions of the program and of the reference, and their plain laws, part 32. Conditions: the theorems' own. -/
import Derived.Test.YtcpceiclnbmgiaaGreatM23
import Derived.KernelRfl
set_option maxRecDepth 100000
set_option linter.unusedSimpArgs false
set_option linter.unusedVariables false
set_option maxRecDepth 1000000
set_option maxHeartbeats 16000000
namespace Go.Proofs.YtcpceiclnbmgiaaGreat
open Go Go.Ev
def Tk(v:T)(n i:Nat)(K:Int)(s:List Nat)(N:Int):Prop:=i<n∧n≤1000∧froz v=true∧lenI v=some (.i .i64 (n:Int))∧ ∃r,∀kk,lR v (.i kk (i:Int)) 4=some (.vp (.i .i64 K:: .s s:: .i .i64 N::r))
theorem Tk.of(cs:List T)(n i:Nat)(K:Int)(s:List Nat)(N:Int)(r:List T)(hi:i<n)(D:n≤1000)(F:cs.length=n*4)(h:cs.drop (i*4)= .i .i64 K:: .s s:: .i .i64 N::r):Tk (.sl cs n false) n i K s N:=by
 refine⟨hi,D,rfl,rfl,r,fun kk=> ?_⟩
 rw[oc,if_pos ⟨by omega,by simpa using hi,by rw[F];simp only[Int.toNat_natCast];omega⟩,Int.toNat_natCast,h]
section
variable{v:T}{n i:Nat}{K:Int}{s:List Nat}{N:Int}(h:Tk v n i K s N)
include h
theorem CB(k:Int):be pE 122 [v,.i .i64 (i:Int),.i .i64 k] []=some (.b (decide (K=k)),[]):=by
 obtain⟨I,J,D,F,r,H⟩:=h
 have hi:(i:Int)<n:=by omega
 rw[il ad5 (by simp[TI])]
 by_cases e:K=k
 all_goals simp(maxDischargeDepth:=6) only[qA,seval,TI,D,F,hi,H,e]
theorem G0(w:List Nat):be pE 125 [v,.i .i64 (i:Int),.s w] []=some (.b (decide (K=1∧s=w)),[]):=by
 obtain⟨J,O,D,F,r,H⟩:=h
 have hi:(i:Int)<n:=by omega
 rw[il ad7 (by simp[Qr])]
 by_cases e:K=1
 ·by_cases I:s=w
  all_goals simp(maxDischargeDepth:=6) only[qA,seval,Qr,D,F,hi,H,e,I]
 ·simp(maxDischargeDepth:=6) only[qA,seval,Qr,D,F,hi,H,e]
theorem akt:be pE 124 [v,.i .i64 (i:Int)] []=some (.b (decide (K=1)&&og s),[]):=by
 have hk:=CB h 1
 obtain⟨J,O,D,F,r,H⟩:=h
 have hi:(i:Int)<n:=by omega
 have I:=qy s
 rw[il ad6 (by simp[TJ])]
 by_cases e:K=1
 all_goals simp(maxDischargeDepth:=6) only[qA,seval,TJ,D,F,hi,H,hk,I,e,sk,F6]
end
def Lv(s:List Nat):Int:=if s= [100,117,116,121]then 1 else if s= [114,101,115,116]then 2 else if s= [112,97,105,114,105,110,103]then 3 else 0
theorem NL(s:List Nat):be pE 127 [.s s] []=some (.i .i64 (Lv s),[]):=by
 rw[il Ur (by simp[JB])]
 unfold Lv
 by_cases r:s= [100,117,116,121]
 ·simp(maxDischargeDepth:=6) only[qA,seval,JB,r]
 ·by_cases D:s= [114,101,115,116]
  ·simp(maxDischargeDepth:=6) only[qA,seval,JB,r,D]
   rfl
  ·by_cases F:s= [112,97,105,114,105,110,103]
   ·simp(maxDischargeDepth:=6) only[qA,seval,JB,r,D,F]
    rfl
   ·simp(maxDischargeDepth:=6) only[qA,seval,JB,r,D,F]
def NM:List (List Nat):= [[114,101,112,111,114,116],[114,101,108,101,97,115,101],[99,111,110,110,101,99,116],[115,105,116],[108,97,121,111,118,101,114],[103,117,97,114,97,110,116,101,101],[110,105,103,104,116]]
theorem aku{v:T}{n:Nat}{K:Int}{s:List Nat}{N:Int}(h:Tk v n 0 K s N)(hs:s∉NM)(fr:Fr)(lh:iw b8)(sh:List b8)(H:an fr 2=v)(I:an fr 7= .sl (strs NM) 7 true)(J:an fr 8= .i .i64 0):
  Lp pE 335 uB fr lh sh (.ext 0) fun f l s=>s=sh∧l=lh:=by
 have IE:NM.length=7:=rfl
 have O:IsSl (T.sl (strs NM) 7 true) NM.length (strs NM):= .inr ⟨_,rfl⟩
 obtain⟨_,_,Y,Z,r,D⟩:=h
 have D: ∀kk,lR v (.i kk 0) 4=some (.vp (.i .i64 K:: .s s:: .i .i64 N::r)):=D
 generalize T.sl (strs NM) 7 true=fT at*
 refine kE xU (fun k f l s=>an f 8= .i .i64 (k:Int)∧s=sh∧l=lh) 7 ⟨J,rfl,rfl⟩ ?_ ?_
 ·rintro k f _ _ hk F ⟨g8,rfl,rfl⟩
  have U:(k:Int)<7:=by omega
  have V:=iO (k:=k) (by omega)
  obtain⟨q,W⟩:=zJ O k (by omega)
  have X: ¬s=NM[k]:=fun e=>hs (e▸List.getElem_mem _)
  generalize NM[k]=w at*
  simp(maxDischargeDepth:=6) only[qA,jG,sN,iE,seval,gd,uB,F,H,I,g8,U,V,D,W,X]
 ·rintro f _ _ F ⟨g8,rfl,rfl⟩
  have g8:an f 8= .i .i64 7:=g8
  simp only[qA,seval,gd,uB,F,g8,Int.lt_irrefl]
section
variable{E:Env}{call:pU}{n:Nat}{fr:Fr}{lh:iw b8}{sh:List b8}{ds:List (List Nat×dy)}{jJ:List FP}{u:List Nat}
theorem adu{x v:iF}{m k g off kk F H len sz:Nat}(hx:rd fr x= .ptr .S k g off)(V:rd fr v= .isl .S kk F H len sz)(Mg:tF (iz sh k)=true):iN E call n ((u,⟨none,.st x v m,none⟩)::ds) jJ ⟨fr,lh,sh⟩=
  if meets u jJ (MS (rd fr x))=true then ke E call n ds (jJ++ [MS (rd fr x)]) (dE E call n [⟨none,.st x v m,none⟩] ⟨fr,lh,sh⟩)else none:=by
 refine uk fun J=> ?_
 by_cases O:(decide ((cellsOf (rd fr v)).length≠m)|| !noTup (rd fr v))=true
 ·obtain⟨w,I,hr,r⟩:=wb (q:= .fail) (by rfl) (by rw[lj];simp only[jk,rV,hx];rw[if_pos O]) J
  simp[Q.run]at hr
 ·obtain⟨w,I,hr,r⟩:=wb (q:= .rd .S k (Kr k g off m (rd fr v))) (by rfl) (by rw[lj];simp only[jk,rV,hx];rw[if_neg O];rfl) J
  simp only[Q.run,Q.log,Q.asks]at hr r
  have OZ:(St.mk fr lh sh).get .S k=iz sh k:=rfl
  generalize U:(St.mk fr lh sh).get .S k=e at hr r
  rw[←OZ,U]at Mg
  obtain⟨W,ob⟩:=e
  unfold Kr at hr r
  by_cases D:W=g
  ·cases ob with
   |none=>simp[D,Q.run]at hr
   |map ks Z z=>simp[D,Q.run]at hr
   |cells cs wm bx=>
    have Mg:bx=true:=Mg
    subst Mg
    simp only[D,if_true]at hr r
    split at hr
    ·rename_i hc
     rw[if_pos hc]at r
     have hs:(true&&(Sp.S==Sp.L))=false:=rfl
     have Fg:(true&&(Sp.S==Sp.S))=true:=rfl
     have X:Ev.fz true iG (.isl .S kk F H len sz)= .ret (.isl .S kk F H len sz,[]):=rfl
     rw[hs,Fg,V,X]at hr r
     simp only[Bool.false_eq_true,if_false]at hr r
     simp only[Q.bind]at hr r
     split at hr
     ·simp[Q.run]at hr
     ·rename_i Y
      rw[if_neg Y]at r
      simp[Q.run]at hr
      obtain⟨rfl,rfl⟩:=hr
      rw[r (by simp[Ev.inB,Bi,U]),hx]
      rfl
    ·simp[Q.run]at hr
  ·simp only[D,if_false,Q.run]at hr
   cases hr
def YE(sh:List b8):T→Bool
 | .ptr .S k _ _=>tF (iz sh k)
 |_=>false
theorem mj{sh:List b8}{k g off:Nat}:YE sh (.ptr .S k g off)=tF (iz sh k):=nr rfl
def YF:T→Bool
 | .isl .S .. =>true
 |_=>false
theorem ml{k g off len sz:Nat}:YF (.isl .S k g off len sz)=true:=nr rfl
theorem tV{x v:iF}{m:Nat}(hx:YE sh (rd fr x)=true)(D:YF (rd fr v)=true):iN E call n ((u,⟨none,.st x v m,none⟩)::ds) jJ ⟨fr,lh,sh⟩=
  if meets u jJ (MS (rd fr x))=true then ke E call n ds (jJ++ [MS (rd fr x)]) (dE E call n [⟨none,.st x v m,none⟩] ⟨fr,lh,sh⟩)else none:=by
 cases r:rd fr x with
 |ptr sp k g off=>
  cases sp with
  |L=>rw[r]at hx;cases hx
  |S=>
   cases F:rd fr v with
   |isl sp kk H I len sz=>
    cases sp with
    |L=>rw[F]at D;cases D
    |S=>
     rw[r]at hx
     have:=adu (E:=E) (call:=call) (n:=n) (lh:=lh) (ds:=ds) (jJ:=jJ) (u:=u) (m:=m) r F hx
     rw[this,r]
   |_=>rw[F]at D;cases D
 |_=>rw[r]at hx;cases hx
end
def qX(r:List T)(iY:T)(sn:List T)(n:Nat)(cs:List T):List b8:=
 ⟨1,.cells (r++ [iY,if n=0 then .nilsl else .isl .S 2 n 0 n 6,.nilsl,.nilsl,.nilsl,.nilsl,.i .i64 0]) 0 true⟩::⟨1,.cells sn 0 true⟩::if n=0 then []else [⟨n,.cells cs 0 false⟩]
theorem ux(x0 x1 x2 x3 x4 x5 x6 iY:T)(sn:List T)(n:Nat)(hn:n≤100)(cs:List T)(I:cs.length=n*6)(v:T)(N:Nat)(r F:List Nat)(N0 N1 N2 N3:Int)(W:Tk v N 0 1 r N0)(h1:Tk v N 1 1 [114,117,108,101] N1)(h2:Tk v N 2 1 F N2)(h3:Tk v N 3 1 [105,115] N3)(X:r= [100,117,116,121]∨r= [114,101,115,116]∨r= [112,97,105,114,105,110,103])(FQ:og F=true)
  (Y:T) (nR:su v=some N) (IG:HA 4 v 4 N=some Y) (Hh:froz Y=true) (a b c d:T) (ha:froz1 a=true∧froz1 b=true∧froz1 c=true∧froz1 d=true) (s:List b8) (he:be pE 126 [Y] []=some (.tup [.agg [a,b,c,d],.i .i64 (-1)],s)):
  be pE 79 [.ptr .S 0 1 0,.ptr .S 1 1 0,v] (qX [x0,x1,x2,x3,x4,x5,x6] iY sn n cs)=some (.i .i64 0,qX [x0,x1,x2,x3,x4,x5,x6] iY sn (n+1) (cs++ [.i .i64 (Lv r),.s F,a,b,c,d])):=by
 have hs:r∉NM:=by rcases X with rfl|rfl|rfl <;> decide
 have hL:=fun fr lh sh=>aku W hs fr lh sh
 have LX:=CB W 1
 have E8:=G0 h1
 have J:=G0 h3
 have Fu:=akt h2
 have O:=NL r
 have U:Lv r≠0:=by rcases X with rfl|rfl|rfl <;> decide
 have uj: ¬r= [99,111,110,115,116]:=by rcases X with rfl|rfl|rfl <;> decide
 obtain⟨_,_,Z,z2,r0,Lw⟩:=W
 obtain⟨_,_,_,_,r2,H⟩:=h2
 have Lw: ∀kk,lR v (.i kk 0) 4=some (.vp (.i .i64 1:: .s r:: .i .i64 N0::r0)):=Lw
 have H: ∀kk,lR v (.i kk 2) 4=some (.vp (.i .i64 1:: .s F:: .i .i64 N2::r2)):=H
 generalize Lv r=S at*
 have hfd:T.sl (strs NM) 7 true= .sl [.s [114,101,112,111,114,116],.s [114,101,108,101,97,115,101],.s [99,111,110,110,101,99,116],.s [115,105,116],.s [108,97,121,111,118,101,114],.s [103,117,97,114,97,110,116,101,101],.s [110,105,103,104,116]] 7 true:=rfl
 rw[il aab (by simp[ZZ])]
 unfold qX
 have YG:be pE 122 [v,.i .i64 0,.i .i64 1] []=some (.b (decide ((1:Int)=1)),[]):=LX
 simp(maxDischargeDepth:=6) only[qA,jm,seval,ZZ,repl,YG,Z,sk]
 generalize hD:DC pE 335 (.loop uB) _=D
 obtain⟨f2,l2,s2,rfl,⟨rfl,rfl⟩,V⟩:=Cq xU hD (hL _ _ _ (by simp only[qA,seval]) (by rw[hfd];simp only[qA,seval]) (by simp only[qA,seval]))
 have p0:an f2 0= .ptr .S 0 1 0:=by rw[V 0 (by decide)];simp only[qA,seval]
 have p1:an f2 1= .ptr .S 1 1 0:=by rw[V 1 (by decide)];simp only[qA,seval]
 have p2:an f2 2=v:=by rw[V 2 (by decide)];simp only[qA,seval]
 clear V hD hL
 have E8: ∀w,be pE 125 [v,.i .i64 1,.s w] []=some (.b (decide ((1:Int)=1∧ [114,117,108,101]=w)),[]):=E8
 have J: ∀w,be pE 125 [v,.i .i64 3,.s w] []=some (.b (decide ((1:Int)=1∧ [105,115]=w)),[]):=J
 have Fu:be pE 124 [v,.i .i64 2] []=some (.b (decide ((1:Int)=1)&&og F),[]):=Fu
 rw[FQ]at Fu
 have e1:=E8 [114,117,108,101]
 have e3:=J [105,115]
 simp only[and_self,decide_true]at e1 e3
 obtain⟨y1,y2,y3,y4⟩:=ha
 have y1':cellsOf a= [a]:=by cases a <;> simp_all[froz1,cellsOf]
 have YH:80≤roomy:=by decide
 have G1: ∀m,rP m .nilsl=⟨true,[],[(.S,m)]⟩:=fun _=>rfl
 by_cases Zy:n=0
 ·subst Zy
  have I:cs= []:=List.length_eq_zero_iff.1 (by omega)
  subst I
  have nF: ∀lh,Ev.stV lh [⟨1,.cells [x0,x1,x2,x3,x4,x5,x6,iY,.nilsl,.nilsl,.nilsl,.nilsl,.nilsl,.i .i64 0] 0 true⟩,⟨1,.cells sn 0 true⟩,⟨1,.cells [.i .i64 S,.s F,a,b,c,d] 0 false⟩] (.ptr .S 0 1 8) (.isl .S 2 1 0 1 6) 1=some (lh,[⟨1,.cells [x0,x1,x2,x3,x4,x5,x6,iY,.isl .S 2 1 0 1 6,.nilsl,.nilsl,.nilsl,.nilsl,.i .i64 0] 0 true⟩,⟨1,.cells sn 0 true⟩,⟨1,.cells [.i .i64 S,.s F,a,b,c,d] 0 false⟩]):=fun lh=>by
   rw[nI (by rfl) (by rfl),kS,if_pos ⟨rfl,rfl,rfl,Nat.zero_le _,by simp⟩]
   rfl
  simp(maxDischargeDepth:=6) only[qA,jm,jG,mc,j2,iE,seval,repl,p0,p1,p2,Lw,H,uj,O,U,e1,e3,Fu,nR,IG,Hh,he,Z,z2,y1,y2,y3,y4,sk,yi,yj,yk,yl,ym,jV,kl,iK,jx,jt,iQ,jQ,jR,jc,G1,tV,mj,kI,ml,lz,YH,nF]
 ·have r81:(n+1)*80≤roomy:=by unfold roomy;omega
  have adv:n*6=cs.length:=I.symm
  have nF: ∀lh,Ev.stV lh [⟨1,.cells [x0,x1,x2,x3,x4,x5,x6,iY,.isl .S 2 n 0 n 6,.nilsl,.nilsl,.nilsl,.nilsl,.i .i64 0] 0 true⟩,⟨1,.cells sn 0 true⟩,⟨n+1,.cells (cs++ [.i .i64 S,.s F,a,b,c,d]) 0 false⟩] (.ptr .S 0 1 8) (.isl .S 2 (n+1) 0 (n+1) 6) 1=some (lh,[⟨1,.cells [x0,x1,x2,x3,x4,x5,x6,iY,.isl .S 2 (n+1) 0 (n+1) 6,.nilsl,.nilsl,.nilsl,.nilsl,.i .i64 0] 0 true⟩,⟨1,.cells sn 0 true⟩,⟨n+1,.cells (cs++ [.i .i64 S,.s F,a,b,c,d]) 0 false⟩]):=fun lh=>by
   rw[nI (by rfl) (by rfl),kS,if_pos ⟨rfl,rfl,rfl,Nat.zero_le _,by simp⟩]
   rfl
  have B8: ¬n+1=0:=by omega
  simp(maxDischargeDepth:=6) only[qA,jm,jG,mc,j2,iE,seval,repl,p0,p1,p2,Lw,H,uj,O,U,e1,e3,Fu,nR,IG,Hh,he,Z,z2,y1,y2,y3,y4,sk,yi,yj,yk,yl,ym,jV,kl,iK,jx,jt,iQ,jQ,jR,jc,G1,tV,mj,kI,ml,lz,YH,nF,r81,adv,Zy,B8,lz,rP]
def xS(r:List T)(iY D:T)(sn:List T)(P:List b8)(n:Nat)(cs:List T):List b8:=
 ⟨1,.cells (r++ [iY,D,if n=0 then .nilsl else .isl .S (2+P.length) n 0 n 5,.nilsl,.nilsl,.nilsl,.i .i64 0]) 0 true⟩::⟨1,.cells sn 0 true⟩::(P++if n=0 then []else [⟨n,.cells cs 0 false⟩])
theorem FR(x0 x1 x2 x3 x4 x5 x6 iY F:T)(sn:List T)(P:List b8)(hP:P.length≤1)(n:Nat)(hn:n≤100)(cs:List T)(J:cs.length=n*5)(v:T)(N:Nat)(r:List Nat)(N0 N1 N2:Int)(h0:Tk v N 0 1 r N0)(h1:Tk v N 1 1 [99,111,115,116] N1)(h2:Tk v N 2 1 [105,115] N2)(m9:r= [100,117,116,121]∨r= [114,101,115,116]∨r= [112,97,105,114,105,110,103])
  (tl:T) (nR:su v=some N) (IG:HA 4 v 3 N=some tl) (Hh:froz tl=true) (a b c d:T) (ha:froz1 a=true∧froz1 b=true∧froz1 c=true∧froz1 d=true) (s:List b8) (he:be pE 126 [tl] []=some (.tup [.agg [a,b,c,d],.i .i64 (-1)],s)):
  be pE 79 [.ptr .S 0 1 0,.ptr .S 1 1 0,v] (xS [x0,x1,x2,x3,x4,x5,x6] iY F sn P n cs)=some (.i .i64 0,xS [x0,x1,x2,x3,x4,x5,x6] iY F sn P (n+1) (cs++ [.i .i64 (Lv r),a,b,c,d])):=by
 have hs:r∉NM:=by rcases m9 with rfl|rfl|rfl <;> decide
 have hL:=fun fr lh sh=>aku h0 hs fr lh sh
 have LX:=CB h0 1
 have E8:=G0 h1
 have B7:=G0 h2
 have H:=NL r
 have I:Lv r≠0:=by rcases m9 with rfl|rfl|rfl <;> decide
 have uj: ¬r= [99,111,110,115,116]:=by rcases m9 with rfl|rfl|rfl <;> decide
 obtain⟨_,_,U,z2,r0,Lw⟩:=h0
 have Lw: ∀kk,lR v (.i kk 0) 4=some (.vp (.i .i64 1:: .s r:: .i .i64 N0::r0)):=Lw
 generalize Lv r=S at*
 have hfd:T.sl (strs NM) 7 true= .sl [.s [114,101,112,111,114,116],.s [114,101,108,101,97,115,101],.s [99,111,110,110,101,99,116],.s [115,105,116],.s [108,97,121,111,118,101,114],.s [103,117,97,114,97,110,116,101,101],.s [110,105,103,104,116]] 7 true:=rfl
 rw[il aab (by simp[ZZ])]
 unfold xS
 have YG:be pE 122 [v,.i .i64 0,.i .i64 1] []=some (.b (decide ((1:Int)=1)),[]):=LX
 simp(maxDischargeDepth:=6) only[qA,jm,seval,ZZ,repl,YG,U,sk]
 generalize hD:DC pE 335 (.loop uB) _=D
 obtain⟨f2,l2,s2,rfl,⟨rfl,rfl⟩,nw⟩:=Cq xU hD (hL _ _ _ (by simp only[qA,seval]) (by rw[hfd];simp only[qA,seval]) (by simp only[qA,seval]))
 have p0:an f2 0= .ptr .S 0 1 0:=by rw[nw 0 (by decide)];simp only[qA,seval]
 have p1:an f2 1= .ptr .S 1 1 0:=by rw[nw 1 (by decide)];simp only[qA,seval]
 have p2:an f2 2=v:=by rw[nw 2 (by decide)];simp only[qA,seval]
 clear nw hD hL
 have E8: ∀w,be pE 125 [v,.i .i64 1,.s w] []=some (.b (decide ((1:Int)=1∧ [99,111,115,116]=w)),[]):=E8
 have B7: ∀w,be pE 125 [v,.i .i64 2,.s w] []=some (.b (decide ((1:Int)=1∧ [105,115]=w)),[]):=B7
 have V:=E8 [99,111,115,116]
 have e2:be pE 125 [v,.i .i64 1,.s [114,117,108,101]] []=some (.b false,[]):=E8 [114,117,108,101]
 have W:=B7 [105,115]
 simp only[and_self,decide_true]at V W
 obtain⟨y1,y2,y3,y4⟩:=ha
 have YH:64≤roomy:=by decide
 have X:(n+1)*64≤roomy:=by unfold roomy;omega
 have Y:n*5=cs.length:=J.symm
 have B8: ¬n+1=0:=by omega
 have Z:P= []∨ ∃e,P= [e]:=by
  match P,hP with
  | [],_=>exact .inl rfl
  | [e],_=>exact .inr ⟨e,rfl⟩
 by_cases Zy:n=0
 ·subst Zy
  have J:cs= []:=List.length_eq_zero_iff.1 (by omega)
  subst J
  rcases Z with rfl|⟨e,rfl⟩
  ·have O: ∀lh,Ev.stV lh [⟨1,.cells [x0,x1,x2,x3,x4,x5,x6,iY,F,.nilsl,.nilsl,.nilsl,.nilsl,.i .i64 0] 0 true⟩,⟨1,.cells sn 0 true⟩,⟨1,.cells [.i .i64 S,a,b,c,d] 0 false⟩] (.ptr .S 0 1 9) (.isl .S 2 1 0 1 5) 1=some (lh,[⟨1,.cells [x0,x1,x2,x3,x4,x5,x6,iY,F,.isl .S 2 1 0 1 5,.nilsl,.nilsl,.nilsl,.i .i64 0] 0 true⟩,⟨1,.cells sn 0 true⟩,⟨1,.cells [.i .i64 S,a,b,c,d] 0 false⟩]):=fun lh=>by
    rw[nI (by rfl) (by rfl),kS,if_pos ⟨rfl,rfl,rfl,Nat.zero_le _,by simp⟩]
    rfl
   simp(maxDischargeDepth:=6) only[qA,jm,jG,mc,j2,iE,seval,repl,p0,p1,p2,Lw,uj,H,I,V,e2,W,nR,IG,Hh,he,U,z2,y1,y2,y3,y4,sk,yi,yj,yk,yl,ym,jV,kl,iK,jx,jt,iQ,jQ,jR,jc,rP,tV,mj,kI,ml,lz,YH,O]
  ·have O: ∀lh,Ev.stV lh [⟨1,.cells [x0,x1,x2,x3,x4,x5,x6,iY,F,.nilsl,.nilsl,.nilsl,.nilsl,.i .i64 0] 0 true⟩,⟨1,.cells sn 0 true⟩,e,⟨1,.cells [.i .i64 S,a,b,c,d] 0 false⟩] (.ptr .S 0 1 9) (.isl .S 3 1 0 1 5) 1=some (lh,[⟨1,.cells [x0,x1,x2,x3,x4,x5,x6,iY,F,.isl .S 3 1 0 1 5,.nilsl,.nilsl,.nilsl,.i .i64 0] 0 true⟩,⟨1,.cells sn 0 true⟩,e,⟨1,.cells [.i .i64 S,a,b,c,d] 0 false⟩]):=fun lh=>by
    rw[nI (by rfl) (by rfl),kS,if_pos ⟨rfl,rfl,rfl,Nat.zero_le _,by simp⟩]
    rfl
   simp(maxDischargeDepth:=6) only[qA,jm,jG,mc,j2,iE,seval,repl,p0,p1,p2,Lw,uj,H,I,V,e2,W,nR,IG,Hh,he,U,z2,y1,y2,y3,y4,sk,yi,yj,yk,yl,ym,jV,kl,iK,jx,jt,iQ,jQ,jR,jc,rP,tV,mj,kI,ml,lz,YH,O]
 ·rcases Z with rfl|⟨e,rfl⟩
  ·have O: ∀lh,Ev.stV lh [⟨1,.cells [x0,x1,x2,x3,x4,x5,x6,iY,F,.isl .S 2 n 0 n 5,.nilsl,.nilsl,.nilsl,.i .i64 0] 0 true⟩,⟨1,.cells sn 0 true⟩,⟨n+1,.cells (cs++ [.i .i64 S,a,b,c,d]) 0 false⟩] (.ptr .S 0 1 9) (.isl .S 2 (n+1) 0 (n+1) 5) 1=some (lh,[⟨1,.cells [x0,x1,x2,x3,x4,x5,x6,iY,F,.isl .S 2 (n+1) 0 (n+1) 5,.nilsl,.nilsl,.nilsl,.i .i64 0] 0 true⟩,⟨1,.cells sn 0 true⟩,⟨n+1,.cells (cs++ [.i .i64 S,a,b,c,d]) 0 false⟩]):=fun lh=>by
    rw[nI (by rfl) (by rfl),kS,if_pos ⟨rfl,rfl,rfl,Nat.zero_le _,by simp⟩]
    rfl
   simp(maxDischargeDepth:=6) only[qA,jm,jG,mc,j2,iE,seval,repl,p0,p1,p2,Lw,uj,H,I,V,e2,W,nR,IG,Hh,he,U,z2,y1,y2,y3,y4,sk,yi,yj,yk,yl,ym,jV,kl,iK,jx,jt,iQ,jQ,jR,jc,rP,tV,mj,kI,ml,lz,YH,O,X,Y,Zy,B8]
  ·have O: ∀lh,Ev.stV lh [⟨1,.cells [x0,x1,x2,x3,x4,x5,x6,iY,F,.isl .S 3 n 0 n 5,.nilsl,.nilsl,.nilsl,.i .i64 0] 0 true⟩,⟨1,.cells sn 0 true⟩,e,⟨n+1,.cells (cs++ [.i .i64 S,a,b,c,d]) 0 false⟩] (.ptr .S 0 1 9) (.isl .S 3 (n+1) 0 (n+1) 5) 1=some (lh,[⟨1,.cells [x0,x1,x2,x3,x4,x5,x6,iY,F,.isl .S 3 (n+1) 0 (n+1) 5,.nilsl,.nilsl,.nilsl,.i .i64 0] 0 true⟩,⟨1,.cells sn 0 true⟩,e,⟨n+1,.cells (cs++ [.i .i64 S,a,b,c,d]) 0 false⟩]):=fun lh=>by
    rw[nI (by rfl) (by rfl),kS,if_pos ⟨rfl,rfl,rfl,Nat.zero_le _,by simp⟩]
    rfl
   simp(maxDischargeDepth:=6) only[qA,jm,jG,mc,j2,iE,seval,repl,p0,p1,p2,Lw,uj,H,I,V,e2,W,nR,IG,Hh,he,U,z2,y1,y2,y3,y4,sk,yi,yj,yk,yl,ym,jV,kl,iK,jx,jt,iQ,jQ,jR,jc,rP,tV,mj,kI,ml,lz,YH,O,X,Y,Zy,B8]
def NN(r:List T)(iY D ED:T)(sn:List T)(P:List b8)(cr:List T):List b8:=
 ⟨1,.cells (r++ [iY,D,ED,if cr= []then .nilsl else .isl .S (2+P.length) 1 0 1 4,.nilsl,.nilsl,.i .i64 0]) 0 true⟩::⟨1,.cells sn 0 true⟩::(P++if cr= []then []else [⟨1,.cells cr 0 false⟩])
theorem akv(x0 x1 x2 x3 x4 x5 x6 iY r ED:T)(sn:List T)(P:List b8)(hP:P.length≤2)(v:T)(N:Nat)(N0 N1 N2:Int)(W:Tk v N 0 1 [100,117,116,121] N0)(h1:Tk v N 1 1 [99,114,101,100,105,116] N1)(h2:Tk v N 2 1 [105,115] N2)
  (X:T) (Y:su v=some N) (IG:HA 4 v 3 N=some X) (Hh:froz X=true) (a b c d:T) (ha:froz1 a=true∧froz1 b=true∧froz1 c=true∧froz1 d=true) (s:List b8) (Z:be pE 126 [X] []=some (.tup [.agg [a,b,c,d],.i .i64 (-1)],s)):
  be pE 79 [.ptr .S 0 1 0,.ptr .S 1 1 0,v] (NN [x0,x1,x2,x3,x4,x5,x6] iY r ED sn P [])=some (.i .i64 0,NN [x0,x1,x2,x3,x4,x5,x6] iY r ED sn P [a,b,c,d]):=by
 have hs:([100,117,116,121]:List Nat)∉NM:=by decide
 have hL:=fun fr lh sh=>aku W hs fr lh sh
 have LX:=CB W 1
 have E8:=G0 h1
 have B7:=G0 h2
 have F:be pE 127 [.s [100,117,116,121]] []=some (.i .i64 1,[]):=NL _
 have H:(1:Int)≠0:=by decide
 have uj: ¬([100,117,116,121]:List Nat)= [99,111,110,115,116]:=by decide
 obtain⟨_,_,J,z2,r0,Lw⟩:=W
 have Lw: ∀kk,lR v (.i kk 0) 4=some (.vp (.i .i64 1:: .s [100,117,116,121]:: .i .i64 N0::r0)):=Lw
 have hfd:T.sl (strs NM) 7 true= .sl [.s [114,101,112,111,114,116],.s [114,101,108,101,97,115,101],.s [99,111,110,110,101,99,116],.s [115,105,116],.s [108,97,121,111,118,101,114],.s [103,117,97,114,97,110,116,101,101],.s [110,105,103,104,116]] 7 true:=rfl
 rw[il aab (by simp[ZZ])]
 unfold NN
 have YG:be pE 122 [v,.i .i64 0,.i .i64 1] []=some (.b (decide ((1:Int)=1)),[]):=LX
 simp(maxDischargeDepth:=6) only[qA,jm,seval,ZZ,repl,YG,J,sk]
 generalize hD:DC pE 335 (.loop uB) _=D
 obtain⟨f2,l2,s2,rfl,⟨rfl,rfl⟩,O⟩:=Cq xU hD (hL _ _ _ (by simp only[qA,seval]) (by rw[hfd];simp only[qA,seval]) (by simp only[qA,seval]))
 have p0:an f2 0= .ptr .S 0 1 0:=by rw[O 0 (by decide)];simp only[qA,seval]
 have p1:an f2 1= .ptr .S 1 1 0:=by rw[O 1 (by decide)];simp only[qA,seval]
 have p2:an f2 2=v:=by rw[O 2 (by decide)];simp only[qA,seval]
 clear O hD hL
 have E8: ∀w,be pE 125 [v,.i .i64 1,.s w] []=some (.b (decide ((1:Int)=1∧ [99,114,101,100,105,116]=w)),[]):=E8
 have B7: ∀w,be pE 125 [v,.i .i64 2,.s w] []=some (.b (decide ((1:Int)=1∧ [105,115]=w)),[]):=B7
 have U:=E8 [99,114,101,100,105,116]
 have e4:be pE 125 [v,.i .i64 1,.s [99,111,115,116]] []=some (.b false,[]):=E8 [99,111,115,116]
 have e2:be pE 125 [v,.i .i64 1,.s [114,117,108,101]] []=some (.b false,[]):=E8 [114,117,108,101]
 have V:=B7 [105,115]
 simp only[and_self,decide_true]at U V
 obtain⟨y1,y2,y3,y4⟩:=ha
 have YH:56≤roomy:=by decide
 have hPc:P= []∨(∃e,P= [e])∨ ∃e f,P= [e,f]:=by
  match P,hP with
  | [],_=>exact .inl rfl
  | [e],_=>exact .inr (.inl ⟨e,rfl⟩)
  | [e,f],_=>exact .inr (.inr ⟨e,f,rfl⟩)
 rcases hPc with rfl|⟨e,rfl⟩|⟨e,f,rfl⟩
 ·have I: ∀lh,Ev.stV lh [⟨1,.cells [x0,x1,x2,x3,x4,x5,x6,iY,r,ED,.nilsl,.nilsl,.nilsl,.i .i64 0] 0 true⟩,⟨1,.cells sn 0 true⟩,⟨1,.cells [a,b,c,d] 0 false⟩] (.ptr .S 0 1 10) (.isl .S 2 1 0 1 4) 1=some (lh,[⟨1,.cells [x0,x1,x2,x3,x4,x5,x6,iY,r,ED,.isl .S 2 1 0 1 4,.nilsl,.nilsl,.i .i64 0] 0 true⟩,⟨1,.cells sn 0 true⟩,⟨1,.cells [a,b,c,d] 0 false⟩]):=fun lh=>by
   rw[nI (by rfl) (by rfl),kS,if_pos ⟨rfl,rfl,rfl,Nat.zero_le _,by simp⟩]
   rfl
  simp(maxDischargeDepth:=6) only[qA,jm,jG,mc,j2,iE,seval,repl,p0,p1,p2,Lw,uj,F,H,U,e2,V,e4,Y,IG,Hh,Z,J,z2,y1,y2,y3,y4,sk,yi,yj,yk,yl,ym,jV,kl,iK,jx,jt,iQ,jQ,jR,jc,rP,BD,pN,tV,mj,kI,ml,lz,YH,I]
 ·have I: ∀lh,Ev.stV lh [⟨1,.cells [x0,x1,x2,x3,x4,x5,x6,iY,r,ED,.nilsl,.nilsl,.nilsl,.i .i64 0] 0 true⟩,⟨1,.cells sn 0 true⟩,e,⟨1,.cells [a,b,c,d] 0 false⟩] (.ptr .S 0 1 10) (.isl .S 3 1 0 1 4) 1=some (lh,[⟨1,.cells [x0,x1,x2,x3,x4,x5,x6,iY,r,ED,.isl .S 3 1 0 1 4,.nilsl,.nilsl,.i .i64 0] 0 true⟩,⟨1,.cells sn 0 true⟩,e,⟨1,.cells [a,b,c,d] 0 false⟩]):=fun lh=>by
   rw[nI (by rfl) (by rfl),kS,if_pos ⟨rfl,rfl,rfl,Nat.zero_le _,by simp⟩]
   rfl
  simp(maxDischargeDepth:=6) only[qA,jm,jG,mc,j2,iE,seval,repl,p0,p1,p2,Lw,uj,F,H,U,e2,V,e4,Y,IG,Hh,Z,J,z2,y1,y2,y3,y4,sk,yi,yj,yk,yl,ym,jV,kl,iK,jx,jt,iQ,jQ,jR,jc,rP,BD,pN,tV,mj,kI,ml,lz,YH,I]
 ·have I: ∀lh,Ev.stV lh [⟨1,.cells [x0,x1,x2,x3,x4,x5,x6,iY,r,ED,.nilsl,.nilsl,.nilsl,.i .i64 0] 0 true⟩,⟨1,.cells sn 0 true⟩,e,f,⟨1,.cells [a,b,c,d] 0 false⟩] (.ptr .S 0 1 10) (.isl .S 4 1 0 1 4) 1=some (lh,[⟨1,.cells [x0,x1,x2,x3,x4,x5,x6,iY,r,ED,.isl .S 4 1 0 1 4,.nilsl,.nilsl,.i .i64 0] 0 true⟩,⟨1,.cells sn 0 true⟩,e,f,⟨1,.cells [a,b,c,d] 0 false⟩]):=fun lh=>by
   rw[nI (by rfl) (by rfl),kS,if_pos ⟨rfl,rfl,rfl,Nat.zero_le _,by simp⟩]
   rfl
  simp(maxDischargeDepth:=6) only[qA,jm,jG,mc,j2,iE,seval,repl,p0,p1,p2,Lw,uj,F,H,U,e2,V,e4,Y,IG,Hh,Z,J,z2,y1,y2,y3,y4,sk,yi,yj,yk,yl,ym,jV,kl,iK,jx,jt,iQ,jQ,jR,jc,rP,BD,pN,tV,mj,kI,ml,lz,YH,I]
def nS(r:List T)(iY:T)(sn:List T):List b8:= [⟨1,.cells (r++ [iY,.nilsl,.nilsl,.nilsl,.nilsl,.nilsl,.i .i64 0]) 0 true⟩,⟨1,.cells sn 0 true⟩]
theorem d00(x0 x1 x2 x3 x4 x5 x6:T):be pE 79 [.ptr .S 0 1 0,.ptr .S 1 1 0,.sl ajR 2 false] (nS [x0,x1,x2,x3,x4,x5,x6] .nilsl [.b false,.b false,.b false,.b false,.b false,.b false,.b false])=some (.i .i64 0,nS [.i .i64 (rpB 0),x1,x2,x3,x4,x5,x6] (.nilsl) [.b true,.b false,.b false,.b false,.b false,.b false,.b false]):=DCall_iff.2 ⟨1000,by rw[←gP];kernel_rfl⟩
theorem d01(x0 x1 x2 x3 x4 x5 x6:T):be pE 79 [.ptr .S 0 1 0,.ptr .S 1 1 0,.sl ajS 2 false] (nS [x0,x1,x2,x3,x4,x5,x6] .nilsl [.b false,.b false,.b false,.b false,.b false,.b false,.b false])=some (.i .i64 0,nS [.i .i64 (rpB 1),x1,x2,x3,x4,x5,x6] (.nilsl) [.b true,.b false,.b false,.b false,.b false,.b false,.b false]):=DCall_iff.2 ⟨1000,by rw[←gP];kernel_rfl⟩
theorem d02(x0 x1 x2 x3 x4 x5 x6:T):be pE 79 [.ptr .S 0 1 0,.ptr .S 1 1 0,.sl ajT 2 false] (nS [x0,x1,x2,x3,x4,x5,x6] .nilsl [.b false,.b false,.b false,.b false,.b false,.b false,.b false])=some (.i .i64 0,nS [.i .i64 (rpB 2),x1,x2,x3,x4,x5,x6] (.nilsl) [.b true,.b false,.b false,.b false,.b false,.b false,.b false]):=DCall_iff.2 ⟨1000,by rw[←gP];kernel_rfl⟩
theorem d10(x0 x1 x2 x3 x4 x5 x6:T):be pE 79 [.ptr .S 0 1 0,.ptr .S 1 1 0,.sl ajU 2 false] (nS [x0,x1,x2,x3,x4,x5,x6] .nilsl [.b true,.b false,.b false,.b false,.b false,.b false,.b false])=some (.i .i64 0,nS [x0,.i .i64 (rlB 0),x2,x3,x4,x5,x6] (.nilsl) [.b true,.b true,.b false,.b false,.b false,.b false,.b false]):=DCall_iff.2 ⟨1000,by rw[←gP];kernel_rfl⟩
theorem d11(x0 x1 x2 x3 x4 x5 x6:T):be pE 79 [.ptr .S 0 1 0,.ptr .S 1 1 0,.sl ajV 2 false] (nS [x0,x1,x2,x3,x4,x5,x6] .nilsl [.b true,.b false,.b false,.b false,.b false,.b false,.b false])=some (.i .i64 0,nS [x0,.i .i64 (rlB 1),x2,x3,x4,x5,x6] (.nilsl) [.b true,.b true,.b false,.b false,.b false,.b false,.b false]):=DCall_iff.2 ⟨1000,by rw[←gP];kernel_rfl⟩
theorem d12(x0 x1 x2 x3 x4 x5 x6:T):be pE 79 [.ptr .S 0 1 0,.ptr .S 1 1 0,.sl ajW 2 false] (nS [x0,x1,x2,x3,x4,x5,x6] .nilsl [.b true,.b false,.b false,.b false,.b false,.b false,.b false])=some (.i .i64 0,nS [x0,.i .i64 (rlB 2),x2,x3,x4,x5,x6] (.nilsl) [.b true,.b true,.b false,.b false,.b false,.b false,.b false]):=DCall_iff.2 ⟨1000,by rw[←gP];kernel_rfl⟩
theorem d20(x0 x1 x2 x3 x4 x5 x6:T):be pE 79 [.ptr .S 0 1 0,.ptr .S 1 1 0,.sl ajX 2 false] (nS [x0,x1,x2,x3,x4,x5,x6] .nilsl [.b true,.b true,.b false,.b false,.b false,.b false,.b false])=some (.i .i64 0,nS [x0,x1,.i .i64 (Nv 0),x3,x4,x5,x6] (.nilsl) [.b true,.b true,.b true,.b false,.b false,.b false,.b false]):=DCall_iff.2 ⟨1000,by rw[←gP];kernel_rfl⟩
theorem d21(x0 x1 x2 x3 x4 x5 x6:T):be pE 79 [.ptr .S 0 1 0,.ptr .S 1 1 0,.sl ajY 2 false] (nS [x0,x1,x2,x3,x4,x5,x6] .nilsl [.b true,.b true,.b false,.b false,.b false,.b false,.b false])=some (.i .i64 0,nS [x0,x1,.i .i64 (Nv 1),x3,x4,x5,x6] (.nilsl) [.b true,.b true,.b true,.b false,.b false,.b false,.b false]):=DCall_iff.2 ⟨1000,by rw[←gP];kernel_rfl⟩
theorem d22(x0 x1 x2 x3 x4 x5 x6:T):be pE 79 [.ptr .S 0 1 0,.ptr .S 1 1 0,.sl ajZ 2 false] (nS [x0,x1,x2,x3,x4,x5,x6] .nilsl [.b true,.b true,.b false,.b false,.b false,.b false,.b false])=some (.i .i64 0,nS [x0,x1,.i .i64 (Nv 2),x3,x4,x5,x6] (.nilsl) [.b true,.b true,.b true,.b false,.b false,.b false,.b false]):=DCall_iff.2 ⟨1000,by rw[←gP];kernel_rfl⟩
theorem d30(x0 x1 x2 x3 x4 x5 x6:T):be pE 79 [.ptr .S 0 1 0,.ptr .S 1 1 0,.sl aj0 2 false] (nS [x0,x1,x2,x3,x4,x5,x6] .nilsl [.b true,.b true,.b true,.b false,.b false,.b false,.b false])=some (.i .i64 0,nS [x0,x1,x2,.i .i64 (Fv 0),x4,x5,x6] (.nilsl) [.b true,.b true,.b true,.b true,.b false,.b false,.b false]):=DCall_iff.2 ⟨1000,by rw[←gP];kernel_rfl⟩
theorem d31(x0 x1 x2 x3 x4 x5 x6:T):be pE 79 [.ptr .S 0 1 0,.ptr .S 1 1 0,.sl aj1 2 false] (nS [x0,x1,x2,x3,x4,x5,x6] .nilsl [.b true,.b true,.b true,.b false,.b false,.b false,.b false])=some (.i .i64 0,nS [x0,x1,x2,.i .i64 (Fv 1),x4,x5,x6] (.nilsl) [.b true,.b true,.b true,.b true,.b false,.b false,.b false]):=DCall_iff.2 ⟨1000,by rw[←gP];kernel_rfl⟩
theorem d32(x0 x1 x2 x3 x4 x5 x6:T):be pE 79 [.ptr .S 0 1 0,.ptr .S 1 1 0,.sl aj2 2 false] (nS [x0,x1,x2,x3,x4,x5,x6] .nilsl [.b true,.b true,.b true,.b false,.b false,.b false,.b false])=some (.i .i64 0,nS [x0,x1,x2,.i .i64 (Fv 2),x4,x5,x6] (.nilsl) [.b true,.b true,.b true,.b true,.b false,.b false,.b false]):=DCall_iff.2 ⟨1000,by rw[←gP];kernel_rfl⟩
theorem d40(x0 x1 x2 x3 x4 x5 x6:T):be pE 79 [.ptr .S 0 1 0,.ptr .S 1 1 0,.sl aj3 2 false] (nS [x0,x1,x2,x3,x4,x5,x6] .nilsl [.b true,.b true,.b true,.b true,.b false,.b false,.b false])=some (.i .i64 0,nS [x0,x1,x2,x3,.i .i64 (lyB 0),x5,x6] (.nilsl) [.b true,.b true,.b true,.b true,.b true,.b false,.b false]):=DCall_iff.2 ⟨1000,by rw[←gP];kernel_rfl⟩
theorem d41(x0 x1 x2 x3 x4 x5 x6:T):be pE 79 [.ptr .S 0 1 0,.ptr .S 1 1 0,.sl aj4 2 false] (nS [x0,x1,x2,x3,x4,x5,x6] .nilsl [.b true,.b true,.b true,.b true,.b false,.b false,.b false])=some (.i .i64 0,nS [x0,x1,x2,x3,.i .i64 (lyB 1),x5,x6] (.nilsl) [.b true,.b true,.b true,.b true,.b true,.b false,.b false]):=DCall_iff.2 ⟨1000,by rw[←gP];kernel_rfl⟩
theorem d42(x0 x1 x2 x3 x4 x5 x6:T):be pE 79 [.ptr .S 0 1 0,.ptr .S 1 1 0,.sl aj5 2 false] (nS [x0,x1,x2,x3,x4,x5,x6] .nilsl [.b true,.b true,.b true,.b true,.b false,.b false,.b false])=some (.i .i64 0,nS [x0,x1,x2,x3,.i .i64 (lyB 2),x5,x6] (.nilsl) [.b true,.b true,.b true,.b true,.b true,.b false,.b false]):=DCall_iff.2 ⟨1000,by rw[←gP];kernel_rfl⟩
theorem d50(x0 x1 x2 x3 x4 x5 x6:T):be pE 79 [.ptr .S 0 1 0,.ptr .S 1 1 0,.sl aj6 4 false] (nS [x0,x1,x2,x3,x4,x5,x6] .nilsl [.b true,.b true,.b true,.b true,.b true,.b false,.b false])=some (.i .i64 0,nS [x0,x1,x2,x3,x4,.i .i64 (nfB 0),.i .i64 (ntB 0)] (.nilsl) [.b true,.b true,.b true,.b true,.b true,.b false,.b true]):=DCall_iff.2 ⟨1000,by rw[←gP];kernel_rfl⟩
theorem d51(x0 x1 x2 x3 x4 x5 x6:T):be pE 79 [.ptr .S 0 1 0,.ptr .S 1 1 0,.sl aj7 4 false] (nS [x0,x1,x2,x3,x4,x5,x6] .nilsl [.b true,.b true,.b true,.b true,.b true,.b false,.b false])=some (.i .i64 0,nS [x0,x1,x2,x3,x4,.i .i64 (nfB 1),.i .i64 (ntB 1)] (.nilsl) [.b true,.b true,.b true,.b true,.b true,.b false,.b true]):=DCall_iff.2 ⟨1000,by rw[←gP];kernel_rfl⟩
theorem d52(x0 x1 x2 x3 x4 x5 x6:T):be pE 79 [.ptr .S 0 1 0,.ptr .S 1 1 0,.sl aj8 4 false] (nS [x0,x1,x2,x3,x4,x5,x6] .nilsl [.b true,.b true,.b true,.b true,.b true,.b false,.b false])=some (.i .i64 0,nS [x0,x1,x2,x3,x4,.i .i64 (nfB 2),.i .i64 (ntB 2)] (.nilsl) [.b true,.b true,.b true,.b true,.b true,.b false,.b true]):=DCall_iff.2 ⟨1000,by rw[←gP];kernel_rfl⟩
theorem d60(x0 x1 x2 x3 x4 x5 x6:T):be pE 79 [.ptr .S 0 1 0,.ptr .S 1 1 0,.sl aj9 4 false] (nS [x0,x1,x2,x3,x4,x5,x6] .nilsl [.b true,.b true,.b true,.b true,.b true,.b false,.b true])=some (.i .i64 0,nS [x0,x1,x2,x3,x4,x5,x6] (.sl (.s Cx::nL (A5 0)) 1 false) [.b true,.b true,.b true,.b true,.b true,.b false,.b true]):=DCall_iff.2 ⟨1000,by rw[←gP];kernel_rfl⟩
theorem d61(x0 x1 x2 x3 x4 x5 x6:T):be pE 79 [.ptr .S 0 1 0,.ptr .S 1 1 0,.sl aka 6 false] (nS [x0,x1,x2,x3,x4,x5,x6] .nilsl [.b true,.b true,.b true,.b true,.b true,.b false,.b true])=some (.i .i64 0,nS [x0,x1,x2,x3,x4,x5,x6] (.sl (.s Cx::nL (A5 1)) 1 false) [.b true,.b true,.b true,.b true,.b true,.b false,.b true]):=DCall_iff.2 ⟨1000,by rw[←gP];kernel_rfl⟩
theorem d62(x0 x1 x2 x3 x4 x5 x6:T):be pE 79 [.ptr .S 0 1 0,.ptr .S 1 1 0,.sl akb 7 false] (nS [x0,x1,x2,x3,x4,x5,x6] .nilsl [.b true,.b true,.b true,.b true,.b true,.b false,.b true])=some (.i .i64 0,nS [x0,x1,x2,x3,x4,x5,x6] (.sl (.s Cx::nL (A5 2)) 1 false) [.b true,.b true,.b true,.b true,.b true,.b false,.b true]):=DCall_iff.2 ⟨1000,by rw[←gP];kernel_rfl⟩
def nM(l:List Nat)(s r:List b8):Prop:= ∃YI a u,∃n:Nat,be pE 78 [.s l] []=some (.tup [YI,a,.i .i64 0],u)∧lenI YI=some (.i .i64 ((n+1:Nat):Int))∧froz YI=true∧be pE 79 [.ptr .S 0 1 0,.ptr .S 1 1 0,YI] s=some (.i .i64 0,r)
def zL:List (List Nat)→List b8→List b8→Prop
 | [],s,r=>r=s
 |l::D,s,r=> ∃m,nM l s m∧zL D m r
theorem vd: ∀{a b:List (List Nat)} {s m F:List b8},zL a s m→zL b m F→zL (a++b) s F
 | [],_,_,_,_,r,D=>by rw[zL]at r;subst r;exact D
 |l::a,_,_,_,_,⟨q,H,r⟩,D=>⟨q,H,vd r D⟩
theorem aA0(v:T)(r:List (List Nat))(D:IsSl v r.length (strs r))(hb:r.length<1000000)(F:List b8)(fr:Fr)(lh:iw b8)(sh:List b8)(hs:zL r sh F)(I:an fr 5=v)(J:an fr 7= .ptr .S 0 1 0)(O:an fr 8= .ptr .S 1 1 0)(U:an fr 9= .i .i64 0):
  Lp pE 61 Aa fr lh sh (.ext 0) fun f l s=>s=F∧l=lh:=by
 refine kE I3 (fun k f l s=>an f 9= .i .i64 (k:Int)∧l=lh∧zL (r.drop k) s F) r.length ⟨U,rfl,hs⟩ ?_ ?_
 ·rintro k f _ s hk H ⟨g9,rfl,hs⟩
  have V:(k:Int)<r.length:=by omega
  have W:=iO (k:=k) (by omega)
  rw[List.drop_eq_getElem_cons hk]at hs
  obtain⟨s',⟨YI,a,u,n,X,Y,Z,q4⟩,hs⟩:=hs
  obtain⟨q,je⟩:=zJ D k hk
  have xe:(0:Int)<((n+1:Nat):Int):=by omega
  simp(maxDischargeDepth:=6) only[qA,jm,seval,gd,Aa,H,I,J,O,g9,D.lenI,V,je,X,Y,Z,q4,xe,W,hs,axI,axJ]
 ·rintro f _ s H ⟨g9,rfl,hs⟩
  rw[List.drop_length,zL]at hs
  subst hs
  simp only[qA,seval,gd,Aa,H,I,g9,D.lenI,Int.lt_irrefl]
theorem rQ: ∀(cs r:List T),r.length=cs.length→splice cs 0 r=r
 | [],[],_=>by simp[splice]
 | [],v::r,h=>by simp at h
 |c::cs,[],h=>by simp at h
 |c::cs,v::r,h=>by simp[splice,rQ cs r (by simpa using h)]
def iZ(n:Int):T:= .i .i64 n
def kS0:List b8:=nS [iZ 0,iZ 0,iZ 0,iZ 1440,iZ 2880,iZ 0,iZ 0] .nilsl [.b false,.b false,.b false,.b false,.b false,.b false,.b false]
theorem YJ(r:List (List Nat))(hx:Yr (pZ r))(U: ∀l∈r,10∉l)(hl:r.length≤1000)(rc cs:List T)(F:List b8)(H:rc.length=14)
  (I: ∀q lh,∃us,xk q lh (⟨1,.cells rc 0 true⟩::F) false rc=some (cs,us))
  (hs:zL r kS0 (⟨1,.cells rc 0 true⟩::F)) (s':List b8) (J:be pE 80 [.agg cs] []=some (.i .i64 0,s')):
  ∃V,be pE 47 [.s (pZ r)] []=some (.tup [.agg cs,.i .i64 0,.i .i64 0],V):=by
 have W:=Ys r hx U hl
 have hv:IsSl (lN r.length (strs r)) r.length (strs r):=od fun h=>by
  rw[List.length_eq_zero_iff.1 h];rfl
 have O:=fun fr lh=>aA0 (lN r.length (strs r)) r hv (by omega) _ fr lh _ hs
 have X:=hv.froz1
 unfold kS0 nS iZ at O
 simp only[List.cons_append,List.nil_append]at O
 have Pt:rc.take 14=rc:=by rw[←H];exact List.take_length
 have Y:=rQ [T.i IntKind.i64 0,T.i IntKind.i64 0,T.i IntKind.i64 0,T.i IntKind.i64 0,T.i IntKind.i64 0,T.i IntKind.i64 0,T.i IntKind.i64 0,T.nilsl,T.nilsl,T.nilsl,T.nilsl,T.nilsl,T.nilsl,T.i IntKind.i64 0] rc (by rw[H];rfl)
 obtain⟨us,Z⟩: ∃us:Nat→iw b8→List Up,∀q lh,xk q lh (⟨1,.cells rc 0 true⟩::F) false rc=some (cs,us q lh):=⟨fun q lh=>(I q lh).choose,fun q lh=>(I q lh).choose_spec⟩
 rw[il apr (by simp[c47])]
 generalize pZ r=tx at*
 generalize lN r.length (strs r)=v at*
 simp(maxDischargeDepth:=6) only[qA,jm,seval,c47,repl,W,axG,X]
 generalize hD:DC pE 61 (.loop Aa) _=D
 obtain⟨f2,l2,s2,rfl,⟨rfl,rfl⟩,nw⟩:=Cq I3 hD (O _ _ (by simp only[qA,seval]) (by simp only[qA,seval]) (by simp only[qA,seval]) (by simp only[qA,seval]))
 have p2:an f2 2= .ptr .L 2 1 0:=by rw[nw 2 (by decide)];simp only[qA,seval]
 have p7:an f2 7= .ptr .S 0 1 0:=by rw[nw 7 (by decide)];simp only[qA,seval]
 clear nw hD O
 simp(maxDischargeDepth:=6) only[qA,jm,seval,p2,p7,J,axK,H,Pt,Y,Z]
 exact⟨_,rfl⟩
mutual
theorem Ba: ∀x:Ex,mU x (nL x)
 | .mk op n s []=>by
   rw[nL,mU]
   exact⟨_,[],rfl,.inl ⟨rfl,rfl,rfl⟩,by rw[ku]⟩
 | .mk op n s (b::r)=>by
   rw[nL,mU]
   refine⟨_,nL b++SD r,rfl,.inr ⟨_,rfl⟩, ?_⟩
   rw[ku]
   exact⟨_,_,rfl,Ba b,P5 r⟩
theorem P5: ∀l:List Ex,ku l (SD l)
 | []=>by rw[SD,ku]
 |x::r=>by
  rw[SD,ku]
  exact⟨_,_,rfl,Ba x,P5 r⟩
end
theorem jb(x:Ex): ∃d,nL x= [.i .i64 x.op,.i .i64 x.num,.s x.name,d]∧froz1 d=true:=by
 cases x with
 |mk op n s a=>
  cases a with
  |nil=>exact⟨.nilsl,by rw[nL];rfl,rfl⟩
  |cons b r=>exact⟨_,by rw[nL];rfl,rfl⟩
def px(u:Ru):List T:= .i .i64 u.sc:: .s u.nm::nL u.x
def ve(u:Co):List T:= .i .i64 u.sc::nL u.x
theorem akw(u:Ru):S2 u (px u):=by
 have h:=Ba u.x
 obtain⟨H,I,x⟩:=u
 cases x with
 |mk op n s a=>
  rw[mU]at h
  obtain⟨d,r,e,D,F⟩:=h
  exact⟨d,r,by unfold px;rw[e];rfl,D,F⟩
theorem akx(u:Co):ZJ u (ve u):=by
 have h:=Ba u.x
 obtain⟨H,x⟩:=u
 cases x with
 |mk op n s a=>
  rw[mU]at h
  obtain⟨d,r,e,D,F⟩:=h
  exact⟨d,r,by unfold ve;rw[e];rfl,D,F⟩
theorem Lx: ∀l:List Ru,iA S2 l (l.flatMap px)
 | []=>rfl
 |u::l=>⟨_,_,rfl,akw u,Lx l⟩
theorem Ly: ∀l:List Co,iA ZJ l (l.flatMap ve)
 | []=>rfl
 |u::l=>⟨_,_,rfl,akx u,Ly l⟩
end Go.Proofs.YtcpceiclnbmgiaaGreat
