/- Walks, plain laws (27). Conditions: the theorems' own. -/
import Derived.Test.YtnkgnjecmfkcfaaGreatM16
import Derived.Test.YtnkgnjecmfkcfaaGreatM20
import Derived.Test.YtnkgnjecmfkcfaaGreatM24
set_option maxRecDepth 100000
set_option linter.all false
set_option maxRecDepth 1000000
set_option maxHeartbeats 16000000
namespace Go.Proofs.YtnkgnjecmfkcfaaGreat
open Go Go.Ev
def Tk(v:T)(n i:Nat)(K:Int)(s:List Nat)(N:Int):Prop:=i<n∧n≤1000∧froz v=true∧lenI v=some (qi (n:Int))∧ ∃r,∀kk,iaV v (.i kk (i:Int)) 4=some (.vp (qi K:: .s s:: qi N::r))
theorem Tk.of(cs:List T)(n i:Nat)(K:Int)(s:List Nat)(N:Int)(r:List T)(hi:i<n)(D:n≤1000)(hl:cs.length=n*4)(h:cs.drop (i*4)= qi K:: .s s:: qi N::r):Tk (.sl cs n false) n i K s N:=by
 refine⟨hi,D,rfl,rfl,r,fun kk=> ?_⟩
 rw[cX,if_pos ⟨by omega,by simpa using hi,by rw[hl];simp only[Int.toNat_natCast];omega⟩,Int.toNat_natCast,h]
section
variable{v:T}{n i:Nat}{K:Int}{s:List Nat}{N:Int}(h:Tk v n i K s N)
include h
def AY(k:Int):ae pE 192 [v,qi (i:Int),qi k] []=some (.b (decide (K=k)),[]):=by
 obtain⟨h1,h2,h3,h4,r,h5⟩:=h
 have hi:(i:Int)<n:=zV
 rw[au ajL (by simp[V8])]
 by_cases e:K=k
 all_goals simp(maxDischargeDepth:=6) only[qA,seval,V8,h3,h4,hi,h5,e]
def FU(w:List Nat):ae pE 195 [v,qi (i:Int),.s w] []=some (.b (decide (K=1∧s=w)),[]):=by
 obtain⟨h1,h2,h3,h4,r,h5⟩:=h
 have hi:(i:Int)<n:=zV
 rw[au ajO (by simp[R8])]
 by_cases e:K=1
 ·by_cases e2:s=w
  all_goals simp(maxDischargeDepth:=6) only[qA,seval,R8,h3,h4,hi,h5,e,e2]
 ·simp(maxDischargeDepth:=6) only[qA,seval,R8,h3,h4,hi,h5,e]
def aql:ae pE 194 [v,qi (i:Int)] []=some (.b (decide (K=1)&&jt s),[]):=by
 have hk:=AY h 1
 obtain⟨h1,h2,h3,h4,r,h5⟩:=h
 have hi:(i:Int)<n:=zV
 have D:=oz s
 rw[au ajM (by simp[V9])]
 by_cases e:K=1
 all_goals simp(maxDischargeDepth:=6) only[qA,seval,V9,h3,h4,hi,h5,hk,D,e,Pg,JH]
end
def HV(s:List Nat):Int:=if s= [100,117,116,121]then 1 else if s= [114,101,115,116]then 2 else if s= [112,97,105,114,105,110,103]then 3 else 0
def Oq(s:List Nat):ae pE 197 [.s s] []=some (qi (HV s),[]):=by
 rw[au Xv (by simp[JB])]
 unfold HV
 by_cases e1:s= [100,117,116,121]
 ·simp(maxDischargeDepth:=6) only[qA,seval,JB,e1]
 ·by_cases e2:s= [114,101,115,116]
  ·simp(maxDischargeDepth:=6) only[qA,seval,JB,e1,e2]
   rfl
  ·by_cases e3:s= [112,97,105,114,105,110,103]
   ·simp(maxDischargeDepth:=6) only[qA,seval,JB,e1,e2,e3]
    rfl
   ·simp(maxDischargeDepth:=6) only[qA,seval,JB,e1,e2,e3]
def Ot:List (List Nat):= [[114,101,112,111,114,116],[114,101,108,101,97,115,101],[99,111,110,110,101,99,116],[115,105,116],[108,97,121,111,118,101,114],[103,117,97,114,97,110,116,101,101],[110,105,103,104,116]]
def aqm{v:T}{n:Nat}{K:Int}{s:List Nat}{N:Int}(h:Tk v n 0 K s N)(hs:s∉Ot)(fr:Fr)(lh:aE ah)(sh:List ah)(h2:aa fr 2=v)(V:aa fr 7= .sl (strs Ot) 7 true)(W:aa fr 8= qi 0):
  Lp pE 335 mL fr lh sh (.ext 0) fun f l s=>s=sh∧l=lh:=by
 have Ix:Ot.length=7:=rfl
 have hv:IsSl (T.sl (strs Ot) 7 true) Ot.length (strs Ot):= .inr ⟨_,rfl⟩
 obtain⟨_,_,h3,h4,r,h5⟩:=h
 have h5: ∀kk,iaV v (.i kk 0) 4=some (.vp (qi K:: .s s:: qi N::r)):=h5
 generalize T.sl (strs Ot) 7 true=fT at*
 refine bK rQ (fun k f l s=>aa f 8= qi (k:Int)∧s=sh∧l=lh) 7 ⟨W,rfl,rfl⟩ ?_ ?_
 ·rintro k f _ _ hk F ⟨D,rfl,rfl⟩
  have I:(k:Int)<7:=zV
  have X:=aF (k:=k) zV
  obtain⟨q,O⟩:=xh hv k zV
  have U: ¬s=Ot[k]:=fun e=>hs (e▸List.getElem_mem _)
  generalize Ot[k]=w at*
  simp(maxDischargeDepth:=6) only[qA,bg,CC,aH,seval,gd,mL,F,h2,V,D,I,X,h5,O,U]
 ·rintro f _ _ F ⟨D,rfl,rfl⟩
  have D:aa f 8= qi 7:=D
  simp only[qA,seval,gd,mL,F,D,Int.lt_irrefl]
section
variable{E:Env}{call:ku}{n:Nat}{fr:Fr}{lh:aE ah}{sh:List ah}{ds:List (List Nat×aG)}{bu:List FP}{u:List Nat}
def ahT{x v:aV}{m k g off kk F I len sz:Nat}(hx:rd fr x= .ptr .S k g off)(hv:rd fr v= .isl .S kk F I len sz)(MU:pL (aI sh k)=true):aK E call n ((u,⟨none,.st x v m,none⟩)::ds) bu ⟨fr,lh,sh⟩=
  if meets u bu (D8 (rd fr x))=true then ke E call n ds (bu++ [D8 (rd fr x)]) (aj E call n [⟨none,.st x v m,none⟩] ⟨fr,lh,sh⟩)else none:=by
 refine nN fun D=> ?_
 by_cases hb:(decide ((cellsOf (rd fr v)).length≠m)|| !noTup (rd fr v))=true
 ·obtain⟨w,O,hr,r⟩:=qy (q:= .fail) (by rfl) (by rw[dw];simp only[bB,od,hx];rw[if_pos hb]) D
  simp[Q.run]at hr
 ·obtain⟨w,O,hr,r⟩:=qy (q:= .rd .S k (Ko k g off m (rd fr v))) (by rfl) (by rw[dw];simp only[bB,od,hx];rw[if_neg hb];rfl) D
  simp only[Q.run,Q.log,Q.asks]at hr r
  have U:(St.mk fr lh sh).get .S k=aI sh k:=rfl
  generalize he:(St.mk fr lh sh).get .S k=e at hr r
  rw[←U,he]at MU
  obtain⟨V,ob⟩:=e
  unfold Ko at hr r
  by_cases hg:V=g
  ·cases ob with
   |none=>simp[hg,Q.run]at hr
   |map ks X z=>simp[hg,Q.run]at hr
   |cells cs Y bx=>
    have MU:bx=true:=MU
    subst MU
    simp only[hg,if_true]at hr r
    split at hr
    ·rename_i hc
     rw[if_pos hc]at r
     have hs:(true&&(Sp.S==Sp.L))=false:=rfl
     have Iw:(true&&(Sp.S==Sp.S))=true:=rfl
     have W:Ev.fz true aJ (.isl .S kk F I len sz)= .ret (.isl .S kk F I len sz,[]):=rfl
     rw[hs,Iw,hv,W]at hr r
     simp only[Bool.false_eq_true,if_false]at hr r
     simp only[Q.bind]at hr r
     split at hr
     ·simp[Q.run]at hr
     ·rename_i hd
      rw[if_neg hd]at r
      simp[Q.run]at hr
      obtain⟨rfl,rfl⟩:=hr
      rw[r (by simp[Ev.inB,zq,he]),hx]
      rfl
    ·simp[Q.run]at hr
  ·simp only[hg,if_false,Q.run]at hr
   cases hr
def ab6(sh:List ah):T→Bool
 | .ptr .S k _ _=>pL (aI sh k)
 |_=>false
theorem fC{sh:List ah}{k g off:Nat}:ab6 sh (.ptr .S k g off)=pL (aI sh k):=nr rfl
def ab7:T→Bool
 | .isl .S .. =>true
 |_=>false
theorem fD{k g off len sz:Nat}:ab7 (.isl .S k g off len sz)=true:=nr rfl
theorem qd{x v:aV}{m:Nat}(hx:ab6 sh (rd fr x)=true)(hv:ab7 (rd fr v)=true):aK E call n ((u,⟨none,.st x v m,none⟩)::ds) bu ⟨fr,lh,sh⟩=
  if meets u bu (D8 (rd fr x))=true then ke E call n ds (bu++ [D8 (rd fr x)]) (aj E call n [⟨none,.st x v m,none⟩] ⟨fr,lh,sh⟩)else none:=by
 cases h1:rd fr x with
 |ptr sp k g off=>
  cases sp with
  |L=>rw[h1]at hx;cases hx
  |S=>
   cases h2:rd fr v with
   |isl sp kk r D len sz=>
    cases sp with
    |L=>rw[h2]at hv;cases hv
    |S=>
     rw[h1]at hx
     have:=ahT (E:=E) (call:=call) (n:=n) (lh:=lh) (ds:=ds) (bu:=bu) (u:=u) (m:=m) h1 h2 hx
     rw[this,h1]
   |_=>rw[h2]at hv;cases hv
 |_=>rw[h1]at hx;cases hx
end
def stR(hd:List T)(jd:T)(sn:List T)(n:Nat)(cs:List T):List ah:=
 ⟨1,.cells (hd++ [jd,if n=0 then .nilsl else .isl .S 2 n 0 n 6,.nilsl,.nilsl,.nilsl,.nilsl,qi 0]) 0 true⟩::⟨1,.cells sn 0 true⟩::if n=0 then []else [⟨n,.cells cs 0 false⟩]
def aI8(x0 x1 x2 x3 x4 x5 x6 jd:T)(sn:List T)(n:Nat)(hn:n≤100)(cs:List T)(O:cs.length=n*6)(v:T)(N:Nat)(r F:List Nat)(N0 N1 N2 N3:Int)(h0:Tk v N 0 1 r N0)(h1:Tk v N 1 1 [114,117,108,101] N1)(h2:Tk v N 2 1 F N2)(h3:Tk v N 3 1 [105,115] N3)(fw:r= [100,117,116,121]∨r= [114,101,115,116]∨r= [112,97,105,114,105,110,103])(Dl:jt F=true)
  (tl:T) (V:lK v=some N) (E8:pG 4 v 4 N=some tl) (Gv:froz tl=true) (a b c d:T) (ha:froz1 a=true∧froz1 b=true∧froz1 c=true∧froz1 d=true) (s:List ah) (he:ae pE 196 [tl] []=some (.tup [.agg [a,b,c,d],qi (-1)],s)):
  ae pE 117 [.ptr .S 0 1 0,.ptr .S 1 1 0,v] (stR [x0,x1,x2,x3,x4,x5,x6] jd sn n cs)=some (qi 0,stR [x0,x1,x2,x3,x4,x5,x6] jd sn (n+1) (cs++ [qi (HV r),.s F,a,b,c,d])):=by
 have hs:r∉Ot:=by rcases fw with rfl|rfl|rfl <;> decide
 have hL:=fun fr lh sh=>aqm h0 hs fr lh sh
 have An:=AY h0 1
 have Ei:=FU h1
 have U:=FU h3
 have D2:=aql h2
 have W:=Oq r
 have X:HV r≠0:=by rcases fw with rfl|rfl|rfl <;> decide
 have iz: ¬r= [99,111,110,115,116]:=by rcases fw with rfl|rfl|rfl <;> decide
 obtain⟨_,_,z1,z2,r0,LM⟩:=h0
 obtain⟨_,_,_,_,r2,I⟩:=h2
 have LM: ∀kk,iaV v (.i kk 0) 4=some (.vp (qi 1:: .s r:: qi N0::r0)):=LM
 have I: ∀kk,iaV v (.i kk 2) 4=some (.vp (qi 1:: .s F:: qi N2::r2)):=I
 generalize HV r=S at*
 have hfd:T.sl (strs Ot) 7 true= .sl [.s [114,101,112,111,114,116],.s [114,101,108,101,97,115,101],.s [99,111,110,110,101,99,116],.s [115,105,116],.s [108,97,121,111,118,101,114],.s [103,117,97,114,97,110,116,101,101],.s [110,105,103,104,116]] 7 true:=rfl
 rw[au O5 (by simp[Gh])]
 unfold stR
 have ab8:ae pE 192 [v,qi 0,qi 1] []=some (.b (decide ((1:Int)=1)),[]):=An
 simp(maxDischargeDepth:=6) only[qA,seval,Gh,repl,ab8,z1,Pg]
 generalize hD:DC pE 335 (.loop mL) _=D
 obtain⟨f2,l2,s2,rfl,⟨rfl,rfl⟩,Z⟩:=qK rQ hD (hL _ _ _ yk (by rw[hfd];simp only[qA,seval]) yk)
 have p0:aa f2 0= .ptr .S 0 1 0:=by rw[Z 0 zz];simp only[qA,seval]
 have p1:aa f2 1= .ptr .S 1 1 0:=by rw[Z 1 zz];simp only[qA,seval]
 have p2:aa f2 2=v:=by rw[Z 2 zz];simp only[qA,seval]
 clear Z hD hL
 have Ei: ∀w,ae pE 195 [v,qi 1,.s w] []=some (.b (decide ((1:Int)=1∧ [114,117,108,101]=w)),[]):=Ei
 have U: ∀w,ae pE 195 [v,qi 3,.s w] []=some (.b (decide ((1:Int)=1∧ [105,115]=w)),[]):=U
 have D2:ae pE 194 [v,qi 2] []=some (.b (decide ((1:Int)=1)&&jt F),[]):=D2
 rw[Dl]at D2
 have e1:=Ei [114,117,108,101]
 have e3:=U [105,115]
 simp only[and_self,decide_true]at e1 e3
 obtain⟨y1,y2,y3,y4⟩:=ha
 have y1':cellsOf a= [a]:=by cases a <;> simp_all[froz1,cellsOf]
 have r80:80≤roomy:=zz
 have Uy: ∀m,nl m .nilsl=⟨true,[],[(.S,m)]⟩:=fun _=>rfl
 by_cases Y:n=0
 ·subst Y
  have O:cs= []:=List.length_eq_zero_iff.1 zV
  subst O
  have fF: ∀lh,Ev.stV lh [⟨1,.cells [x0,x1,x2,x3,x4,x5,x6,jd,.nilsl,.nilsl,.nilsl,.nilsl,.nilsl,qi 0] 0 true⟩,⟨1,.cells sn 0 true⟩,⟨1,.cells [qi S,.s F,a,b,c,d] 0 false⟩] (.ptr .S 0 1 8) (.isl .S 2 1 0 1 6) 1=some (lh,[⟨1,.cells [x0,x1,x2,x3,x4,x5,x6,jd,.isl .S 2 1 0 1 6,.nilsl,.nilsl,.nilsl,.nilsl,qi 0] 0 true⟩,⟨1,.cells sn 0 true⟩,⟨1,.cells [qi S,.s F,a,b,c,d] 0 false⟩]):=fun lh=>by
   rw[iQ (by rfl) (by rfl),dP,if_pos ⟨rfl,rfl,rfl,Nat.zero_le _,by simp⟩]
   rfl
  simp(maxDischargeDepth:=6) only[qA,eO,bg,fS,aH,seval,repl,p0,p2,LM,I,iz,W,X,e1,e3,D2,V,E8,Gv,he,z1,y1,y2,y3,y4,ajN,vi,vq,vt,ET,cO,db,be,cR,dn,Uy,qd,fC,fD,eB,r80,fF]
 ·have r81:(n+1)*80≤roomy:=by unfold roomy;omega
  have ahU:n*6=cs.length:=O.symm
  have fF: ∀lh,Ev.stV lh [⟨1,.cells [x0,x1,x2,x3,x4,x5,x6,jd,.isl .S 2 n 0 n 6,.nilsl,.nilsl,.nilsl,.nilsl,qi 0] 0 true⟩,⟨1,.cells sn 0 true⟩,⟨n+1,.cells (cs++ [qi S,.s F,a,b,c,d]) 0 false⟩] (.ptr .S 0 1 8) (.isl .S 2 (n+1) 0 (n+1) 6) 1=some (lh,[⟨1,.cells [x0,x1,x2,x3,x4,x5,x6,jd,.isl .S 2 (n+1) 0 (n+1) 6,.nilsl,.nilsl,.nilsl,.nilsl,qi 0] 0 true⟩,⟨1,.cells sn 0 true⟩,⟨n+1,.cells (cs++ [qi S,.s F,a,b,c,d]) 0 false⟩]):=fun lh=>by
   rw[iQ (by rfl) (by rfl),dP,if_pos ⟨rfl,rfl,rfl,Nat.zero_le _,by simp⟩]
   rfl
  have D1: ¬n+1=0:=zV
  simp(maxDischargeDepth:=6) only[qA,eO,bg,fS,aH,seval,repl,p0,p2,LM,I,iz,W,X,e1,e3,D2,V,E8,Gv,he,z1,y1,y2,y3,y4,ajN,vi,vq,vt,ET,cO,db,be,dJ,ew,cE,qd,fC,fD,eB,fF,r81,ahU,Y,eB,nl]
def stK(hd:List T)(jd r:T)(sn:List T)(P:List ah)(n:Nat)(cs:List T):List ah:=
 ⟨1,.cells (hd++ [jd,r,if n=0 then .nilsl else .isl .S (2+P.length) n 0 n 5,.nilsl,.nilsl,.nilsl,qi 0]) 0 true⟩::⟨1,.cells sn 0 true⟩::(P++if n=0 then []else [⟨n,.cells cs 0 false⟩])
def aJa(x0 x1 x2 x3 x4 x5 x6 jd F:T)(sn:List T)(P:List ah)(hP:P.length≤1)(n:Nat)(hn:n≤100)(cs:List T)(V:cs.length=n*5)(v:T)(N:Nat)(r:List Nat)(N0 N1 N2:Int)(h0:Tk v N 0 1 r N0)(h1:Tk v N 1 1 [99,111,115,116] N1)(h2:Tk v N 2 1 [105,115] N2)(fw:r= [100,117,116,121]∨r= [114,101,115,116]∨r= [112,97,105,114,105,110,103])
  (tl:T) (I:lK v=some N) (E8:pG 4 v 3 N=some tl) (Gv:froz tl=true) (a b c d:T) (ha:froz1 a=true∧froz1 b=true∧froz1 c=true∧froz1 d=true) (s:List ah) (he:ae pE 196 [tl] []=some (.tup [.agg [a,b,c,d],qi (-1)],s)):
  ae pE 117 [.ptr .S 0 1 0,.ptr .S 1 1 0,v] (stK [x0,x1,x2,x3,x4,x5,x6] jd F sn P n cs)=some (qi 0,stK [x0,x1,x2,x3,x4,x5,x6] jd F sn P (n+1) (cs++ [qi (HV r),a,b,c,d])):=by
 have hs:r∉Ot:=by rcases fw with rfl|rfl|rfl <;> decide
 have hL:=fun fr lh sh=>aqm h0 hs fr lh sh
 have An:=AY h0 1
 have Ei:=FU h1
 have Ax:=FU h2
 have O:=Oq r
 have U:HV r≠0:=by rcases fw with rfl|rfl|rfl <;> decide
 have iz: ¬r= [99,111,110,115,116]:=by rcases fw with rfl|rfl|rfl <;> decide
 obtain⟨_,_,Y,z2,r0,LM⟩:=h0
 have LM: ∀kk,iaV v (.i kk 0) 4=some (.vp (qi 1:: .s r:: qi N0::r0)):=LM
 generalize HV r=S at*
 have hfd:T.sl (strs Ot) 7 true= .sl [.s [114,101,112,111,114,116],.s [114,101,108,101,97,115,101],.s [99,111,110,110,101,99,116],.s [115,105,116],.s [108,97,121,111,118,101,114],.s [103,117,97,114,97,110,116,101,101],.s [110,105,103,104,116]] 7 true:=rfl
 rw[au O5 (by simp[Gh])]
 unfold stK
 have ab8:ae pE 192 [v,qi 0,qi 1] []=some (.b (decide ((1:Int)=1)),[]):=An
 simp(maxDischargeDepth:=6) only[qA,seval,Gh,repl,ab8,Y,Pg]
 generalize hD:DC pE 335 (.loop mL) _=D
 obtain⟨f2,l2,s2,rfl,⟨rfl,rfl⟩,fR⟩:=qK rQ hD (hL _ _ _ yk (by rw[hfd];simp only[qA,seval]) yk)
 have p0:aa f2 0= .ptr .S 0 1 0:=by rw[fR 0 zz];simp only[qA,seval]
 have p1:aa f2 1= .ptr .S 1 1 0:=by rw[fR 1 zz];simp only[qA,seval]
 have p2:aa f2 2=v:=by rw[fR 2 zz];simp only[qA,seval]
 clear fR hD hL
 have Ei: ∀w,ae pE 195 [v,qi 1,.s w] []=some (.b (decide ((1:Int)=1∧ [99,111,115,116]=w)),[]):=Ei
 have Ax: ∀w,ae pE 195 [v,qi 2,.s w] []=some (.b (decide ((1:Int)=1∧ [105,115]=w)),[]):=Ax
 have e1:=Ei [99,111,115,116]
 have e2:ae pE 195 [v,qi 1,.s [114,117,108,101]] []=some (.b false,[]):=Ei [114,117,108,101]
 have e3:=Ax [105,115]
 simp only[and_self,decide_true]at e1 e3
 obtain⟨y1,y2,y3,y4⟩:=ha
 have Z:64≤roomy:=zz
 have r81:(n+1)*64≤roomy:=by unfold roomy;omega
 have ahU:n*5=cs.length:=V.symm
 have D1: ¬n+1=0:=zV
 have hPc:P= []∨ ∃e,P= [e]:=by
  match P,hP with
  | [],_=>exact .inl rfl
  | [e],_=>exact .inr ⟨e,rfl⟩
 by_cases W:n=0
 ·subst W
  have V:cs= []:=List.length_eq_zero_iff.1 zV
  subst V
  rcases hPc with rfl|⟨e,rfl⟩
  ·have X: ∀lh,Ev.stV lh [⟨1,.cells [x0,x1,x2,x3,x4,x5,x6,jd,F,.nilsl,.nilsl,.nilsl,.nilsl,qi 0] 0 true⟩,⟨1,.cells sn 0 true⟩,⟨1,.cells [qi S,a,b,c,d] 0 false⟩] (.ptr .S 0 1 9) (.isl .S 2 1 0 1 5) 1=some (lh,[⟨1,.cells [x0,x1,x2,x3,x4,x5,x6,jd,F,.isl .S 2 1 0 1 5,.nilsl,.nilsl,.nilsl,qi 0] 0 true⟩,⟨1,.cells sn 0 true⟩,⟨1,.cells [qi S,a,b,c,d] 0 false⟩]):=fun lh=>by
    rw[iQ (by rfl) (by rfl),dP,if_pos ⟨rfl,rfl,rfl,Nat.zero_le _,by simp⟩]
    rfl
   simp(maxDischargeDepth:=6) only[qA,eO,bg,fS,aH,seval,repl,p0,p2,LM,iz,O,U,e1,e2,e3,I,E8,Gv,he,Y,y1,y2,y3,y4,vi,vq,vt,ET,cO,db,be,cR,dn,nl,qd,fC,fD,eB,Z,X]
  ·have X: ∀lh,Ev.stV lh [⟨1,.cells [x0,x1,x2,x3,x4,x5,x6,jd,F,.nilsl,.nilsl,.nilsl,.nilsl,qi 0] 0 true⟩,⟨1,.cells sn 0 true⟩,e,⟨1,.cells [qi S,a,b,c,d] 0 false⟩] (.ptr .S 0 1 9) (.isl .S 3 1 0 1 5) 1=some (lh,[⟨1,.cells [x0,x1,x2,x3,x4,x5,x6,jd,F,.isl .S 3 1 0 1 5,.nilsl,.nilsl,.nilsl,qi 0] 0 true⟩,⟨1,.cells sn 0 true⟩,e,⟨1,.cells [qi S,a,b,c,d] 0 false⟩]):=fun lh=>by
    rw[iQ (by rfl) (by rfl),dP,if_pos ⟨rfl,rfl,rfl,Nat.zero_le _,by simp⟩]
    rfl
   simp(maxDischargeDepth:=6) only[qA,eO,bg,fS,aH,seval,repl,p0,p2,LM,iz,O,U,e1,e2,e3,I,E8,Gv,he,Y,y1,y2,y3,y4,vi,vq,vt,ET,cO,db,be,cR,dn,nl,qd,fC,fD,eB,Z,X]
 ·rcases hPc with rfl|⟨e,rfl⟩
  ·have X: ∀lh,Ev.stV lh [⟨1,.cells [x0,x1,x2,x3,x4,x5,x6,jd,F,.isl .S 2 n 0 n 5,.nilsl,.nilsl,.nilsl,qi 0] 0 true⟩,⟨1,.cells sn 0 true⟩,⟨n+1,.cells (cs++ [qi S,a,b,c,d]) 0 false⟩] (.ptr .S 0 1 9) (.isl .S 2 (n+1) 0 (n+1) 5) 1=some (lh,[⟨1,.cells [x0,x1,x2,x3,x4,x5,x6,jd,F,.isl .S 2 (n+1) 0 (n+1) 5,.nilsl,.nilsl,.nilsl,qi 0] 0 true⟩,⟨1,.cells sn 0 true⟩,⟨n+1,.cells (cs++ [qi S,a,b,c,d]) 0 false⟩]):=fun lh=>by
    rw[iQ (by rfl) (by rfl),dP,if_pos ⟨rfl,rfl,rfl,Nat.zero_le _,by simp⟩]
    rfl
   simp(maxDischargeDepth:=6) only[qA,eO,bg,fS,aH,seval,repl,p0,p2,LM,iz,O,U,e1,e2,e3,I,E8,Gv,he,Y,y1,y2,y3,y4,vi,vq,vt,ET,cO,db,be,dJ,ew,cE,nl,qd,fC,fD,eB,X,r81,ahU,W]
  ·have X: ∀lh,Ev.stV lh [⟨1,.cells [x0,x1,x2,x3,x4,x5,x6,jd,F,.isl .S 3 n 0 n 5,.nilsl,.nilsl,.nilsl,qi 0] 0 true⟩,⟨1,.cells sn 0 true⟩,e,⟨n+1,.cells (cs++ [qi S,a,b,c,d]) 0 false⟩] (.ptr .S 0 1 9) (.isl .S 3 (n+1) 0 (n+1) 5) 1=some (lh,[⟨1,.cells [x0,x1,x2,x3,x4,x5,x6,jd,F,.isl .S 3 (n+1) 0 (n+1) 5,.nilsl,.nilsl,.nilsl,qi 0] 0 true⟩,⟨1,.cells sn 0 true⟩,e,⟨n+1,.cells (cs++ [qi S,a,b,c,d]) 0 false⟩]):=fun lh=>by
    rw[iQ (by rfl) (by rfl),dP,if_pos ⟨rfl,rfl,rfl,Nat.zero_le _,by simp⟩]
    rfl
   simp(maxDischargeDepth:=6) only[qA,eO,bg,fS,aH,seval,repl,p0,p2,LM,iz,O,U,e1,e2,e3,I,E8,Gv,he,Y,y1,y2,y3,y4,vi,vq,vt,ET,cO,db,be,dJ,ew,cE,nl,qd,fC,fD,eB,X,r81,ahU,W]
def stC(hd:List T)(jd r On:T)(sn:List T)(P:List ah)(cr:List T):List ah:=
 ⟨1,.cells (hd++ [jd,r,On,if cr= []then .nilsl else .isl .S (2+P.length) 1 0 1 4,.nilsl,.nilsl,qi 0]) 0 true⟩::⟨1,.cells sn 0 true⟩::(P++if cr= []then []else [⟨1,.cells cr 0 false⟩])
def aJb(x0 x1 x2 x3 x4 x5 x6 jd r On:T)(sn:List T)(P:List ah)(hP:P.length≤2)(v:T)(N:Nat)(N0 N1 N2:Int)(h0:Tk v N 0 1 [100,117,116,121] N0)(h1:Tk v N 1 1 [99,114,101,100,105,116] N1)(h2:Tk v N 2 1 [105,115] N2)
  (Y:T) (F:lK v=some N) (E8:pG 4 v 3 N=some Y) (Gv:froz Y=true) (a b c d:T) (ha:froz1 a=true∧froz1 b=true∧froz1 c=true∧froz1 d=true) (s:List ah) (he:ae pE 196 [Y] []=some (.tup [.agg [a,b,c,d],qi (-1)],s)):
  ae pE 117 [.ptr .S 0 1 0,.ptr .S 1 1 0,v] (stC [x0,x1,x2,x3,x4,x5,x6] jd r On sn P [])=some (qi 0,stC [x0,x1,x2,x3,x4,x5,x6] jd r On sn P [a,b,c,d]):=by
 have hs:([100,117,116,121]:List Nat)∉Ot:=zz
 have hL:=fun fr lh sh=>aqm h0 hs fr lh sh
 have An:=AY h0 1
 have Ei:=FU h1
 have Ax:=FU h2
 have I:ae pE 197 [.s [100,117,116,121]] []=some (qi 1,[]):=Oq _
 have O:(1:Int)≠0:=zz
 have Z: ¬([100,117,116,121]:List Nat)= [99,111,110,115,116]:=zz
 obtain⟨_,_,W,z2,r0,LM⟩:=h0
 have LM: ∀kk,iaV v (.i kk 0) 4=some (.vp (qi 1:: .s [100,117,116,121]:: qi N0::r0)):=LM
 have hfd:T.sl (strs Ot) 7 true= .sl [.s [114,101,112,111,114,116],.s [114,101,108,101,97,115,101],.s [99,111,110,110,101,99,116],.s [115,105,116],.s [108,97,121,111,118,101,114],.s [103,117,97,114,97,110,116,101,101],.s [110,105,103,104,116]] 7 true:=rfl
 rw[au O5 (by simp[Gh])]
 unfold stC
 have ab8:ae pE 192 [v,qi 0,qi 1] []=some (.b (decide ((1:Int)=1)),[]):=An
 simp(maxDischargeDepth:=6) only[qA,seval,Gh,repl,ab8,W,Pg]
 generalize hD:DC pE 335 (.loop mL) _=D
 obtain⟨f2,l2,s2,rfl,⟨rfl,rfl⟩,X⟩:=qK rQ hD (hL _ _ _ yk (by rw[hfd];simp only[qA,seval]) yk)
 have p0:aa f2 0= .ptr .S 0 1 0:=by rw[X 0 zz];simp only[qA,seval]
 have p1:aa f2 1= .ptr .S 1 1 0:=by rw[X 1 zz];simp only[qA,seval]
 have p2:aa f2 2=v:=by rw[X 2 zz];simp only[qA,seval]
 clear X hD hL
 have Ei: ∀w,ae pE 195 [v,qi 1,.s w] []=some (.b (decide ((1:Int)=1∧ [99,114,101,100,105,116]=w)),[]):=Ei
 have Ax: ∀w,ae pE 195 [v,qi 2,.s w] []=some (.b (decide ((1:Int)=1∧ [105,115]=w)),[]):=Ax
 have e1:=Ei [99,114,101,100,105,116]
 have e4:ae pE 195 [v,qi 1,.s [99,111,115,116]] []=some (.b false,[]):=Ei [99,111,115,116]
 have e2:ae pE 195 [v,qi 1,.s [114,117,108,101]] []=some (.b false,[]):=Ei [114,117,108,101]
 have e3:=Ax [105,115]
 simp only[and_self,decide_true]at e1 e3
 obtain⟨y1,y2,y3,y4⟩:=ha
 have U:56≤roomy:=zz
 have hPc:P= []∨(∃e,P= [e])∨ ∃e f,P= [e,f]:=by
  match P,hP with
  | [],_=>exact .inl rfl
  | [e],_=>exact .inr (.inl ⟨e,rfl⟩)
  | [e,f],_=>exact .inr (.inr ⟨e,f,rfl⟩)
 rcases hPc with rfl|⟨e,rfl⟩|⟨e,f,rfl⟩
 ·have V: ∀lh,Ev.stV lh [⟨1,.cells [x0,x1,x2,x3,x4,x5,x6,jd,r,On,.nilsl,.nilsl,.nilsl,qi 0] 0 true⟩,⟨1,.cells sn 0 true⟩,⟨1,.cells [a,b,c,d] 0 false⟩] (.ptr .S 0 1 10) (.isl .S 2 1 0 1 4) 1=some (lh,[⟨1,.cells [x0,x1,x2,x3,x4,x5,x6,jd,r,On,.isl .S 2 1 0 1 4,.nilsl,.nilsl,qi 0] 0 true⟩,⟨1,.cells sn 0 true⟩,⟨1,.cells [a,b,c,d] 0 false⟩]):=fun lh=>by
   rw[iQ (by rfl) (by rfl),dP,if_pos ⟨rfl,rfl,rfl,Nat.zero_le _,by simp⟩]
   rfl
  simp(maxDischargeDepth:=6) only[qA,eO,bg,fS,aH,seval,repl,p0,p2,LM,Z,I,O,e1,e2,e3,e4,F,E8,Gv,he,W,y1,y2,y3,y4,vi,vq,vt,cO,db,be,cR,dn,nl,rj,gq,qd,fC,fD,eB,U,V]
 ·have V: ∀lh,Ev.stV lh [⟨1,.cells [x0,x1,x2,x3,x4,x5,x6,jd,r,On,.nilsl,.nilsl,.nilsl,qi 0] 0 true⟩,⟨1,.cells sn 0 true⟩,e,⟨1,.cells [a,b,c,d] 0 false⟩] (.ptr .S 0 1 10) (.isl .S 3 1 0 1 4) 1=some (lh,[⟨1,.cells [x0,x1,x2,x3,x4,x5,x6,jd,r,On,.isl .S 3 1 0 1 4,.nilsl,.nilsl,qi 0] 0 true⟩,⟨1,.cells sn 0 true⟩,e,⟨1,.cells [a,b,c,d] 0 false⟩]):=fun lh=>by
   rw[iQ (by rfl) (by rfl),dP,if_pos ⟨rfl,rfl,rfl,Nat.zero_le _,by simp⟩]
   rfl
  simp(maxDischargeDepth:=6) only[qA,eO,bg,fS,aH,seval,repl,p0,p2,LM,Z,I,O,e1,e2,e3,e4,F,E8,Gv,he,W,y1,y2,y3,y4,vi,vq,vt,cO,db,be,cR,dn,nl,rj,gq,qd,fC,fD,eB,U,V]
 ·have V: ∀lh,Ev.stV lh [⟨1,.cells [x0,x1,x2,x3,x4,x5,x6,jd,r,On,.nilsl,.nilsl,.nilsl,qi 0] 0 true⟩,⟨1,.cells sn 0 true⟩,e,f,⟨1,.cells [a,b,c,d] 0 false⟩] (.ptr .S 0 1 10) (.isl .S 4 1 0 1 4) 1=some (lh,[⟨1,.cells [x0,x1,x2,x3,x4,x5,x6,jd,r,On,.isl .S 4 1 0 1 4,.nilsl,.nilsl,qi 0] 0 true⟩,⟨1,.cells sn 0 true⟩,e,f,⟨1,.cells [a,b,c,d] 0 false⟩]):=fun lh=>by
   rw[iQ (by rfl) (by rfl),dP,if_pos ⟨rfl,rfl,rfl,Nat.zero_le _,by simp⟩]
   rfl
  simp(maxDischargeDepth:=6) only[qA,eO,bg,fS,aH,seval,repl,p0,p2,LM,Z,I,O,e1,e2,e3,e4,F,E8,Gv,he,W,y1,y2,y3,y4,vi,vq,vt,cO,db,be,cR,dn,nl,rj,gq,qd,fC,fD,eB,U,V]
def Q6(l:List Nat)(s D:List ah):Prop:= ∃r a u,∃n:Nat,ae pE 116 [.s l] []=some (.tup [r,a,qi 0],u)∧lenI r=some (qi ((n+1:Nat):Int))∧froz r=true∧ae pE 117 [.ptr .S 0 1 0,.ptr .S 1 1 0,r] s=some (qi 0,D)
def xi:List (List Nat)→List ah→List ah→Prop
 | [],s,r=>r=s
 |l::D,s,r=> ∃m,Q6 l s m∧xi D m r
theorem rG: ∀{a b:List (List Nat)} {s m r:List ah},xi a s m→xi b m r→xi (a++b) s r
 | [],_,_,_,_,h1,h2=>by rw[xi]at h1;subst h1;exact h2
 |l::a,_,_,_,_,⟨q,h0,h1⟩,h2=>⟨q,h0,rG h1 h2⟩
def aJc(v:T)(r:List (List Nat))(hv:IsSl v r.length (strs r))(hb:r.length<1000000)(s2:List ah)(fr:Fr)(lh:aE ah)(sh:List ah)(hs:xi r sh s2)(h5:aa fr 5=v)(U:aa fr 7= .ptr .S 0 1 0)(V:aa fr 8= .ptr .S 1 1 0)(W:aa fr 9= qi 0):
  Lp pE 61 xO fr lh sh (.ext 0) fun f l s=>s=s2∧l=lh:=by
 refine bK Jd (fun k f l s=>aa f 9= qi (k:Int)∧l=lh∧xi (r.drop k) s s2) r.length ⟨W,rfl,hs⟩ ?_ ?_
 ·rintro k f _ s hk D ⟨F,rfl,hs⟩
  have I:(k:Int)<r.length:=zV
  have X:=aF (k:=k) zV
  rw[List.drop_eq_getElem_cons hk]at hs
  obtain⟨s',⟨Y,a,u,n,Z,q2,q3,q4⟩,hs⟩:=hs
  obtain⟨q,O⟩:=xh hv k hk
  have vP:(0:Int)<((n+1:Nat):Int):=zV
  simp(maxDischargeDepth:=6) only[qA,eO,seval,gd,xO,D,h5,U,V,F,hv.lenI,I,O,Z,q2,q3,q4,vP,X,hs,ayo,ayp]
 ·rintro f _ s D ⟨F,rfl,hs⟩
  rw[List.drop_length,xi]at hs
  subst hs
  simp only[qA,seval,gd,xO,D,h5,F,hv.lenI,Int.lt_irrefl]
theorem nE: ∀(cs r:List T),r.length=cs.length→splice cs 0 r=r
 | [],[],_=>by simp[splice]
 | [],v::r,h=>by simp at h
 |c::cs,[],h=>by simp at h
 |c::cs,v::r,h=>by simp[splice,nE cs r (by simpa using h)]
def iZ(n:Int):T:= qi n
def kS0:List ah:=ti [iZ 0,iZ 0,iZ 0,iZ 1440,iZ 2880,iZ 0,iZ 0] .nilsl [.b false,.b false,.b false,.b false,.b false,.b false,.b false]
def acb(r:List (List Nat))(hx:ab1 (lr r))(V: ∀l∈r,10∉l)(hl:r.length≤1000)(rc cs:List T)(rest:List ah)(F:rc.length=14)
  (I: ∀q lh,∃us,ub q lh (⟨1,.cells rc 0 true⟩::rest) false rc=some (cs,us))
  (hs:xi r kS0 (⟨1,.cells rc 0 true⟩::rest)) (s':List ah) (O:ae pE 118 [.agg cs] []=some (qi 0,s')):
  ∃W,ae pE 64 [.s (lr r)] []=some (.tup [.agg cs,qi 0,qi 0],W):=by
 have X:=ab2 r hx V hl
 have hv:IsSl (bj r.length (strs r)) r.length (strs r):=dX fun h=>by
  rw[List.length_eq_zero_iff.1 h];rfl
 have U:=fun fr lh=>aJc (bj r.length (strs r)) r hv zV _ fr lh _ hs
 have hz1:=hv.froz1
 unfold kS0 ti iZ at U
 simp only[List.cons_append,List.nil_append]at U
 have Y:rc.take 14=rc:=by rw[←F];exact List.take_length
 have Z:=nE [T.i IntKind.i64 0,T.i IntKind.i64 0,T.i IntKind.i64 0,T.i IntKind.i64 0,T.i IntKind.i64 0,T.i IntKind.i64 0,T.i IntKind.i64 0,T.nilsl,T.nilsl,T.nilsl,T.nilsl,T.nilsl,T.nilsl,T.i IntKind.i64 0] rc (by rw[F];rfl)
 obtain⟨us,hus⟩: ∃us:Nat→aE ah→List Up,∀q lh,ub q lh (⟨1,.cells rc 0 true⟩::rest) false rc=some (cs,us q lh):=⟨fun q lh=>(I q lh).choose,fun q lh=>(I q lh).choose_spec⟩
 rw[au axL (by simp[c64])]
 generalize lr r=tx at*
 generalize bj r.length (strs r)=v at*
 simp(maxDischargeDepth:=6) only[qA,eO,seval,c64,X,aym]
 generalize hD:DC pE 61 (.loop xO) _=D
 obtain⟨f2,l2,s2,rfl,⟨rfl,rfl⟩,fR⟩:=qK Jd hD (U _ _ yk yk yk yk)
 have p2:aa f2 2= .ptr .L 2 1 0:=by rw[fR 2 zz];simp only[qA,seval]
 have p7:aa f2 7= .ptr .S 0 1 0:=by rw[fR 7 zz];simp only[qA,seval]
 clear fR hD U
 simp(maxDischargeDepth:=6) only[qA,eO,seval,p2,p7,O,ayq,F,Y,Z,hus]
 exact⟨_,rfl⟩
def Ou(x:Ex):iD x (fN x):=rfl
def xj(x:Ex): ∃d,fN x= [qi x.op,qi x.num,.s x.name,d]∧froz1 d=true:=by
 cases x with
 |mk op n s a=>
  cases a with
  |nil=>exact⟨.nilsl,by rw[fN];rfl,rfl⟩
  |cons b r=>exact⟨_,by rw[fN];rfl,rfl⟩
def HX(u:Ru):List T:= qi u.sc:: .s u.nm::fN u.x
def Mx(u:Co):List T:= qi u.sc::fN u.x
def aqn(u:Ru):U2 u (HX u):=by
 obtain⟨a,r,e,h1,_⟩:=(Ou u.x).cells
 exact⟨a,r,by unfold HX;rw[e],h1,e.symm⟩
def aqo(u:Co):CoR u (Mx u):=by
 obtain⟨a,r,e,h1,_⟩:=(Ou u.x).cells
 exact⟨a,r,by unfold Mx;rw[e],h1,e.symm⟩
theorem LN: ∀l:List Ru,aD U2 l (l.flatMap HX)
 | []=>rfl
 |u::l=>⟨_,_,rfl,aqn u,LN l⟩
theorem LO: ∀l:List Co,aD CoR l (l.flatMap Mx)
 | []=>rfl
 |u::l=>⟨_,_,rfl,aqo u,LO l⟩
def sR: ∀l∈nW,ScK l:=td 6 s3 (td 6 s4 s5)
theorem eR: ∀l∈ruX,PaK 4 l:=td 6 e1 (td 6 e2 e3)
def sKo: ∀l∈nY++tg,ScK l:=td 7 s6 s7
def eKo: ∀l∈koX,PaK 3 l:=td 8 e4 e5
def Dm:List (List Nat):=hls++nW++nY++tg
def aqp: ∀l∈Dm,(tok l).length=(tok l).length/4*4∧0<(tok l).length/4∧(tok l).length/4≤1000:=by decide+kernel
def acd:(∀l∈nW,4≤(tok l).length/4)∧ ∀l∈nY++tg,3≤(tok l).length/4:=by decide+kernel
def lnk{l:List Nat}(hl:l∈Dm)(h:ScK l){s r:List ah}(hd:ae pE 117 [.ptr .S 0 1 0,.ptr .S 1 1 0,th 0 l] s=some (qi 0,r)):Q6 l s r:=by
 obtain⟨u,D⟩:=h
 obtain⟨_,h2,_⟩:=aqp l hl
 refine⟨_,_,u,(tok l).length/4-1,D, ?_,rfl,hd⟩
 show some (qi (((tok l).length/4-0:Nat):Int))=_
 rw[show(tok l).length/4-0=(tok l).length/4-1+1 by omega]
def scW(s:Int):List Nat:=if s=1 then [100,117,116,121]else if s=2 then [114,101,115,116]else [112,97,105,114,105,110,103]
def acf{s:Int}(h:s=1∨s=2∨s=3):HV (scW s)=s∧(scW s= [100,117,116,121]∨scW s= [114,101,115,116]∨scW s= [112,97,105,114,105,110,103]):=by
 rcases h with rfl|rfl|rfl <;> decide
def hdR(u:Ru):List T:=Vc 1 (scW u.sc) 0 0++Vc 1 [114,117,108,101] 0 ((scW u.sc).length+1)++Vc 1 u.nm 0 ((scW u.sc).length+6)++Vc 1 [105,115] 0 ((scW u.sc).length+7+u.nm.length)
def hdK(s:Int)(w:List Nat):List T:=Vc 1 (scW s) 0 0++Vc 1 w 0 ((scW s).length+1)++Vc 1 [105,115] 0 ((scW s).length+2+w.length)
def tkR:(nW.map fun l=>(tok l).take 16)=iX.map hdR:=by kernel_rfl
def tkK:(nY.map fun l=>(tok l).take 12)=ic.map fun u=>hdK u.sc [99,111,115,116]:=by kernel_rfl
def tkC:(tg.map fun l=>(tok l).take 12)=tg.map fun _=>hdK 1 [99,114,101,100,105,116]:=by kernel_rfl
def Ov{α β γ:Type}{L:List α}{M:List β}{f:α→γ}{g:β→γ}(h:L.map f=M.map g)(i:Nat)(h1:i<L.length)(h2:i<M.length):f L[i]=g M[i]:=by
 have:=congrArg (fun l=>l[i]?) h
 simpa[List.getElem?_eq_getElem,h1,h2]using this
def LP{α β γ:Type}{A:List α}{B:List β}(f:β→γ)(i:Nat)(h1:i<A.length)(h2:i<B.length):(A[i],f B[i])∈A.zip (B.map f):=List.mem_iff_getElem.2 ⟨i,by rw[List.length_zip,List.length_map];omega,by simp⟩
def acg{α β:Type}{A:List α}{B:List β}(i:Nat)(h1:i<A.length)(h2:i<B.length):(A[i],B[i])∈A.zip B:=List.mem_iff_getElem.2 ⟨i,by rw[List.length_zip];omega,by simp⟩
def aqq: ∀u∈iX,(u.sc=1∨u.sc=2∨u.sc=3)∧jt u.nm=true:=by decide+kernel
def aqr: ∀u∈ic,u.sc=1∨u.sc=2∨u.sc=3:=by decide+kernel
def Ep{l:List Nat}(hl:l∈Dm){a:List T}{m i:Nat}(F:(tok l).take m=a){s:List Nat}{r:List T}{N:Int}(h:a.drop (i*4)= qi 1:: .s s:: qi N::r)(hi:i<(tok l).length/4):Tk (th 0 l) ((tok l).length/4) i 1 s N:=by
 obtain⟨h1,_,h3⟩:=aqp l hl
 refine Tk.of (tok l) _ i 1 s N (r++(tok l).drop m) hi h3 h1 ?_
 have e:=List.take_append_drop m (tok l)
 rw[F]at e
 have D:i*4≤a.length:=by
  refine Nat.le_of_not_lt fun I=> ?_
  rw[List.drop_eq_nil_of_le zV]at h
  cases h
 have e2:(tok l).drop (i*4)=(a++(tok l).drop m).drop (i*4):=by rw[e]
 rw[e2,List.drop_append_of_le_length D,h]
 rfl
def HY{l:List Nat}(hl:l∈Dm)(k:Nat)(hk:k≤(tok l).length/4):lK (th 0 l)=some ((tok l).length/4)∧pG 4 (th 0 l) k ((tok l).length/4)=some (th k l):=by
 obtain⟨h1,_,_⟩:=aqp l hl
 refine⟨rfl, ?_⟩
 have h3:((tok l).drop (k*4)).take (((tok l).length/4-k)*4)=(tok l).drop (k*4):=List.take_of_length_le (by rw[List.length_drop,Nat.sub_mul];omega)
 show pG 4 (.sl (tok l) _ false) k _=_
 unfold th
 simp[pG,hk,←h1,h3]
def aqs{l:List Nat}(h:l∈nW):l∈Dm:=by unfold Dm;simp[h]
def mem_co{l:List Nat}(h:l∈nY):l∈Dm:=by unfold Dm;simp[h]
def aqt{l:List Nat}(h:l∈tg):l∈Dm:=by unfold Dm;simp[h]
theorem aJd(x0 x1 x2 x3 x4 x5 x6 jd:T)(sn:List T)(i:Nat)(hi:i<18)(n:Nat)(I:n≤100)(cs:List T)(D:cs.length=n*6):Q6 (nW[i]'hi) (stR [x0,x1,x2,x3,x4,x5,x6] jd sn n cs) (stR [x0,x1,x2,x3,x4,x5,x6] jd sn (n+1) (cs++HX (iX[i]'hi))):=by
 have F:nW[i]'hi∈nW:=List.getElem_mem hi
 have hl:=aqs F
 have r:=Ov tkR i hi hi
 have h4:=acd.1 _ F
 obtain⟨O,Dl⟩:=aqq _ (List.getElem_mem (h:=hi))
 obtain⟨s,he⟩:=eR (nW[i]'hi,(iX[i]'hi).x) (LP (A:=nW) (B:=iX) Ru.x i hi hi)
 obtain⟨d,e4,hd⟩:=xj (iX[i]'hi).x
 rw[show(nW[i]'hi,(iX[i]'hi).x).2=(iX[i]'hi).x from rfl,e4]at he
 obtain⟨U,V⟩:=acf O
 obtain⟨W,X⟩:=HY hl 4 h4
 refine lnk hl (sR _ F) ?_
 have h:=aI8 x0 x1 x2 x3 x4 x5 x6 jd sn n I cs D _ _ _ _ _ _ _ _ (Ep hl (i:=0) r rfl zV) (Ep hl (i:=1) r rfl zV) (Ep hl (i:=2) r rfl zV) (Ep hl (i:=3) r rfl zV) V Dl _ W X rfl _ _ _ _ ⟨rfl,rfl,rfl,hd⟩ s he
 rw[U]at h
 unfold HX
 rw[e4]
 exact h
theorem aJe(x0 x1 x2 x3 x4 x5 x6 jd r:T)(sn:List T)(P:List ah)(O:P.length≤1)(i:Nat)(hi:i<10)(n:Nat)(U:n≤100)(cs:List T)(D:cs.length=n*5):Q6 (nY[i]'hi) (stK [x0,x1,x2,x3,x4,x5,x6] jd r sn P n cs) (stK [x0,x1,x2,x3,x4,x5,x6] jd r sn P (n+1) (cs++Mx (ic[i]'hi))):=by
 have F:nY[i]'hi∈nY:=List.getElem_mem hi
 have hl:=mem_co F
 have I:=Ov tkK i hi hi
 have h4:=acd.2 _ (List.mem_append_left _ F)
 have V:=aqr _ (List.getElem_mem (h:=hi))
 obtain⟨s,he⟩:=eKo (nY[i]'hi,(ic[i]'hi).x) (List.mem_append_left _ (List.mem_append_left _ (LP (A:=nY) (B:=ic) Co.x i hi hi)))
 obtain⟨d,e4,hd⟩:=xj (ic[i]'hi).x
 rw[show(nY[i]'hi,(ic[i]'hi).x).2=(ic[i]'hi).x from rfl,e4]at he
 obtain⟨W,X⟩:=acf V
 obtain⟨Y,Z⟩:=HY hl 3 h4
 refine lnk hl (sKo _ (List.mem_append_left _ F)) ?_
 have h:=aJa x0 x1 x2 x3 x4 x5 x6 jd r sn P O n U cs D _ _ _ _ _ _ (Ep hl (i:=0) I rfl zV) (Ep hl (i:=1) I rfl zV) (Ep hl (i:=2) I rfl zV) X _ Y Z rfl _ _ _ _ ⟨rfl,rfl,rfl,hd⟩ s he
 rw[W]at h
 unfold Mx
 rw[e4]
 exact h
def aCJ(x0 x1 x2 x3 x4 x5 x6 jd r On:T)(sn:List T)(P:List ah)(I:P.length≤2)(i:Nat)(hi:i<3):Q6 (tg[i]'hi) (stC [x0,x1,x2,x3,x4,x5,x6] jd r On sn P []) (stC [x0,x1,x2,x3,x4,x5,x6] jd r On sn P (fN (wJ[i]'hi))):=by
 have D:tg[i]'hi∈tg:=List.getElem_mem hi
 have hl:=aqt D
 have F:=Ov tkC i hi hi
 have h4:=acd.2 _ (List.mem_append_right _ D)
 obtain⟨s,he⟩:=eKo (tg[i]'hi,wJ[i]'hi) (List.mem_append_left _ (List.mem_append_right _ (acg (A:=tg) (B:=wJ) i hi hi)))
 obtain⟨d,e4,hd⟩:=xj (wJ[i]'hi)
 rw[show(tg[i]'hi,wJ[i]'hi).2=wJ[i]'hi from rfl,e4]at he
 obtain⟨O,U⟩:=HY hl 3 h4
 refine lnk hl (sKo _ (List.mem_append_right _ D)) ?_
 rw[e4]
 exact aJb x0 x1 x2 x3 x4 x5 x6 jd r On sn P I _ _ _ _ _ (Ep hl (i:=0) F rfl zV) (Ep hl (i:=1) F rfl zV) (Ep hl (i:=2) F rfl zV) _ O U rfl _ _ _ _ ⟨rfl,rfl,rfl,hd⟩ s he
def dH(f:Nat)(L:List Nat)(g:Nat→List T)(s r:Nat→List ah)(h:(L.map fun x=>ow pE 1000 f (g x) (s x))=L.map fun x=>some (qi 0,r x)): ∀x∈L,ae pE f (g x) (s x)=some (qi 0,r x):=fun x hx=>DCall_iff.2 ⟨1000,List.map_inj_left.1 h x hx⟩
theorem hK(i:Nat)(hi:i<7)(j:Nat)(F:j≤2){s r:List ah}(h:ae pE 117 [.ptr .S 0 1 0,.ptr .S 1 1 0,th 0 (gG i j)] s=some (qi 0,r)):Q6 (gG i j) s r:=by
 have D:gG i j∈hls:=List.mem_flatMap.2 ⟨i,List.mem_range.2 hi,by
  have:j=0∨j=1∨j=2:=zV
  rcases this with rfl|rfl|rfl <;> simp⟩
 exact lnk (by unfold Dm;simp[D]) (s2 _ D) h
theorem m3{j:Nat}(h:j≤2):j∈ [0,1,2]:=by
 have:j=0∨j=1∨j=2:=zV
 simpa using this
theorem h0(x0 x1 x2 x3 x4 x5 x6:T)(j:Nat)(r:j≤2):Q6 (gG 0 j) (ti [x0,x1,x2,x3,x4,x5,x6] .nilsl [.b false,.b false,.b false,.b false,.b false,.b false,.b false]) (ti [qi (rpB j),x1,x2,x3,x4,x5,x6] .nilsl [.b true,.b false,.b false,.b false,.b false,.b false,.b false]):=hK 0 zV j r (dH 117 [0,1,2] (fun j=> [.ptr .S 0 1 0,.ptr .S 1 1 0,th 0 (gG 0 j)]) (fun _=>ti [x0,x1,x2,x3,x4,x5,x6] .nilsl [.b false,.b false,.b false,.b false,.b false,.b false,.b false]) (fun j=>ti [qi (rpB j),x1,x2,x3,x4,x5,x6] .nilsl [.b true,.b false,.b false,.b false,.b false,.b false,.b false]) (by kernel_rfl) j (m3 r))
theorem h1(x0 x1 x2 x3 x4 x5 x6:T)(j:Nat)(r:j≤2):Q6 (gG 1 j) (ti [x0,x1,x2,x3,x4,x5,x6] .nilsl [.b true,.b false,.b false,.b false,.b false,.b false,.b false]) (ti [x0,qi (rlB j),x2,x3,x4,x5,x6] .nilsl [.b true,.b true,.b false,.b false,.b false,.b false,.b false]):=hK 1 zV j r (dH 117 [0,1,2] (fun j=> [.ptr .S 0 1 0,.ptr .S 1 1 0,th 0 (gG 1 j)]) (fun _=>ti [x0,x1,x2,x3,x4,x5,x6] .nilsl [.b true,.b false,.b false,.b false,.b false,.b false,.b false]) (fun j=>ti [x0,qi (rlB j),x2,x3,x4,x5,x6] .nilsl [.b true,.b true,.b false,.b false,.b false,.b false,.b false]) (by kernel_rfl) j (m3 r))
theorem h2(x0 x1 x2 x3 x4 x5 x6:T)(j:Nat)(r:j≤2):Q6 (gG 2 j) (ti [x0,x1,x2,x3,x4,x5,x6] .nilsl [.b true,.b true,.b false,.b false,.b false,.b false,.b false]) (ti [x0,x1,qi (Uu j),x3,x4,x5,x6] .nilsl [.b true,.b true,.b true,.b false,.b false,.b false,.b false]):=hK 2 zV j r (dH 117 [0,1,2] (fun j=> [.ptr .S 0 1 0,.ptr .S 1 1 0,th 0 (gG 2 j)]) (fun _=>ti [x0,x1,x2,x3,x4,x5,x6] .nilsl [.b true,.b true,.b false,.b false,.b false,.b false,.b false]) (fun j=>ti [x0,x1,qi (Uu j),x3,x4,x5,x6] .nilsl [.b true,.b true,.b true,.b false,.b false,.b false,.b false]) (by kernel_rfl) j (m3 r))
theorem h3(x0 x1 x2 x3 x4 x5 x6:T)(j:Nat)(r:j≤2):Q6 (gG 3 j) (ti [x0,x1,x2,x3,x4,x5,x6] .nilsl [.b true,.b true,.b true,.b false,.b false,.b false,.b false]) (ti [x0,x1,x2,qi (GP j),x4,x5,x6] .nilsl [.b true,.b true,.b true,.b true,.b false,.b false,.b false]):=hK 3 zV j r (dH 117 [0,1,2] (fun j=> [.ptr .S 0 1 0,.ptr .S 1 1 0,th 0 (gG 3 j)]) (fun _=>ti [x0,x1,x2,x3,x4,x5,x6] .nilsl [.b true,.b true,.b true,.b false,.b false,.b false,.b false]) (fun j=>ti [x0,x1,x2,qi (GP j),x4,x5,x6] .nilsl [.b true,.b true,.b true,.b true,.b false,.b false,.b false]) (by kernel_rfl) j (m3 r))
theorem h4(x0 x1 x2 x3 x4 x5 x6:T)(j:Nat)(r:j≤2):Q6 (gG 4 j) (ti [x0,x1,x2,x3,x4,x5,x6] .nilsl [.b true,.b true,.b true,.b true,.b false,.b false,.b false]) (ti [x0,x1,x2,x3,qi (lyB j),x5,x6] .nilsl [.b true,.b true,.b true,.b true,.b true,.b false,.b false]):=hK 4 zV j r (dH 117 [0,1,2] (fun j=> [.ptr .S 0 1 0,.ptr .S 1 1 0,th 0 (gG 4 j)]) (fun _=>ti [x0,x1,x2,x3,x4,x5,x6] .nilsl [.b true,.b true,.b true,.b true,.b false,.b false,.b false]) (fun j=>ti [x0,x1,x2,x3,qi (lyB j),x5,x6] .nilsl [.b true,.b true,.b true,.b true,.b true,.b false,.b false]) (by kernel_rfl) j (m3 r))
theorem h5(x0 x1 x2 x3 x4 x5 x6:T)(j:Nat)(r:j≤2):Q6 (gG 5 j) (ti [x0,x1,x2,x3,x4,x5,x6] .nilsl [.b true,.b true,.b true,.b true,.b true,.b false,.b false]) (ti [x0,x1,x2,x3,x4,qi (nfB j),qi (ntB j)] .nilsl [.b true,.b true,.b true,.b true,.b true,.b false,.b true]):=hK 5 zV j r (dH 117 [0,1,2] (fun j=> [.ptr .S 0 1 0,.ptr .S 1 1 0,th 0 (gG 5 j)]) (fun _=>ti [x0,x1,x2,x3,x4,x5,x6] .nilsl [.b true,.b true,.b true,.b true,.b true,.b false,.b false]) (fun j=>ti [x0,x1,x2,x3,x4,qi (nfB j),qi (ntB j)] .nilsl [.b true,.b true,.b true,.b true,.b true,.b false,.b true]) (by kernel_rfl) j (m3 r))
theorem h6(x0 x1 x2 x3 x4 x5 x6:T)(j:Nat)(r:j≤2):Q6 (gG 6 j) (ti [x0,x1,x2,x3,x4,x5,x6] .nilsl [.b true,.b true,.b true,.b true,.b true,.b false,.b true]) (ti [x0,x1,x2,x3,x4,x5,x6] (.sl (.s ug::fN (nP j)) 1 false) [.b true,.b true,.b true,.b true,.b true,.b false,.b true]):=hK 6 zV j r (dH 117 [0,1,2] (fun j=> [.ptr .S 0 1 0,.ptr .S 1 1 0,th 0 (gG 6 j)]) (fun _=>ti [x0,x1,x2,x3,x4,x5,x6] .nilsl [.b true,.b true,.b true,.b true,.b true,.b false,.b true]) (fun j=>ti [x0,x1,x2,x3,x4,x5,x6] (.sl (.s ug::fN (nP j)) 1 false) [.b true,.b true,.b true,.b true,.b true,.b false,.b true]) (by kernel_rfl) j (m3 r))
def Mv(b:Nat→Int):List T:= [qi (rpB (kB b 0)),qi (rlB (kB b 1)),qi (Uu (kB b 2)),qi (GP (kB b 3)),qi (lyB (kB b 4)),qi (nfB (kB b 5)),qi (ntB (kB b 5))]
def Uz(b:Nat→Int):T:= .sl (.s ug::fN (nP (kB b 6))) 1 false
def snU:List T:= [.b true,.b true,.b true,.b true,.b true,.b false,.b true]
def aqu(b:Nat→Int):xi (hdB b) kS0 (ti (Mv b) (Uz b) snU):=by
 have e: ∀i,b i%3=(kB b i:Int):=fun i=>by unfold kB;omega
 unfold hdB kS0
 rw[e 0,e 1,e 2,e 3,e 4,e 5,e 6]
 exact⟨_,h0 _ _ _ _ _ _ _ _ (tG b 0),_,h1 _ _ _ _ _ _ _ _ (tG b 1),_,h2 _ _ _ _ _ _ _ _ (tG b 2),_,h3 _ _ _ _ _ _ _ _ (tG b 3),_,h4 _ _ _ _ _ _ _ _ (tG b 4),_,h5 _ _ _ _ _ _ _ _ (tG b 5),_,h6 _ _ _ _ _ _ _ _ (tG b 6),rfl⟩
theorem Ow{α:Type}(L:List (List Nat))(X:List α)(f:α→List T)(sz:Nat)(St:Nat→List T→List ah)(D: ∀x,(f x).length=sz)(hl:L.length=X.length)(F:X.length≤50)
  (r: ∀(i:Nat) (h1:i<L.length) (h2:i<X.length) (n:Nat),n≤100→ ∀cs:List T,cs.length=n*sz→Q6 L[i] (St n cs) (St (n+1) (cs++f X[i]))) (p:Nat→Bool): ∀k,k≤L.length→xi (dh p 0 (L.take k)) (St 0 []) (St (dh p 0 (X.take k)).length ((dh p 0 (X.take k)).flatMap f))
 |0,_=>by simp[dh,xi]
 |k+1,hk=>by
  have ih:=Ow L X f sz St D hl F r p k zV
  rw[sM p L k zV,sM p X k zV]
  have gG:(dh p 0 (X.take k)).length≤k:=by
   have:=(eC p 0 (X.take k)).length_le
   rw[List.length_take]at this
   omega
  refine rG ih ?_
  by_cases h:p k=true
  ·rw[if_pos h,if_pos h,List.length_append,List.length_singleton,List.flatMap_append,List.flatMap_cons,List.flatMap_nil,List.append_nil]
   exact⟨_,r k zV zV _ zV _ (iC D _),rfl⟩
  ·rw[if_neg h,if_neg h,List.append_nil]
   exact rfl
def AZ(n:Nat)(cs:List T):List ah:=if n=0 then []else [⟨n,.cells cs 0 false⟩]
def slR(n:Nat):T:=if n=0 then .nilsl else .isl .S 2 n 0 n 6
def slK(k n:Nat):T:=if n=0 then .nilsl else .isl .S k n 0 n 5
theorem ahV(hd:List T)(jd:T)(sn:List T)(n:Nat)(cs:List T):stR hd jd sn n cs=stK hd jd (slR n) sn (AZ n cs) 0 []:=by
 unfold stR stK slR AZ
 simp
theorem ahW(hd:List T)(jd r:T)(sn:List T)(P:List ah)(n:Nat)(cs:List T):stK hd jd r sn P n cs=stC hd jd r (slK (2+P.length) n) sn (P++AZ n cs) []:=by
 unfold stK stC slK AZ
 simp
theorem ahX(hd:List T)(jd:T)(sn:List T):ti hd jd sn=stR hd jd sn 0 []:=by
 unfold ti stR
 simp
def aCK(b:Nat→Int):List ah:=
 stC (Mv b) (Uz b) (slR (nD b).ru.length) (slK (2+(AZ (nD b).ru.length ((nD b).ru.flatMap HX)).length) (nD b).co.length) snU (AZ (nD b).ru.length ((nD b).ru.flatMap HX)++AZ (nD b).co.length ((nD b).co.flatMap Mx)) ((nD b).cr.flatMap fN)
def aqw(b:Nat→Int):xi (Ux b) kS0 (aCK b):=by
 unfold Ux
 have h0:=aqu b
 have h1:=Ow nW iX HX 6 (stR (Mv b) (Uz b) snU) (fun u=>by unfold HX;rw[List.length_cons,List.length_cons,pO]) rfl zz (fun i h1 _ n D cs r=>aJd _ _ _ _ _ _ _ _ _ i h1 n D cs r) (AW b) 18 zz
 have e1:nW.take 18=nW:=rfl
 have e2:iX.take 18=iX:=rfl
 rw[e1,e2,ahV _ _ _ (dh (AW b) 0 iX).length]at h1
 rw[ahX]at h0
 have I:(AZ (dh (AW b) 0 iX).length ((dh (AW b) 0 iX).flatMap HX)).length≤1:=by unfold AZ;split <;> simp
 have h2:=Ow nY ic Mx 5 (stK (Mv b) (Uz b) (slR (dh (AW b) 0 iX).length) snU (AZ (dh (AW b) 0 iX).length ((dh (AW b) 0 iX).flatMap HX))) (fun u=>by unfold Mx;rw[List.length_cons,pO]) rfl zz (fun i h1 _ n D cs r=>aJe _ _ _ _ _ _ _ _ _ _ _ I i h1 n D cs r) (HR b) 10 zz
 have e3:nY.take 10=nY:=rfl
 have e4:ic.take 10=ic:=rfl
 rw[e3,e4,ahW _ _ _ _ _ (dh (HR b) 0 ic).length]at h2
 refine rG (rG (rG h0 h1) h2) ?_
 have F:(AZ (dh (AW b) 0 iX).length ((dh (AW b) 0 iX).flatMap HX)++AZ (dh (HR b) 0 ic).length ((dh (HR b) 0 ic).flatMap Mx)).length≤2:=by
  have:(AZ (dh (HR b) 0 ic).length ((dh (HR b) 0 ic).flatMap Mx)).length≤1:=by unfold AZ;split <;> simp
  rw[List.length_append];omega
 show xi (crD b) _ (stC (Mv b) (Uz b) (slR (dh (AW b) 0 iX).length) (slK (2+(AZ (dh (AW b) 0 iX).length ((dh (AW b) 0 iX).flatMap HX)).length) (dh (HR b) 0 ic).length) snU (AZ (dh (AW b) 0 iX).length ((dh (AW b) 0 iX).flatMap HX)++AZ (dh (HR b) 0 ic).length ((dh (HR b) 0 ic).flatMap Mx)) ((crX b).flatMap fN))
 unfold crD crX
 by_cases h:b 41%4<3
 ·rw[if_pos h,if_pos h,List.flatMap_cons,List.flatMap_nil,List.append_nil]
  refine⟨_, ?_,rfl⟩
  have h3:(b 41%4).toNat<3:=zV
  rw[show tg.getD (b 41%4).toNat []=tg[(b 41%4).toNat]'h3 from by rw[List.getD_eq_getElem?_getD,List.getElem?_eq_getElem h3];rfl,show wJ.getD (b 41%4).toNat (.mk 1 2 [] [])=wJ[(b 41%4).toNat]'h3 from by rw[List.getD_eq_getElem?_getD,List.getElem?_eq_getElem h3];rfl]
  exact aCJ _ _ _ _ _ _ _ _ _ _ _ _ F _ h3
 ·rw[if_neg h,if_neg h]
  exact rfl
def LQ(n:Nat)(cs:List T):T:=if n=0 then .nilsl else .sl cs n false
def aqx(x0 x1 x2 x3 x4 x5 x6 jd:T)(sn:List T)(hx:froz1 x0=true∧froz1 x1=true∧froz1 x2=true∧froz1 x3=true∧froz1 x4=true∧froz1 x5=true∧froz1 x6=true∧froz1 jd=true)(n m:Nat)(rs ks cr:List T)(hr:rs.length=n*6)(hk:ks.length=m*5)(hc:cr= []∨cr.length=4)(q:Nat)(lh:aE ah):
  ∃us,ub q lh (stC [x0,x1,x2,x3,x4,x5,x6] jd (slR n) (slK (2+(AZ n rs).length) m) sn (AZ n rs++AZ m ks) cr) false [x0,x1,x2,x3,x4,x5,x6,jd,slR n,slK (2+(AZ n rs).length) m,if cr= []then .nilsl else .isl .S (2+(AZ n rs++AZ m ks).length) 1 0 1 4,.nilsl,.nilsl,qi 0]=some ([x0,x1,x2,x3,x4,x5,x6,jd,LQ n rs,LQ m ks,LQ (if cr= []then 0 else 1) cr,.nilsl,.nilsl,qi 0],us):=by
 obtain⟨X,Y,Z,y3,y4,y5,y6,y7⟩:=hx
 unfold stC slR slK AZ LQ
 have F:cr≠ []→cr.length=1*4:=fun h=>by rw[hc.resolve_left h]
 have eR:=fun C D t=>Dd (m:=q) (lh:=lh) (s:=C::D::⟨n,.cells rs 0 false⟩::t) (k:=2) rfl hr
 have I:=fun C D t=>Dd (m:=q) (lh:=lh) (s:=C::D::⟨m,.cells ks 0 false⟩::t) (k:=2) rfl hk
 have O:=fun C D r t=>Dd (m:=q) (lh:=lh) (s:=C::D::r::⟨m,.cells ks 0 false⟩::t) (k:=3) rfl hk
 have U:=fun h C D t=>Dd (m:=q) (lh:=lh) (s:=C::D::⟨1,.cells cr 0 false⟩::t) (k:=2) rfl (F h)
 have V:=fun h C D r t=>Dd (m:=q) (lh:=lh) (s:=C::D::r::⟨1,.cells cr 0 false⟩::t) (k:=3) rfl (F h)
 have W:=fun h C D r r' t=>Dd (m:=q) (lh:=lh) (s:=C::D::r::r'::⟨1,.cells cr 0 false⟩::t) (k:=4) rfl (F h)
 have n1: ¬(1:Nat)=0:=zz
 by_cases hn:n=0 <;> by_cases hm:m=0 <;> by_cases qn:cr= []
 all_goals
  simp only[qA,hn,hm,qn,n1,X,Y,Z,y3,y4,y5,y6,y7,eR,I,O,U,V,W]
  exact⟨_,rfl⟩
def qe(l:List Nat):Bool:=decide (l.length≤100)&&l.all fun c=>decide (32≤c)&&decide (c≤126)
def uz{r:Int}(P:Int→Prop)(h0:P 0)(h1:P 1)(h2:P 2)(n:Int)(h:r=n%3):P r:=by
 have:r=0∨r=1∨r=2:=zV
 rcases this with rfl|rfl|rfl <;> assumption
def lo0(n:Int):qe ([114,101,112,111,114,116,32]++yD (n%3))=true:=uz (fun r=>qe ([114,101,112,111,114,116,32]++yD r)=true) zz zz zz n rfl
def lo1(n:Int):qe ([114,101,108,101,97,115,101,32]++Gt (n%3))=true:=uz (fun r=>qe ([114,101,108,101,97,115,101,32]++Gt r)=true) zz zz zz n rfl
def lo2(n:Int):qe ([99,111,110,110,101,99,116,32]++yh (n%3))=true:=uz (fun r=>qe ([99,111,110,110,101,99,116,32]++yh r)=true) zz zz zz n rfl
def lo3(n:Int):qe ([115,105,116,32]++UT (n%3))=true:=uz (fun r=>qe ([115,105,116,32]++UT r)=true) zz zz zz n rfl
def lo4(n:Int):qe ([108,97,121,111,118,101,114,32]++hv4 (n%3))=true:=uz (fun r=>qe ([108,97,121,111,118,101,114,32]++hv4 r)=true) zz zz zz n rfl
def lo5(n:Int):qe ([110,105,103,104,116,32]++Uw (n%3))=true:=uz (fun r=>qe ([110,105,103,104,116,32]++Uw r)=true) zz zz zz n rfl
def lo6(n:Int):qe ([99,111,110,115,116,32,115,104,105,102,116,115,32,105,115,32]++U8 (n%3))=true:=uz (fun r=>qe ([99,111,110,115,116,32,115,104,105,102,116,115,32,105,115,32]++U8 r)=true) zz zz zz n rfl
def aqy(b:Nat→Int): ∀l∈Ux b,qe l=true:=by
 have hr:nW.all qe=true:=by decide+kernel
 have hk:nY.all qe=true:=by decide+kernel
 have hc:tg.all qe=true:=by decide+kernel
 intro l hl
 unfold Ux at hl
 rcases List.mem_append.1 hl with hl|hl
 ·rcases List.mem_append.1 hl with hl|hl
  ·rcases List.mem_append.1 hl with hl|hl
   ·unfold hdB at hl
    simp only[List.mem_cons,List.not_mem_nil,or_false]at hl
    rcases hl with rfl|rfl|rfl|rfl|rfl|rfl|rfl
    ·exact lo0 _
    ·exact lo1 _
    ·exact lo2 _
    ·exact lo3 _
    ·exact lo4 _
    ·exact lo5 _
    ·exact lo6 _
   ·exact List.all_eq_true.1 hr l ((eC _ _ _).subset hl)
  ·exact List.all_eq_true.1 hk l ((eC _ _ _).subset hl)
 ·unfold crD at hl
  split at hl
  ·rename_i h
   rw[List.mem_singleton]at hl
   subst hl
   have r:(b 41%4).toNat<tg.length:=by show(b 41%4).toNat<3;omega
   rw[List.getD_eq_getElem?_getD,List.getElem?_eq_getElem r]
   exact List.all_eq_true.1 hc _ (List.getElem_mem r)
  ·simp at hl
def Q7(b:Nat→Int):(Ux b).length≤100:=by
 unfold Ux crD
 have h1:=(eC (AW b) 0 nW).length_le
 have h2:=(eC (HR b) 0 nY).length_le
 have e1:nW.length=18:=rfl
 have e2:nY.length=10:=rfl
 have e3:(hdB b).length=7:=rfl
 simp only[List.length_append]
 split <;> simp <;> omega
def aqz(b:Nat→Int):ab1 (lr (Ux b))∧ ∀l∈Ux b,10∉l:=ahO (Ux b) (fun l hl=>by
 have h:=aqy b l hl
 unfold qe at h
 simp only[Bool.and_eq_true,decide_eq_true_eq,List.all_eq_true]at h
 exact h) (Q7 b)
def HZ{n:Nat}{cs:List T}(h:n=0→cs= []):IsSl (LQ n cs) n cs:=dX h
theorem FV: ∀l:List Ex,l.flatMap fN=qC l
 | []=>by rw[qC];rfl
 |x::l=>by rw[qC,List.flatMap_cons,FV l]
def aci(l:List Ex):cD l (l.flatMap fN):=FV l
def alW(b:Nat→Int):kR (nD b) (Uz b) (LQ (nD b).ru.length ((nD b).ru.flatMap HX)) (LQ (nD b).co.length ((nD b).co.flatMap Mx)) (LQ (nD b).cr.length ((nD b).cr.flatMap fN)) .nilsl .nilsl:=by
 refine⟨?_, ?_, ?_, ?_, ?_, ?_⟩
 ·refine⟨.s ug::fN (nP (kB b 6)),.inr ⟨_,rfl⟩, ?_⟩
  show dc [(ug,nP (kB b 6))] _
  rw[dc]
  exact⟨fN (nP (kB b 6)),[],by simp,Ou _,by rw[dc]⟩
 ·exact⟨_,HZ fun h=>by rw[List.length_eq_zero_iff.1 h];rfl,LN _⟩
 ·exact⟨_,HZ fun h=>by rw[List.length_eq_zero_iff.1 h];rfl,LO _⟩
 ·exact⟨_,HZ fun h=>by rw[List.length_eq_zero_iff.1 h];rfl,aci _⟩
 ·exact⟨[],.inl ⟨rfl,rfl,rfl⟩,rfl⟩
 ·exact⟨[],.inl ⟨rfl,rfl,rfl⟩,rfl⟩
def aqA(b:Nat→Int):gr (nD b)=0:=by
 have h:=ap6 b
 unfold eH at h
 by_cases hg:gr (nD b)=0
 ·exact hg
 ·rw[if_pos hg]at h;exact h
def alX{u:Ru}(h:u∈iX):u.x.sm:=List.mem_append_left _ (List.mem_append_left _ (List.mem_append_left _ (List.mem_map_of_mem h)))
def alY{u:Co}(h:u∈ic):u.x.sm:=List.mem_append_left _ (List.mem_append_left _ (List.mem_append_right _ (List.mem_map_of_mem h)))
def alZ{x:Ex}(h:x∈wJ):x.sm:=List.mem_append_left _ (List.mem_append_right _ h)
def al0{j:Nat}(h:j≤2):(nP j).sm:=List.mem_append_right _ (three (fun j=>nP j∈shB) (by simp[nP,shB]) (by simp[nP,shB]) (by simp[nP,shB]) h)
def acj(k:Nat→Nat)(hk: ∀i,k i≤2)(D:List Ru)(F:List Co)(cr:List Ex)(h1:D.Sublist iX)(h2:F.Sublist ic)(h3: ∀x∈cr,x∈wJ):CY (iY k D F cr):=by
 refine⟨fun c hc=> ?_,fun u r=>⟨Nat.zero_le _,alX (h1.subset r)⟩,fun u r=>⟨Nat.zero_le _,alY (h2.subset r)⟩,fun x hx=>⟨Nat.zero_le _,alZ (h3 x hx)⟩,⟨k 6,hk 6,rfl⟩,fun u r=>List.mem_append_left _ (List.mem_append_left _ (List.mem_map_of_mem (f:=fun u:Ru=>(u.sc,u.x)) (h1.subset r))),fun u r=>List.mem_append_left _ (List.mem_append_right _ (List.mem_map_of_mem (f:=fun u:Co=>(u.sc,u.x)) (h2.subset r))),fun x hx=>List.mem_append_right _ (List.mem_map_of_mem (f:=fun x:Ex=>((1:Int),x)) (h3 x hx))⟩
 have hc:c=(ug,nP (k 6)):=List.mem_singleton.1 hc
 subst hc
 exact⟨Nat.zero_le _,al0 (hk 6)⟩
def lS(b:Nat→Int):List T:=aO (nD b) (Uz b) (LQ (nD b).ru.length ((nD b).ru.flatMap HX)) (LQ (nD b).co.length ((nD b).co.flatMap Mx)) (LQ (nD b).cr.length ((nD b).cr.flatMap fN)) .nilsl .nilsl
def aCL(b:Nat→Int): ∃s,ae pE 64 [.s (lr (Ux b))] []=some (.tup [.agg (lS b),qi 0,qi 0],s):=by
 obtain⟨O,U⟩:=aqz b
 have hl:=Q7 b
 have V:CY (nD b):=acj _ (tG b) _ _ _ (eC _ _ _) (eC _ _ _) (Dh b).1
 have hg:=aqA b
 have hs:lD (nD b)=true:=by
  by_cases h:lD (nD b)=true
  ·exact h
  ·unfold gr at hg
   simp[h]at hg
   split at hg <;> simp at hg
 have hv:=LR (nD b) _ _ _ _ _ _ (alW b) (V.sm hs)
 rw[hg]at hv
 have D:(nD b).cr.length≤1:=(Dh b).2
 have hc:(nD b).cr.flatMap fN= []∨((nD b).cr.flatMap fN).length=4:=by
  cases h:(nD b).cr with
  |nil=>exact .inl rfl
  |cons x r=>
   rw[h]at D
   have:r= []:=List.length_eq_zero_iff.1 (by simpa using D)
   subst this
   exact .inr (by simp[pO])
 have I:=fun q lh=>aqx (jd:=Uz b) (sn:=snU) (x0:= qi (rpB (kB b 0))) (x1:= qi (rlB (kB b 1))) (x2:= qi (Uu (kB b 2))) (x3:= qi (GP (kB b 3))) (x4:= qi (lyB (kB b 4))) (x5:= qi (nfB (kB b 5))) (x6:= qi (ntB (kB b 5))) (hx:=⟨rfl,rfl,rfl,rfl,rfl,rfl,rfl,rfl⟩) (n:=(nD b).ru.length) (m:=(nD b).co.length) (rs:=(nD b).ru.flatMap HX) (ks:=(nD b).co.flatMap Mx) (cr:=(nD b).cr.flatMap fN) (hr:=iC (fun u=>by unfold HX;rw[List.length_cons,List.length_cons,pO]) _) (hk:=iC (fun u=>by unfold Mx;rw[List.length_cons,pO]) _) (hc:=hc) (q:=q) (lh:=lh)
 have F:(if(nD b).cr.flatMap fN= []then 0 else 1)=(nD b).cr.length:=by
  cases h:(nD b).cr with
  |nil=>rfl
  |cons x r=>
   rw[h]at D
   have:r= []:=List.length_eq_zero_iff.1 (by simpa using D)
   subst this
   obtain⟨d,e,_⟩:=xj x
   rw[List.flatMap_cons,e]
   rfl
 simp only[F]at I
 have ha:=aqw b
 unfold aCK at ha
 exact acb (Ux b) O U zV _ (lS b) _ rfl (fun q lh=>I q lh) ha _ hv
def aqB(xs:List Int)(la:T)(hl:IsSl la xs.length (ints xs)):ae pE 25 [la] []=some (.agg (lS (bJ xs)),[]):=by
 obtain⟨s,O⟩:=aCL (bJ xs)
 have U:=ahR xs la hl
 have V:=hl.froz
 have r:(lS (bJ xs)).length=14:=rfl
 have h1:(lS (bJ xs)).all froz1=true:=by
  unfold lS aO Uz LQ
  repeat' split
  all_goals rfl
 have D:(lS (bJ xs)).take 14=lS (bJ xs):=by rw[←r];exact List.take_length
 have F:=nE [T.i IntKind.i64 0,T.i IntKind.i64 0,T.i IntKind.i64 0,T.i IntKind.i64 0,T.i IntKind.i64 0,T.i IntKind.i64 0,T.i IntKind.i64 0,T.nilsl,T.nilsl,T.nilsl,T.nilsl,T.nilsl,T.nilsl,T.i IntKind.i64 0] (lS (bJ xs)) (by rw[r];rfl)
 generalize lS (bJ xs)=cs at*
 have I:=fun m lh sh keep=>Cv (m:=m) (lh:=lh) (sh:=sh) (keep:=keep) h1
 rw[au amO (by simp[c25])]
 simp(maxDischargeDepth:=6) only[qA,seval,c25,U,O,V,aGg,aGf,r,D,F,I]
def Ox(lh:aE ah)(sh:List ah)(args:List T):List (Sp×Nat):=(bo (fz false aJ) args).log (St.mk .nil lh sh).get sh.length
theorem UA(r:List (Sp×Nat)):eM r []=true:=by unfold eM;rw[List.all_eq_true];intro x _;rfl
def Q8{E:Env}{call:ku}{n:Nat}{fr:Fr}{lh:aE ah}{sh:List ah}{ds:List (List Nat×aG)}{bu:List FP}{u:List Nat}{d:Option Nat}{f:Nat}{af:ai}{r:List aV}{args:List T}(F:E.fn f=some af)(he:af.eff=false)(I:af.own=none)(ha:r.map (rd fr)=args){q:List T×List Up}(D:Aa lh sh false args=some q){v:T}{s:List ah}(hc:call f q.1 []=some (v,s)){w:List (Sp×Nat)}(hv:(if scalar v=true then []else cW q.2)=w):
  aK E call n ((u,⟨d,.callf f r,none⟩)::ds) bu ⟨fr,lh,sh⟩=if meets u bu ⟨false,Ox lh sh args,w⟩=true then ke E call n ds (bu++ [⟨false,Ox lh sh args,w⟩]) (aj E call n [⟨d,.callf f r,none⟩] ⟨fr,lh,sh⟩)else none:=by
 subst ha hv
 refine nN fun O=> ?_
 unfold bU eN
 have U:bD (St.mk fr lh sh).rho (.callf f r)=some (some (f,r.map (rd fr))):=by rw[dw];rfl
 unfold Aa at D
 unfold Ox
 rw[←mj (fr:=fr)]at D ⊢
 simp only[U,F,he,D]
 have V:Ev.inB (St.mk fr lh sh) q.2=true:=wx (fun t p h=>Nx _ _ t p h) _ _ D
 simp only[V,Bool.not_true,Bool.false_eq_true,if_false,I,hc]
def baT:T:= .sl [.s [65,65,65],.s [66,66,66]] 2 true
def aqD:ae pE 26 [] []=some (baT,[]):=by
 rw[au amP (by simp[c26])]
 unfold baT
 simp(maxDischargeDepth:=6) only[qA,seval,c26,repl]
def ack{q:aE ah}{v:T}{k:Nat}{cs:List T}(h:aW q v k 1 60 cs): ∃g r,v= .isl .L k g 0 60 1∧ab q k=⟨g,.cells cs r false⟩∧ ∀(lh:aE ah) (sh:List ah) (keep:Bool),ab lh k=⟨g,.cells cs r false⟩→fzV lh sh keep (.isl .L k g 0 60 1)=some (bj 60 cs,[(.L,k,⟨g,.cells cs cs.length false⟩)]):=by
 rcases h with⟨h0,_⟩|⟨g,r,rfl,ho,hl,hp⟩
 ·cases h0
 ·refine⟨g,r,rfl,ho,fun lh sh keep hg=> ?_⟩
  have D:aW lh (.isl .L k g 0 60 1) k 1 60 cs:=Or.inr ⟨g,r,rfl,hg,hl,hp⟩
  rw[D.fzV]
  unfold fzU
  simp only[hg]
section
variable(xs:List Int)(la:T)(hl:IsSl la xs.length (ints xs))
include hl
def tA(xs:List Int):Nat→Int:=bJ (atR (bJ xs) 60)
def DO(xs:List Int):Nat→Int:=bJ (atR (fun i=>bJ xs (60+i)) 60)
def oA(xs:List Int):Nat→Int:=bJ (atR (fun i=>bJ xs (120+i)) 60)
def Vd(xs:List Int):T:=bj (qp (tA xs)) ((oM (tA xs)).fl.flatMap uv)
def oTB(xs:List Int):T:=bj (HQ (oA xs) (qp (tA xs))).length (ints ((HQ (oA xs) (qp (tA xs))).map Int.ofNat))
omit hl in
theorem H0(xs:List Int):IsSl (Vd xs) (qp (tA xs)) ((oM (tA xs)).fl.flatMap uv):=dX fun h=>by
 have:=nV (tA xs);omega
omit hl in
theorem xk(xs:List Int):IsSl (oTB xs) (HQ (oA xs) (qp (tA xs))).length (ints ((HQ (oA xs) (qp (tA xs))).map Int.ofNat)):=dX fun h=>by
 rw[List.length_eq_zero_iff.1 h];rfl
def ahY:ae pE 7 [la] []=some (.tup [.agg [En,Eo,Vd xs],.agg (lS (DO xs)),baT,oTB xs],[]):=by
 have hL:=fun fr lh sh=>aI6 xs la hl fr lh sh
 have hz:=hl.froz
 have h6:=fun(f:Nat→Int)=>Q4 f 60
 have I: ∀f:Nat→Int,IsSl (bj 60 (ints (atR f 60))) (atR f 60).length (ints (atR f 60)):=fun f=>by
  rw[Q4];exact dX fun h=>by cases h
 obtain⟨v,e1,hv⟩:=aqd (atR (bJ xs) 60) _ (I _)
 have e2:=aqB _ _ (I fun i=>bJ xs (60+i))
 have F:=H0 xs
 have e3:=aqe _ _ (I fun i=>bJ xs (120+i)) En Eo (Vd xs) _ _ F (by have:=nV (tA xs);omega) ⟨rfl,rfl,F.froz1⟩
 have e4:=aqD
 have O:v=Vd xs:=hv
 subst O
 have e3:ae pE 27 [.agg [En,Eo,Vd xs],bj 60 (ints (atR (fun i=>bJ xs (120+i)) 60))] []=some (oTB xs,[]):=e3
 have e2:ae pE 25 [bj 60 (ints (atR (fun i=>bJ xs (60+i)) 60))] []=some (.agg (lS (DO xs)),[]):=e2
 have z1:froz1 En=true:=rfl
 have z2:froz1 Eo=true:=rfl
 have z3:=F.froz1
 have z4:=(xk xs).froz1
 have z5:froz1 baT=true:=rfl
 have z6:froz (oTB xs)=true:=(xk xs).froz
 have k3:froz (Vd xs)=true:=F.froz
 have r:(lS (DO xs)).length=14:=rfl
 have AV:(lS (DO xs)).all froz1=true:=by
  unfold lS aO Uz LQ
  repeat' split
  all_goals rfl
 have U:lS (DO xs)=(lS (DO xs)).take 14:=(List.take_length (l:=lS (DO xs))).symm
 have V:=nE [T.i IntKind.i64 0,T.i IntKind.i64 0,T.i IntKind.i64 0,T.i IntKind.i64 0,T.i IntKind.i64 0,T.i IntKind.i64 0,T.i IntKind.i64 0,T.nilsl,T.nilsl,T.nilsl,T.nilsl,T.nilsl,T.nilsl,T.i IntKind.i64 0] (lS (DO xs)) (by rw[r];rfl)
 generalize oTB xs=oT at*
 generalize Vd xs=fT at*
 generalize En=zT at*
 generalize Eo=aT at*
 generalize baT=bT at*
 generalize lS (DO xs)=cs at*
 have W:cs.take 14=cs:=U.symm
 have X:=fun m lh sh keep=>Cv (m:=m) (lh:=lh) (sh:=sh) (keep:=keep) AV
 rw[au fn7 (by simp[c7])]
 simp(maxDischargeDepth:=6) only[qA,seval,c7]
 generalize hD:DC pE 44 (.loop Er) _=D
 obtain⟨f2,l2,s2,rfl,⟨rfl,hA,hB,hC,o2,o3⟩,Y⟩:=qK O2 hD (hL _ _ _ yk yk yk yk yk)
 have q2:aa f2 2= .ptr .L 2 1 0:=by rw[Y 2 zz];simp only[qA,seval]
 have q3:aa f2 3= .ptr .L 3 1 0:=by rw[Y 3 zz];simp only[qA,seval]
 have Z:ab l2 2=⟨1,.cells [.nilsl,.nilsl,.nilsl] 0 true⟩:=by rw[o2];simp only[qA,seval]
 have o3':ab l2 3=⟨1,.cells [T.i IntKind.i64 0,T.i IntKind.i64 0,T.i IntKind.i64 0,T.i IntKind.i64 0,T.i IntKind.i64 0,T.i IntKind.i64 0,T.i IntKind.i64 0,T.nilsl,T.nilsl,T.nilsl,T.nilsl,T.nilsl,T.nilsl,T.i IntKind.i64 0] 0 true⟩:=by rw[o3];simp only[qA,seval]
 obtain⟨gA,wA,vA,oA',zA⟩:=ack hA
 obtain⟨gB,wB,vB,oB',zB⟩:=ack hB
 obtain⟨gC,wC,vC,oC',zC⟩:=ack hC
 clear Y hL hA hB hC o2 o3 hD
 generalize bj 60 (ints (atR (bJ xs) 60))=xA at*
 generalize bj 60 (ints (atR (fun i=>bJ xs (60+i)) 60))=xB at*
 generalize bj 60 (ints (atR (fun i=>bJ xs (120+i)) 60))=xC at*
 generalize ints (atR (bJ xs) 60)=cA at*
 generalize ints (atR (fun i=>bJ xs (60+i)) 60)=cB at*
 generalize ints (atR (fun i=>bJ xs (120+i)) 60)=cC at*
 have d39: ∀fr lh ds bu (u:List Nat),aa fr 38= .isl .L 27 gB 0 60 1→ab lh 27=⟨gB,.cells cB wB false⟩→aK pE (ae pE) 44 ((u,⟨some 39,.callf 25 [.t 38],none⟩)::ds) bu ⟨fr,lh,[]⟩=if meets u bu ⟨false,Ox lh [] [.isl .L 27 gB 0 60 1],[(.L,27)]⟩=true then ke pE (ae pE) 44 ds (bu++ [⟨false,Ox lh [] [.isl .L 27 gB 0 60 1],[(.L,27)]⟩]) (aj pE (ae pE) 44 [⟨some 39,.callf 25 [.t 38],none⟩] ⟨fr,lh,[]⟩)else none:=by
  intro fr lh ds bu u g1 g2
  refine Q8 amO rfl rfl (by simp only[qA,seval,g1]) (q:=([xB],[(.L,27,⟨gB,.cells cB cB.length false⟩)])) ?_ e2 rfl
  simp(maxDischargeDepth:=6) only[qA,seval,zB,g2]
 have d43: ∀fr lh ds bu (u:List Nat),aa fr 41= .agg [zT,aT,fT]→aa fr 42= .isl .L 34 gC 0 60 1→ab lh 34=⟨gC,.cells cC wC false⟩→aK pE (ae pE) 44 ((u,⟨some 43,.callf 27 [.t 41,.t 42],none⟩)::ds) bu ⟨fr,lh,[]⟩=if meets u bu ⟨false,Ox lh [] [.agg [zT,aT,fT],.isl .L 34 gC 0 60 1],if scalar oT=true then []else [(.L,34)]⟩=true then ke pE (ae pE) 44 ds (bu++ [⟨false,Ox lh [] [.agg [zT,aT,fT],.isl .L 34 gC 0 60 1],if scalar oT=true then []else [(.L,34)]⟩]) (aj pE (ae pE) 44 [⟨some 43,.callf 27 [.t 41,.t 42],none⟩] ⟨fr,lh,[]⟩)else none:=by
  intro fr lh ds bu u g1 g2 g3
  refine Q8 amQ rfl rfl (by simp only[qA,seval,g1,g2]) (q:=([.agg [zT,aT,fT],xC],[(.L,34,⟨gC,.cells cC cC.length false⟩)])) ?_ e3 rfl
  simp(maxDischargeDepth:=6) only[qA,seval,zC,g3,z1,z2,z3]
 by_cases hs:scalar oT=true
 all_goals simp(maxDischargeDepth:=6) only[qA,bg,CC,wD,seval,aH,q2,q3,Z,o3',vA,vB,vC,oA',oB',oC',zA,zB,zC,e1,e2,e3,e4,d39,d43,aFV,aFW,aFX,aFY,aFZ,z1,z2,z3,z4,z5,r,W,V,X,AV,UA,hs]
end
section
variable(o1 o2:List Lg)(x y:T)(hx:apM o1 x)(hy:apM o2 y)(m1: ∀g∈o1,g.du.length≤6)(m2: ∀g∈o2,g.du.length≤6)(l1:o1.length≤1000000000)(l2:o2.length≤1000000000)
include hx hy m1 m2 l1 l2
end
def FW{lh:aE ah}{sh:List ah}{v:T}{k n q sz bytes d:Nat}{cs ps:List T}(h:aW lh v k sz n cs)(hd:n=0→q≠0→k=d)(r:ps.length=q*sz)(hr:(n+q)*bytes≤roomy)(ex:Bool):
  appW lh sh d sz bytes v (.sl ps q ex)=some (UZ lh sh d sz bytes v (.sl ps q ex),G6 lh sh d sz bytes v (.sl ps q ex))∧aW (G6 lh sh d sz bytes v (.sl ps q ex)) (UZ lh sh d sz bytes v (.sl ps q ex)) k sz (n+q) (cs++ps)∧(∀j,j≠k→ab (G6 lh sh d sz bytes v (.sl ps q ex)) j=ab lh j):=by
 have D: ∃F aN,appW lh sh d sz bytes v (.sl ps q ex)=some (F,aN)∧aW aN F k sz (n+q) (cs++ps)∧ ∀j,j≠k→ab aN j=ab lh j:=by
  unfold appW
  rw[Cj,if_pos r,Option.bind_some]
  cases q with
  |zero=>
   have:ps= []:=List.length_eq_zero_iff.1 (by rw[r,Nat.zero_mul])
   subst this
   refine⟨v,lh, ?_,by simpa using h,fun _ _=>rfl⟩
   rcases h with⟨_,rfl,_⟩|⟨g,wm,rfl,_⟩ <;> rfl
  |succ q=>
   rcases h with⟨rfl,rfl,rfl⟩|⟨g,wm,rfl,h2,h3,h4⟩
   ·have hk:=hd rfl zV
    subst hk
    rw[wu,if_pos (by simpa using hr)]
    refine⟨_,_,rfl,Or.inr ⟨_,_,by rw[Nat.zero_add],oy _ _ _,by simpa using r,by omega⟩,fun j I=>bq _ _ I⟩
   ·rw[Cq,h2,ua,if_pos ⟨rfl,rfl,hr,rfl,h3.symm⟩]
    refine⟨_,_,rfl,Or.inr ⟨_,_,rfl,oy _ _ _,by rw[List.length_append,h3,r,Nat.add_mul n (q+1)],by omega⟩,fun j I=>bq _ _ I⟩
 obtain⟨F,aN,e,h1,h2⟩:=D
 unfold UZ G6
 rw[e]
 exact⟨rfl,h1,h2⟩
section
end
theorem LS: ∀l:List Fl,aD U4 l (l.flatMap uv)
 | []=>rfl
 |u::l=>⟨_,_,rfl,rfl,LS l⟩
def al2(xs:List Int):jV (oM (tA xs)) En Eo (Vd xs):=by
 refine⟨⟨_,.inr ⟨_,rfl⟩, ?_⟩,⟨_,.inr ⟨_,rfl⟩, ?_⟩,⟨_, ?_,LS _⟩⟩
 ·exact⟨[_,_,_],_,rfl,⟨.nilsl,[],rfl,.inl ⟨rfl,rfl,rfl⟩,rfl⟩,[_,_,_],_,rfl,⟨_,_,rfl,.inr ⟨_,rfl⟩,[_,_],[_,_],rfl,rfl,[_,_],[],rfl,rfl,rfl⟩,[_,_,_],_,rfl,⟨_,_,rfl,.inr ⟨_,rfl⟩,[_,_],[],rfl,rfl,rfl⟩,rfl⟩
 ·exact⟨[_,_],_,rfl,rfl,[_,_],_,rfl,rfl,[_,_],_,rfl,rfl,rfl⟩
 ·rw[qb];exact H0 xs
def aCM(xs:List Int):TtA (oM (tA xs)):=by
 have F:=nV (tA xs)
 have hl:=qb (tA xs)
 refine⟨⟨?_, ?_⟩, ?_,by rw[hl];unfold gJ;omega, ?_⟩
 ·show∀u∈abQ,u.sh.length≤gJ
  unfold abQ gJ
  simp
 ·show abQ.length≤gJ
  unfold abQ gJ
  simp
 ·show Us.length≤gJ
  unfold Us gJ
  simp
 ·have D: ∀(a:Nat→Int) (m i x:Nat) (r:Int),∀f∈jz a m i x r,f.nu.length=2:=by
   intro a m
   induction m with
   |zero=>intro i x r f hf;simp[jz]at hf
   |succ m ih=>
    intro i x r f hf
    rw[jz]at hf
    rcases List.mem_cons.1 hf with rfl|hf
    ·rfl
    ·exact ih _ _ _ f hf
  intro f hf
  rw[D _ _ _ _ _ f hf]
  unfold gJ
  omega
section
variable(d e:List (Int×Bool))(a b:T)(ha:IsSl a d.length (iv d))(hb:IsSl b e.length (iv e))(hd:d.length≤1000)(he:e.length≤1000)
include ha hb hd
include he
end
def hds(d:List (Int×Bool)):Nat:=(d.filter Prod.snd).length
theorem Dn(k:Int×Bool)(d:List (Int×Bool)):hds (k::d)=(if k.2=true then 1 else 0)+hds d:=by
 unfold hds
 rw[List.filter_cons]
 split <;> simp <;> omega
def aJh(l:List Lg):Prop:=l.Pairwise fun a b=>LD a.du b.du<0
section
variable(N:Nat)(J:Nat→Nat→Bool)(cp:Nat→Bool)(ok:List (Int×Bool)→Bool)(lg:List (Int×Bool)→Lg)(A5: ∀x,(lg x).du=x)
def TkF:Nat→List (Int×Bool)→Prop
 |_,[]=>False
 |f,[k]=>f<N∧k.1=(f:Int)∧(k.2=false→cp f=true)
 |f,k::l::r=>f<N∧k.1=(f:Int)∧(k.2=false→cp f=true)∧ ∃g,J f g=true∧TkF g (l::r)
include A5
theorem H2: ∀(n:Nat) (d:List (Int×Bool)) (f h:Nat),f<N→ ∀g,g∈eI N J cp ok lg n d f h↔ ∃y,TkF N J cp f y∧y.length≤n∧hds y≤h∧ok (d++y)=true∧g=lg (d++y)
 |0,d,f,h,V,g=>by
  have _:=A5
  rw[eI]
  constructor
  ·intro h;cases h
  ·rintro⟨y,h1,h2,_⟩
   cases y with
   |nil=>exact h1.elim
   |cons k r=>simp at h2
 |n+1,d,f,h,V,g=>by
  have one: ∀(b:Bool) (h:Nat),(b=false→cp f=true)→(g∈tc N J ok lg (eI N J cp ok lg n) (d++ [((f:Int),b)]) f h↔ ∃y,TkF N J cp f (((f:Int),b)::y)∧y.length≤n∧hds y≤h∧ok (d++(((f:Int),b)::y))=true∧g=lg (d++(((f:Int),b)::y))):=by
   intro b h hb
   unfold tc
   rw[List.mem_append,List.mem_flatMap]
   constructor
   ·rintro(h1|⟨x,h1,h2⟩)
    ·split at h1
     ·rename_i h3
      rw[List.mem_singleton]at h1
      exact⟨[],⟨V,rfl,hb⟩,Nat.zero_le _,Nat.zero_le _,h3,h1⟩
     ·cases h1
    ·obtain⟨h3,h4⟩:=List.mem_filter.1 h1
     obtain⟨y,D,U,O,F,I⟩:=(H2 n _ x h (List.mem_range.1 h3) g).1 h2
     rw[List.append_assoc,List.singleton_append]at F I
     refine⟨y, ?_,U,O,F,I⟩
     cases y with
     |nil=>exact D.elim
     |cons l r=>exact⟨V,rfl,hb,x,h4,D⟩
   ·rintro⟨y,D,U,O,F,I⟩
    cases y with
    |nil=>
     refine Or.inl ?_
     rw[if_pos F]
     exact List.mem_singleton.2 I
    |cons l r=>
     obtain⟨_,_,_,x,h4,D⟩:=D
     have hx:x<N:=by
      cases r with
      |nil=>exact D.1
      |cons _ _=>exact D.1
     refine Or.inr ⟨x,List.mem_filter.2 ⟨List.mem_range.2 hx,h4⟩,(H2 n _ x h hx g).2 ⟨l::r,D,U,O, ?_, ?_⟩⟩
     ·rw[List.append_assoc,List.singleton_append];exact F
     ·rw[List.append_assoc,List.singleton_append];exact I
  have hd: ∀y,TkF N J cp f y→ ∃b W,y=((f:Int),b)::W∧(b=false→cp f=true):=by
   intro y hy
   match y,hy with
   | [(a,b)],⟨_,h1,h2⟩=>exact⟨b,[],by rw[←h1],h2⟩
   |(a,b)::l::r,⟨_,h1,h2,_⟩=>exact⟨b,l::r,by rw[←h1],h2⟩
  rw[eI,List.mem_append]
  constructor
  ·rintro(h1|h1)
   ·split at h1
    ·rename_i h2
     obtain⟨y,D,U,O,F,I⟩:=(one false h fun _=>h2).1 h1
     exact⟨_,D,by rw[List.length_cons];omega,by rw[Dn];simpa using O,F,I⟩
    ·cases h1
   ·split at h1
    ·cases h1
    ·rename_i h2
     obtain⟨y,D,U,O,F,I⟩:=(one true (h-1) yv).1 h1
     exact⟨_,D,by rw[List.length_cons];omega,by rw[Dn];simp;omega,F,I⟩
  ·rintro⟨y,D,U,O,F,I⟩
   obtain⟨b,y,rfl,hb⟩:=hd y D
   rw[List.length_cons]at U
   rw[Dn]at O
   cases b
   ·refine Or.inl ?_
    rw[if_pos (hb rfl)]
    exact(one false h hb).2 ⟨y,D,by omega,by simpa using O,F,I⟩
   ·refine Or.inr ?_
    simp at O
    rw[if_neg zV]
    exact(one true (h-1) hb).2 ⟨y,D,by omega,by omega,F,I⟩
theorem aqE(H:Nat)(g:Lg):g∈kP N J cp ok lg H↔ ∃f y,f<N∧TkF N J cp f y∧y.length≤6∧hds y≤H∧ok y=true∧g=lg y:=by
 unfold kP
 rw[List.mem_flatMap]
 constructor
 ·rintro⟨f,h1,h2⟩
  obtain⟨y,r,D,F,I,O⟩:=(H2 N J cp ok lg A5 6 [] f H (List.mem_range.1 h1) g).1 h2
  exact⟨f,y,List.mem_range.1 h1,r,D,F,I,O⟩
 ·rintro⟨f,y,U,r,D,F,I,O⟩
  exact⟨f,List.mem_range.2 U,(H2 N J cp ok lg A5 6 [] f H U g).2 ⟨y,r,D,F,I,O⟩⟩
end
theorem Q9{N:Nat}{J:Nat→Nat→Bool}{cp:Nat→Bool}: ∀{f:Nat} {y:List (Int×Bool)},TkF N J cp f y→1≤y.length∧(∀k∈y,lQ N k.1=true)∧ ∀k∈y,k.2=false→cp k.1.toNat=true
 |_,[],h=>h.elim
 |f,[k],⟨h1,h2,h3⟩=>by
  refine⟨by simp, ?_, ?_⟩
  ·intro q hq
   rw[List.mem_singleton.1 hq,h2]
   unfold lQ;rw[decide_eq_true_eq];omega
  ·intro q hq hb
   rw[List.mem_singleton.1 hq]at hb ⊢
   rw[h2];exact h3 hb
 |f,k::l::r,⟨h1,h2,h3,g,h4,h5⟩=>by
  obtain⟨I,D,F⟩:=Q9 h5
  refine⟨by simp, ?_, ?_⟩
  ·intro q hq
   rcases List.mem_cons.1 hq with rfl|hq
   ·rw[h2];unfold lQ;rw[decide_eq_true_eq];omega
   ·exact D q hq
  ·intro q hq hb
   rcases List.mem_cons.1 hq with rfl|hq
   ·rw[h2];exact h3 hb
   ·exact F q hq hb
def acm{N:Nat}{J:Nat→Nat→Bool}{cp:Nat→Bool}{f:Nat}{l:Int×Bool}{r:List (Int×Bool)}(h:TkF N J cp f (l::r)):l.1=(f:Int)∧f<N:=by
 cases r with
 |nil=>exact⟨h.2.1,h.1⟩
 |cons _ _=>exact⟨h.2.1,h.1⟩
theorem acn(c:Ct)(fl:List Fl){cp:Nat→Bool}: ∀{f:Nat} {y:List (Int×Bool)},TkF fl.length (jn c fl) cp f y→kg c fl y=true
 |_,[],h=>h.elim
 |f,[k],h=>rfl
 |f,k::l::r,⟨h1,h2,h3,g,h4,h5⟩=>by
  obtain⟨e1,e2⟩:=acm h5
  rw[kg,acn c fl h5,Bool.and_true,h2,e1,oJ c fl h1 e2,←QM h1 e2]
  exact h4
theorem aco(c:Ct)(fl:List Fl){cp:Nat→Bool}: ∀(y:List (Int×Bool)),1≤y.length→(∀k∈y,lQ fl.length k.1=true)→(∀k∈y,k.2=false→cp k.1.toNat=true)→kg c fl y=true→ ∃f,f<fl.length∧TkF fl.length (jn c fl) cp f y
 | [],h,_,_,_=>by simp at h
 | [k],_,h1,h2,_=>by
   obtain⟨f,D,F⟩:=nR (h1 k yv)
   refine⟨f,D,D,F,fun hb=> ?_⟩
   have:=h2 k yv hb
   rw[F]at this
   exact this
 |k::l::r,_,h1,h2,h3=>by
  rw[kg,Bool.and_eq_true]at h3
  obtain⟨f,D,F⟩:=nR (h1 k yv)
  obtain⟨g,U,O⟩:=aco c fl (l::r) yv (fun q I=>h1 q (List.mem_cons_of_mem _ I)) (fun q I=>h2 q (List.mem_cons_of_mem _ I)) h3.2
  obtain⟨e1,e2⟩:=acm O
  refine⟨f,D,D,F,fun hb=> ?_,g, ?_,O⟩
  ·have:=h2 k yv hb
   rw[F]at this
   exact this
  ·have:=h3.1
   rw[F,e1,oJ c fl D e2]at this
   rw[QM D e2]
   exact this
section
variable(ops:List Int)(oT:T)(ho:IsSl oT ops.length (ints ops))(hlo:ops.length≤1000)(d:List (Int×Bool))(dv:T)(hd:IsSl dv d.length (iv d))(hld:d.length≤1000)(rest:List T)(G:Nat)
include ho hlo hd hld
end
section
variable(t:Tt)(c:Ct)(zT aT fT a7 a8 a9 aw aA az:T)(hT:jV t zT aT fT)(hC:kR c a7 a8 a9 aw aA az)(hA:CY c)(hk:ee t c=0)(ops:List Int)(oT:T)(ho:IsSl oT ops.length (ints ops))(hlo:ops.length≤1000)(H:Nat)(out:List Lg)(v:T)(hv:apM out v)(gG:out.length≤1000000000)
 (hg: ∀g∈out,cL c t.fl g.du=0∧jy t c g.du=true∧g=cF t c g.du∧hds g.du≤H∧ ∀k∈g.du,k.2=false→k.1∈ops) (apB:aJh out)
include hT hC hA hk ho hlo hv gG hg apB
end
def ah0{c:Ct}{fl:List Fl}{d:List (Int×Bool)}(h1:1≤d.length)(h2:d.length≤6)(h3: ∀k∈d,lQ fl.length k.1=true)(h4:kg c fl d=true):cL c fl d=0:=by
 unfold cL
 rw[if_neg zV,if_neg zV,if_pos (List.all_eq_true.2 h3),if_pos h4]
def ah1(t:Tt)(c:Ct)(ops:List Int)(H:Nat)(g:Lg):g∈kP t.fl.length (jn c t.fl) (jc ops) (jy t c) (cF t c) H↔ ∃d,g=cF t c d∧cL c t.fl d=0∧jy t c d=true∧hds d≤H∧ ∀k∈d,k.2=false→k.1∈ops:=by
 rw[aqE _ _ _ _ _ (Qx t c)]
 constructor
 ·rintro⟨f,y,X,r,I,U,V,rfl⟩
  obtain⟨O,D,F⟩:=Q9 r
  refine⟨y,rfl,ah0 O I D (acn c t.fl r),V,U,fun k hk hb=> ?_⟩
  have h:=F k hk hb
  obtain⟨n,_,e⟩:=nR (D k hk)
  unfold jc at h
  rw[decide_eq_true_eq,e]at h
  rw[e]
  exact h
 ·rintro⟨d,rfl,h1,h2,h3,h4⟩
  obtain⟨O,D,F,W⟩:=dM h1
  obtain⟨f,r,I⟩:=aco (cp:=jc ops) c t.fl d O F (fun k hk hb=>by
   have h:=h4 k hk hb
   obtain⟨n,_,e⟩:=nR (F k hk)
   unfold jc
   rw[decide_eq_true_eq,e]
   rw[e]at h
   exact h) W
  exact⟨f,d,r,I,D,h3,h2,rfl⟩
def aCN(xs:List Int)(k:Nat→Nat)(hk: ∀i,k i≤2)(r:List Ru)(D:List Co)(cr:List Ex)(h1:r.Sublist iX)(h2:D.Sublist ic)(h3: ∀x∈cr,x∈wJ)(h4:cr.length≤1):ee (oM (tA xs)) (iY k r D cr)=0:=by
 have hc:=HO k hk r D cr h1 h2 h3 h4
 unfold ee
 rw[abU]
 simpa using hc
def Oy: ∃s,ae pE 9 [] []=some (.b true,s):=⟨[],cK (m:=100) (cI (by kernel_rfl))⟩
section
variable(t:Tt)(c:Ct)(zT aT fT a7 a8 a9 aw aA az:T)(hT:jV t zT aT fT)(hC:kR c a7 a8 a9 aw aA az)(hA:CY c)(hk:ee t c=0)(out:List Lg)(v:T)(hv:Em out v)(A5: ∀g∈out,cL c t.fl g.du=0)(h0:out≠ [])(gG:out.length≤1000000000)(A0:Int)
include hT hC hA hk hv A5 h0 gG
end
theorem ah2(k:Nat→Nat)(I D:List Ru)(F:List Co)(cr:List Ex)(fl:List Fl)(d:List (Int×Bool)):cL (iY k I F cr) fl d=cL (iY k D F cr) fl d:=by
 have h: ∀d,kg (iY k I F cr) fl d=kg (iY k D F cr) fl d:=by
  intro d
  induction d with
  |nil=>rfl
  |cons x r ih=>
   cases r with
   |nil=>rfl
   |cons y r=>rw[kg,kg,ih];rfl
 unfold cL
 rw[h]
def aJi(xs:List Int)(k:Nat→Nat)(hk: ∀i,k i≤2)(r:List Ru)(D:List Co)(cr:List Ex)(h1:r.Sublist iX)(h2:D.Sublist ic)(h3: ∀x∈cr,x∈wJ)(h4:cr.length≤1)(a7 a8 a9 aw aA az:T)(hC:kR (iY k r D cr) a7 a8 a9 aw aA az):
  ∃v s,ae pE 8 [.agg [En,Eo,Vd xs],.agg (aO (iY k r D cr) a7 a8 a9 aw aA az),oTB xs,qi 2] []=some (.tup [v,qi 0],s)∧Em (kP (qp (tA xs)) (jn (iY k r D cr) (oM (tA xs)).fl) (jc (Uv (oA xs) (qp (tA xs)))) (jy (oM (tA xs)) (iY k r D cr)) (cF (oM (tA xs)) (iY k r D cr)) 2) v:=by
 have I:=nV (tA xs)
 have hl:=qb (tA xs)
 have hA:=acj k hk r D cr h1 h2 h3
 have ho:IsSl (oTB xs) (Uv (oA xs) (qp (tA xs))).length (ints (Uv (oA xs) (qp (tA xs)))):=by
  have:=xk xs
  unfold Uv
  rw[List.length_map]
  exact this
 obtain⟨v,s,e,hv⟩:=abP (oM (tA xs)) (iY k r D cr) En Eo (Vd xs) a7 a8 a9 aw aA az (al2 xs) hC hA (aCM xs).f.2 zV _ _ ho (by have:=ahK (oA xs) (qp (tA xs));omega) ((2:Nat):Int)
 have hc:=HO k hk r D cr h1 h2 h3 h4
 have F:=ap9 k hk r D cr
 have hb:=ap8 (tA xs) (oA xs) (iY k r D cr) F 2 zV
 unfold apR at hb
 rw[if_pos (ahL (tA xs) (oA xs) _ hc 2 zV),Int.toNat_natCast,if_neg hb]at e
 rw[Int.toNat_natCast,hl]at hv
 exact⟨v,s,e,hv⟩
def agr(q:Int)(a b:Bool):Bool:=if q=0 then true else if q=1 then a else if q=2 then b else a&&b
def Ra(q:Int)(a b:Bool):ae pE 48 [qi q,.b a,.b b] []=some (.b (agr q a b),[]):=by
 rw[au amX (by simp[c48])]
 unfold agr
 by_cases h0:q=0
 ·simp(maxDischargeDepth:=6) only[qA,seval,c48,h0]
 ·by_cases h1:q=1
  ·simp(maxDischargeDepth:=6) only[qA,seval,c48,h1]
  ·by_cases h2:q=2
   ·simp(maxDischargeDepth:=6) only[qA,seval,c48,h2]
   ·cases a <;> simp(maxDischargeDepth:=6) only[qA,seval,c48,h0,h1,h2]
def aCO(A B:List (List Nat))(hA:A.length≤1000)(hB:B.length≤1000)(r:Bool)(hr:r=B.all fun s=>decide (s∈A))(fr:Fr)(lh:aE ah)(sh:List ah)(h0:aa fr 0=yK A)(X:aa fr 7=yK B)(W:aa fr 8= qi (B.length:Int))(Y:aa fr 9= qi 0):
  LpC pE 18 Bi fr lh sh 0 4 (r=true) (.b false) (fun F I=>F=lh∧I=sh):=by
 refine mn Vo (by simp[aU]) (fun k f F I=>aa f 9= qi (k:Int)∧F=lh∧I=sh∧r=(B.drop k).all fun s=>decide (s∈A)) B.length ⟨Y,rfl,rfl,hr⟩ ?_ ?_
 ·rintro k f _ _ hk D ⟨O,rfl,rfl,hr⟩
  have U:(k:Int)<B.length:=zV
  have Z:=aF (k:=k) zV
  obtain⟨rr,V⟩:=aaJ (dg B) k hk
  have hc:=cJ (wU B[k] A (yK A) (dg A) hA)
  have hz:=(dg A).froz
  rw[NN hk]at hr
  by_cases hm:B[k]∈A
  all_goals simp only[qB,seval,gd,Bi,D,h0,X,W,O,U,Z,V,hc,aGp,hz,hm]
  all_goals clear D hc
  all_goals grind
 ·rintro f _ _ D ⟨O,rfl,rfl,hr⟩
  rw[List.drop_length,List.all_nil]at hr
  simp only[qB,seval,gd,Bi,D,W,O,Int.lt_irrefl,hr]
def Rb(A B:List (List Nat))(hA:A.length≤1000)(D:B.length≤1000):ae pE 49 [yK A,yK B] []=some (.b (B.all fun s=>decide (s∈A)),[]):=by
 have r:=aCO A B hA D _ rfl
 have hl:=(dg B).lenI
 rw[au amY (by simp[c49])]
 cases hb:B.all fun s=>decide (s∈A) <;> rw[hb]at r <;> simp only[qA,seval,c49,r,hl]
end Go.Proofs.YtnkgnjecmfkcfaaGreat
