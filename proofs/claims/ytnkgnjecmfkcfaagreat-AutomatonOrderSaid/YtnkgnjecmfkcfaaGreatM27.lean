/- Walks of functions of the program and of the reference, and their plain laws, part 27. Conditions: the theorems' own. -/
import Derived.Test.YtnkgnjecmfkcfaaGreatGS
import Derived.Test.YtnkgnjecmfkcfaaGreatM1
import Derived.Test.YtnkgnjecmfkcfaaGreatM9
import Derived.Test.YtnkgnjecmfkcfaaGreatM10
import Derived.Test.YtnkgnjecmfkcfaaGreatM11
import Derived.Test.YtnkgnjecmfkcfaaGreatM12
import Derived.Test.YtnkgnjecmfkcfaaGreatM13
import Derived.Test.YtnkgnjecmfkcfaaGreatM14
import Derived.Test.YtnkgnjecmfkcfaaGreatM15
import Derived.Test.YtnkgnjecmfkcfaaGreatM16
import Derived.Test.YtnkgnjecmfkcfaaGreatM17
import Derived.Test.YtnkgnjecmfkcfaaGreatM18
import Derived.Test.YtnkgnjecmfkcfaaGreatM19
import Derived.Test.YtnkgnjecmfkcfaaGreatM20
import Derived.Test.YtnkgnjecmfkcfaaGreatM21
import Derived.Test.YtnkgnjecmfkcfaaGreatM22
import Derived.Test.YtnkgnjecmfkcfaaGreatM23
import Derived.Test.YtnkgnjecmfkcfaaGreatM24
import Derived.Test.YtnkgnjecmfkcfaaGreatM25
import Derived.Test.YtnkgnjecmfkcfaaGreatM26
import Derived.KernelRfl
set_option maxRecDepth 100000
set_option linter.unusedSimpArgs false
set_option linter.unusedVariables false
set_option maxRecDepth 1000000
set_option maxHeartbeats 16000000
namespace Go.Proofs.YtnkgnjecmfkcfaaGreat
open Go Go.Ev
def Tk(v:T)(n i:Nat)(K:Int)(s:List Nat)(N:Int):Prop:=i<n∧n≤1000∧froz v=true∧lenI v=some (.i .i64 (n:Int))∧ ∃r,∀kk,iaV v (.i kk (i:Int)) 4=some (.vp (.i .i64 K:: .s s:: .i .i64 N::r))
theorem Tk.of(cs:List T)(n i:Nat)(K:Int)(s:List Nat)(N:Int)(r:List T)(hi:i<n)(D:n≤1000)(hl:cs.length=n*4)(h:cs.drop (i*4)= .i .i64 K:: .s s:: .i .i64 N::r):Tk (.sl cs n false) n i K s N:=by
 refine⟨hi,D,rfl,rfl,r,fun kk=> ?_⟩
 rw[cT,if_pos ⟨by omega,by simpa using hi,by rw[hl];simp only[Int.toNat_natCast];omega⟩,Int.toNat_natCast,h]
section
variable{v:T}{n i:Nat}{K:Int}{s:List Nat}{N:Int}(h:Tk v n i K s N)
include h
theorem yO(k:Int):ae pE 192 [v,.i .i64 (i:Int),.i .i64 k] []=some (.b (decide (K=k)),[]):=by
 obtain⟨h1,h2,h3,h4,r,h5⟩:=h
 have hi:(i:Int)<n:=zZ
 rw[av afV (by simp[SV])]
 by_cases e:K=k
 all_goals simp(maxDischargeDepth:=6) only[qA,seval,SV,h3,h4,hi,h5,e]
theorem DK(w:List Nat):ae pE 195 [v,.i .i64 (i:Int),.s w] []=some (.b (decide (K=1∧s=w)),[]):=by
 obtain⟨h1,h2,h3,h4,r,h5⟩:=h
 have hi:(i:Int)<n:=zZ
 rw[av afY (by simp[Pf])]
 by_cases e:K=1
 ·by_cases e2:s=w
  all_goals simp(maxDischargeDepth:=6) only[qA,seval,Pf,h3,h4,hi,h5,e,e2]
 ·simp(maxDischargeDepth:=6) only[qA,seval,Pf,h3,h4,hi,h5,e]
theorem amc:ae pE 194 [v,.i .i64 (i:Int)] []=some (.b (decide (K=1)&&iL s),[]):=by
 have hk:=yO h 1
 obtain⟨h1,h2,h3,h4,r,h5⟩:=h
 have hi:(i:Int)<n:=zZ
 have D:=nv s
 rw[av afW (by simp[SW])]
 by_cases e:K=1
 all_goals simp(maxDischargeDepth:=6) only[qA,seval,SW,h3,h4,hi,h5,hk,D,e,MG,Hv]
end
def FR(s:List Nat):Int:=if s= [100,117,116,121]then 1 else if s= [114,101,115,116]then 2 else if s= [112,97,105,114,105,110,103]then 3 else 0
theorem L2(s:List Nat):ae pE 197 [.s s] []=some (.i .i64 (FR s),[]):=by
 rw[av Ub (by simp[Ho])]
 unfold FR
 by_cases e1:s= [100,117,116,121]
 ·simp(maxDischargeDepth:=6) only[qA,seval,Ho,e1]
 ·by_cases e2:s= [114,101,115,116]
  ·simp(maxDischargeDepth:=6) only[qA,seval,Ho,e1,e2]
   rfl
  ·by_cases e3:s= [112,97,105,114,105,110,103]
   ·simp(maxDischargeDepth:=6) only[qA,seval,Ho,e1,e2,e3]
    rfl
   ·simp(maxDischargeDepth:=6) only[qA,seval,Ho,e1,e2,e3]
def L3:List (List Nat):= [[114,101,112,111,114,116],[114,101,108,101,97,115,101],[99,111,110,110,101,99,116],[115,105,116],[108,97,121,111,118,101,114],[103,117,97,114,97,110,116,101,101],[110,105,103,104,116]]
theorem amd{v:T}{n:Nat}{K:Int}{s:List Nat}{N:Int}(h:Tk v n 0 K s N)(hs:s∉L3)(fr:Fr)(lh:aE ah)(sh:List ah)(h2:aa fr 2=v)(U:aa fr 7= .sl (strs L3) 7 true)(V:aa fr 8= .i .i64 0):
  Lp pE 335 lU fr lh sh (.ext 0) fun f l s=>s=sh∧l=lh:=by
 have Gr:L3.length=7:=rfl
 have hv:IsSl (T.sl (strs L3) 7 true) L3.length (strs L3):= .inr ⟨_,rfl⟩
 obtain⟨_,_,h3,h4,r,h5⟩:=h
 have h5: ∀kk,iaV v (.i kk 0) 4=some (.vp (.i .i64 K:: .s s:: .i .i64 N::r)):=h5
 generalize T.sl (strs L3) 7 true=fT at*
 refine cm qx (fun k f l s=>aa f 8= .i .i64 (k:Int)∧s=sh∧l=lh) 7 ⟨V,rfl,rfl⟩ ?_ ?_
 ·rintro k f _ _ hk F ⟨D,rfl,rfl⟩
  have I:(k:Int)<7:=zZ
  have W:=aG (k:=k) zZ
  obtain⟨q,O⟩:=vi hv k zZ
  have R: ¬s=L3[k]:=fun e=>hs (e▸List.getElem_mem _)
  generalize L3[k]=w at*
  simp(maxDischargeDepth:=6) only[qA,bj,AJ,aH,seval,gd,lU,F,h2,U,D,I,W,h5,O,R]
 ·rintro f _ _ F ⟨D,rfl,rfl⟩
  have D:aa f 8= .i .i64 7:=D
  simp only[qA,seval,gd,lU,F,D,Int.lt_irrefl]
section
variable{E:Env}{call:jB}{n:Nat}{fr:Fr}{lh:aE ah}{sh:List ah}{ds:List (List Nat×aF)}{bo:List FP}{u:List Nat}
theorem aem{x v:aP}{m k g off kk F I len sz:Nat}(hx:rd fr x= .ptr .S k g off)(hv:rd fr v= .isl .S kk F I len sz)(KE:oN (aI sh k)=true):aK E call n ((u,⟨none,.st x v m,none⟩)::ds) bo ⟨fr,lh,sh⟩=
  if meets u bo (Ca (rd fr x))=true then ke E call n ds (bo++ [Ca (rd fr x)]) (ai E call n [⟨none,.st x v m,none⟩] ⟨fr,lh,sh⟩)else none:=by
 refine mJ fun D=> ?_
 by_cases hb:(decide ((cellsOf (rd fr v)).length≠m)|| !noTup (rd fr v))=true
 ·obtain⟨w,O,hr,r⟩:=pD (q:= .fail) (by rfl) (by rw[dh];simp only[bt,mY,hx];rw[if_pos hb]) D
  simp[Q.run]at hr
 ·obtain⟨w,O,hr,r⟩:=pD (q:= .rd .S k (Ij k g off m (rd fr v))) (by rfl) (by rw[dh];simp only[bt,mY,hx];rw[if_neg hb];rfl) D
  simp only[Q.run,Q.log,Q.asks]at hr r
  have ZV:(St.mk fr lh sh).get .S k=aI sh k:=rfl
  generalize he:(St.mk fr lh sh).get .S k=e at hr r
  rw[←ZV,he]at KE
  obtain⟨R,ob⟩:=e
  unfold Ij at hr r
  by_cases hg:R=g
  ·cases ob with
   |none=>simp[hg,Q.run]at hr
   |map ks V z=>simp[hg,Q.run]at hr
   |cells cs W bx=>
    have KE:bx=true:=KE
    subst KE
    simp only[hg,if_true]at hr r
    split at hr
    ·rename_i hc
     rw[if_pos hc]at r
     have hs:(true&&(Sp.S==Sp.L))=false:=rfl
     have Gq:(true&&(Sp.S==Sp.S))=true:=rfl
     have U:Ev.fz true aJ (.isl .S kk F I len sz)= .ret (.isl .S kk F I len sz,[]):=rfl
     rw[hs,Gq,hv,U]at hr r
     simp only[Bool.false_eq_true,if_false]at hr r
     simp only[Q.bind]at hr r
     split at hr
     ·simp[Q.run]at hr
     ·rename_i hd
      rw[if_neg hd]at r
      simp[Q.run]at hr
      obtain⟨rfl,rfl⟩:=hr
      rw[r (by simp[Ev.inB,xq,he]),hx]
      rfl
    ·simp[Q.run]at hr
  ·simp only[hg,if_false,Q.run]at hr
   cases hr
def YE(sh:List ah):T→Bool
 | .ptr .S k _ _=>oN (aI sh k)
 |_=>false
theorem fb{sh:List ah}{k g off:Nat}:YE sh (.ptr .S k g off)=oN (aI sh k):=nr rfl
def YF:T→Bool
 | .isl .S .. =>true
 |_=>false
theorem fe{k g off len sz:Nat}:YF (.isl .S k g off len sz)=true:=nr rfl
theorem pb{x v:aP}{m:Nat}(hx:YE sh (rd fr x)=true)(hv:YF (rd fr v)=true):aK E call n ((u,⟨none,.st x v m,none⟩)::ds) bo ⟨fr,lh,sh⟩=
  if meets u bo (Ca (rd fr x))=true then ke E call n ds (bo++ [Ca (rd fr x)]) (ai E call n [⟨none,.st x v m,none⟩] ⟨fr,lh,sh⟩)else none:=by
 cases h1:rd fr x with
 |ptr sp k g off=>
  cases sp with
  |L=>rw[h1]at hx;cases hx
  |S=>
   cases h2:rd fr v with
   |isl sp kk r D len sz=>
    cases sp with
    |L=>rw[h2]at hv;cases hv
    |S=>
     rw[h1]at hx
     have:=aem (E:=E) (call:=call) (n:=n) (lh:=lh) (ds:=ds) (bo:=bo) (u:=u) (m:=m) h1 h2 hx
     rw[this,h1]
   |_=>rw[h2]at hv;cases hv
 |_=>rw[h1]at hx;cases hx
end
def Z4(hd:List T)(iz:T)(sn:List T)(n:Nat)(cs:List T):List ah:=
 ⟨1,.cells (hd++ [iz,if n=0 then .nilsl else .isl .S 2 n 0 n 6,.nilsl,.nilsl,.nilsl,.nilsl,.i .i64 0]) 0 true⟩::⟨1,.cells sn 0 true⟩::if n=0 then []else [⟨n,.cells cs 0 false⟩]
theorem aDu(x0 x1 x2 x3 x4 x5 x6 iz:T)(sn:List T)(n:Nat)(hn:n≤100)(cs:List T)(O:cs.length=n*6)(v:T)(N:Nat)(r F:List Nat)(N0 N1 N2 N3:Int)(h0:Tk v N 0 1 r N0)(h1:Tk v N 1 1 [114,117,108,101] N1)(h2:Tk v N 2 1 F N2)(h3:Tk v N 3 1 [105,115] N3)(Y:r= [100,117,116,121]∨r= [114,101,115,116]∨r= [112,97,105,114,105,110,103])(Bp:iL F=true)
  (Z:T) (U:kH v=some N) (C2:sI 4 v 4 N=some Z) (Ee:froz Z=true) (a b c d:T) (ha:froz1 a=true∧froz1 b=true∧froz1 c=true∧froz1 d=true) (s:List ah) (he:ae pE 196 [Z] []=some (.tup [.agg [a,b,c,d],.i .i64 (-1)],s)):
  ae pE 117 [.ptr .S 0 1 0,.ptr .S 1 1 0,v] (Z4 [x0,x1,x2,x3,x4,x5,x6] iz sn n cs)=some (.i .i64 0,Z4 [x0,x1,x2,x3,x4,x5,x6] iz sn (n+1) (cs++ [.i .i64 (FR r),.s F,a,b,c,d])):=by
 have hs:r∉L3:=by rcases Y with rfl|rfl|rfl <;> decide
 have hL:=fun fr lh sh=>amd h0 hs fr lh sh
 have BI:=yO h0 1
 have GC:=DK h1
 have R:=DK h3
 have B5:=amc h2
 have V:=L2 r
 have W:FR r≠0:=by rcases Y with rfl|rfl|rfl <;> decide
 have jR: ¬r= [99,111,110,115,116]:=by rcases Y with rfl|rfl|rfl <;> decide
 obtain⟨_,_,z1,z2,r0,JB⟩:=h0
 obtain⟨_,_,_,_,r2,I⟩:=h2
 have JB: ∀kk,iaV v (.i kk 0) 4=some (.vp (.i .i64 1:: .s r:: .i .i64 N0::r0)):=JB
 have I: ∀kk,iaV v (.i kk 2) 4=some (.vp (.i .i64 1:: .s F:: .i .i64 N2::r2)):=I
 generalize FR r=S at*
 have hfd:T.sl (strs L3) 7 true= .sl [.s [114,101,112,111,114,116],.s [114,101,108,101,97,115,101],.s [99,111,110,110,101,99,116],.s [115,105,116],.s [108,97,121,111,118,101,114],.s [103,117,97,114,97,110,116,101,101],.s [110,105,103,104,116]] 7 true:=rfl
 rw[av My (by simp[D2])]
 unfold Z4
 have YG:ae pE 192 [v,.i .i64 0,.i .i64 1] []=some (.b (decide ((1:Int)=1)),[]):=BI
 simp(maxDischargeDepth:=6) only[qA,seval,D2,repl,YG,z1,MG]
 generalize hD:DC pE 335 (.loop lU) _=D
 obtain⟨f2,l2,s2,rfl,⟨rfl,rfl⟩,X⟩:=sa qx hD (hL _ _ _ yW (by rw[hfd];simp only[qA,seval]) yW)
 have p0:aa f2 0= .ptr .S 0 1 0:=by rw[X 0 zz];simp only[qA,seval]
 have p1:aa f2 1= .ptr .S 1 1 0:=by rw[X 1 zz];simp only[qA,seval]
 have p2:aa f2 2=v:=by rw[X 2 zz];simp only[qA,seval]
 clear X hD hL
 have GC: ∀w,ae pE 195 [v,.i .i64 1,.s w] []=some (.b (decide ((1:Int)=1∧ [114,117,108,101]=w)),[]):=GC
 have R: ∀w,ae pE 195 [v,.i .i64 3,.s w] []=some (.b (decide ((1:Int)=1∧ [105,115]=w)),[]):=R
 have B5:ae pE 194 [v,.i .i64 2] []=some (.b (decide ((1:Int)=1)&&iL F),[]):=B5
 rw[Bp]at B5
 have e1:=GC [114,117,108,101]
 have e3:=R [105,115]
 simp only[and_self,decide_true]at e1 e3
 obtain⟨y1,y2,y3,y4⟩:=ha
 have y1':cellsOf a= [a]:=by cases a <;> simp_all[froz1,cellsOf]
 have r80:80≤roomy:=zz
 have Rk: ∀m,mn m .nilsl=⟨true,[],[(.S,m)]⟩:=fun _=>rfl
 by_cases ZS:n=0
 ·subst ZS
  have O:cs= []:=List.length_eq_zero_iff.1 zZ
  subst O
  have fv: ∀lh,Ev.stV lh [⟨1,.cells [x0,x1,x2,x3,x4,x5,x6,iz,.nilsl,.nilsl,.nilsl,.nilsl,.nilsl,.i .i64 0] 0 true⟩,⟨1,.cells sn 0 true⟩,⟨1,.cells [.i .i64 S,.s F,a,b,c,d] 0 false⟩] (.ptr .S 0 1 8) (.isl .S 2 1 0 1 6) 1=some (lh,[⟨1,.cells [x0,x1,x2,x3,x4,x5,x6,iz,.isl .S 2 1 0 1 6,.nilsl,.nilsl,.nilsl,.nilsl,.i .i64 0] 0 true⟩,⟨1,.cells sn 0 true⟩,⟨1,.cells [.i .i64 S,.s F,a,b,c,d] 0 false⟩]):=fun lh=>by
   rw[hZ (by rfl) (by rfl),dA,if_pos ⟨rfl,rfl,rfl,Nat.zero_le _,by simp⟩]
   rfl
  simp(maxDischargeDepth:=6) only[qA,eS,bj,fC,aH,seval,repl,p0,p2,JB,I,jR,V,W,e1,e3,B5,U,C2,Ee,he,z1,y1,y2,y3,y4,afX,tT,tU,tV,CN,cM,cV,aY,cP,dc,Rk,pb,fb,fe,fo,r80,fv]
 ·have r81:(n+1)*80≤roomy:=by unfold roomy;omega
  have aen:n*6=cs.length:=O.symm
  have fv: ∀lh,Ev.stV lh [⟨1,.cells [x0,x1,x2,x3,x4,x5,x6,iz,.isl .S 2 n 0 n 6,.nilsl,.nilsl,.nilsl,.nilsl,.i .i64 0] 0 true⟩,⟨1,.cells sn 0 true⟩,⟨n+1,.cells (cs++ [.i .i64 S,.s F,a,b,c,d]) 0 false⟩] (.ptr .S 0 1 8) (.isl .S 2 (n+1) 0 (n+1) 6) 1=some (lh,[⟨1,.cells [x0,x1,x2,x3,x4,x5,x6,iz,.isl .S 2 (n+1) 0 (n+1) 6,.nilsl,.nilsl,.nilsl,.nilsl,.i .i64 0] 0 true⟩,⟨1,.cells sn 0 true⟩,⟨n+1,.cells (cs++ [.i .i64 S,.s F,a,b,c,d]) 0 false⟩]):=fun lh=>by
   rw[hZ (by rfl) (by rfl),dA,if_pos ⟨rfl,rfl,rfl,Nat.zero_le _,by simp⟩]
   rfl
  have B4: ¬n+1=0:=zZ
  simp(maxDischargeDepth:=6) only[qA,eS,bj,fC,aH,seval,repl,p0,p2,JB,I,jR,V,W,e1,e3,B5,U,C2,Ee,he,z1,y1,y2,y3,y4,afX,tT,tU,tV,CN,cM,cV,aY,dw,dU,cz,pb,fb,fe,fo,fv,r81,aen,ZS,fo,mn]
def Z5(hd:List T)(iz r:T)(sn:List T)(P:List ah)(n:Nat)(cs:List T):List ah:=
 ⟨1,.cells (hd++ [iz,r,if n=0 then .nilsl else .isl .S (2+P.length) n 0 n 5,.nilsl,.nilsl,.nilsl,.i .i64 0]) 0 true⟩::⟨1,.cells sn 0 true⟩::(P++if n=0 then []else [⟨n,.cells cs 0 false⟩])
theorem aDw(x0 x1 x2 x3 x4 x5 x6 iz F:T)(sn:List T)(P:List ah)(hP:P.length≤1)(n:Nat)(hn:n≤100)(cs:List T)(U:cs.length=n*5)(v:T)(N:Nat)(r:List Nat)(N0 N1 N2:Int)(h0:Tk v N 0 1 r N0)(h1:Tk v N 1 1 [99,111,115,116] N1)(h2:Tk v N 2 1 [105,115] N2)(eY:r= [100,117,116,121]∨r= [114,101,115,116]∨r= [112,97,105,114,105,110,103])
  (tl:T) (I:kH v=some N) (C2:sI 4 v 3 N=some tl) (Ee:froz tl=true) (a b c d:T) (ha:froz1 a=true∧froz1 b=true∧froz1 c=true∧froz1 d=true) (s:List ah) (he:ae pE 196 [tl] []=some (.tup [.agg [a,b,c,d],.i .i64 (-1)],s)):
  ae pE 117 [.ptr .S 0 1 0,.ptr .S 1 1 0,v] (Z5 [x0,x1,x2,x3,x4,x5,x6] iz F sn P n cs)=some (.i .i64 0,Z5 [x0,x1,x2,x3,x4,x5,x6] iz F sn P (n+1) (cs++ [.i .i64 (FR r),a,b,c,d])):=by
 have hs:r∉L3:=by rcases eY with rfl|rfl|rfl <;> decide
 have hL:=fun fr lh sh=>amd h0 hs fr lh sh
 have BI:=yO h0 1
 have GC:=DK h1
 have B3:=DK h2
 have O:=L2 r
 have R:FR r≠0:=by rcases eY with rfl|rfl|rfl <;> decide
 have jR: ¬r= [99,111,110,115,116]:=by rcases eY with rfl|rfl|rfl <;> decide
 obtain⟨_,_,W,z2,r0,JB⟩:=h0
 have JB: ∀kk,iaV v (.i kk 0) 4=some (.vp (.i .i64 1:: .s r:: .i .i64 N0::r0)):=JB
 generalize FR r=S at*
 have hfd:T.sl (strs L3) 7 true= .sl [.s [114,101,112,111,114,116],.s [114,101,108,101,97,115,101],.s [99,111,110,110,101,99,116],.s [115,105,116],.s [108,97,121,111,118,101,114],.s [103,117,97,114,97,110,116,101,101],.s [110,105,103,104,116]] 7 true:=rfl
 rw[av My (by simp[D2])]
 unfold Z5
 have YG:ae pE 192 [v,.i .i64 0,.i .i64 1] []=some (.b (decide ((1:Int)=1)),[]):=BI
 simp(maxDischargeDepth:=6) only[qA,seval,D2,repl,YG,W,MG]
 generalize hD:DC pE 335 (.loop lU) _=D
 obtain⟨f2,l2,s2,rfl,⟨rfl,rfl⟩,fY⟩:=sa qx hD (hL _ _ _ yW (by rw[hfd];simp only[qA,seval]) yW)
 have p0:aa f2 0= .ptr .S 0 1 0:=by rw[fY 0 zz];simp only[qA,seval]
 have p1:aa f2 1= .ptr .S 1 1 0:=by rw[fY 1 zz];simp only[qA,seval]
 have p2:aa f2 2=v:=by rw[fY 2 zz];simp only[qA,seval]
 clear fY hD hL
 have GC: ∀w,ae pE 195 [v,.i .i64 1,.s w] []=some (.b (decide ((1:Int)=1∧ [99,111,115,116]=w)),[]):=GC
 have B3: ∀w,ae pE 195 [v,.i .i64 2,.s w] []=some (.b (decide ((1:Int)=1∧ [105,115]=w)),[]):=B3
 have e1:=GC [99,111,115,116]
 have e2:ae pE 195 [v,.i .i64 1,.s [114,117,108,101]] []=some (.b false,[]):=GC [114,117,108,101]
 have e3:=B3 [105,115]
 simp only[and_self,decide_true]at e1 e3
 obtain⟨y1,y2,y3,y4⟩:=ha
 have X:64≤roomy:=zz
 have Y:(n+1)*64≤roomy:=by unfold roomy;omega
 have Z:n*5=cs.length:=U.symm
 have B4: ¬n+1=0:=zZ
 have hPc:P= []∨ ∃e,P= [e]:=by
  match P,hP with
  | [],_=>exact .inl rfl
  | [e],_=>exact .inr ⟨e,rfl⟩
 by_cases ZS:n=0
 ·subst ZS
  have U:cs= []:=List.length_eq_zero_iff.1 zZ
  subst U
  rcases hPc with rfl|⟨e,rfl⟩
  ·have V: ∀lh,Ev.stV lh [⟨1,.cells [x0,x1,x2,x3,x4,x5,x6,iz,F,.nilsl,.nilsl,.nilsl,.nilsl,.i .i64 0] 0 true⟩,⟨1,.cells sn 0 true⟩,⟨1,.cells [.i .i64 S,a,b,c,d] 0 false⟩] (.ptr .S 0 1 9) (.isl .S 2 1 0 1 5) 1=some (lh,[⟨1,.cells [x0,x1,x2,x3,x4,x5,x6,iz,F,.isl .S 2 1 0 1 5,.nilsl,.nilsl,.nilsl,.i .i64 0] 0 true⟩,⟨1,.cells sn 0 true⟩,⟨1,.cells [.i .i64 S,a,b,c,d] 0 false⟩]):=fun lh=>by
    rw[hZ (by rfl) (by rfl),dA,if_pos ⟨rfl,rfl,rfl,Nat.zero_le _,by simp⟩]
    rfl
   simp(maxDischargeDepth:=6) only[qA,eS,bj,fC,aH,seval,repl,p0,p2,JB,jR,O,R,e1,e2,e3,I,C2,Ee,he,W,y1,y2,y3,y4,tT,tU,tV,CN,cM,cV,aY,cP,dc,mn,pb,fb,fe,fo,X,V]
  ·have V: ∀lh,Ev.stV lh [⟨1,.cells [x0,x1,x2,x3,x4,x5,x6,iz,F,.nilsl,.nilsl,.nilsl,.nilsl,.i .i64 0] 0 true⟩,⟨1,.cells sn 0 true⟩,e,⟨1,.cells [.i .i64 S,a,b,c,d] 0 false⟩] (.ptr .S 0 1 9) (.isl .S 3 1 0 1 5) 1=some (lh,[⟨1,.cells [x0,x1,x2,x3,x4,x5,x6,iz,F,.isl .S 3 1 0 1 5,.nilsl,.nilsl,.nilsl,.i .i64 0] 0 true⟩,⟨1,.cells sn 0 true⟩,e,⟨1,.cells [.i .i64 S,a,b,c,d] 0 false⟩]):=fun lh=>by
    rw[hZ (by rfl) (by rfl),dA,if_pos ⟨rfl,rfl,rfl,Nat.zero_le _,by simp⟩]
    rfl
   simp(maxDischargeDepth:=6) only[qA,eS,bj,fC,aH,seval,repl,p0,p2,JB,jR,O,R,e1,e2,e3,I,C2,Ee,he,W,y1,y2,y3,y4,tT,tU,tV,CN,cM,cV,aY,cP,dc,mn,pb,fb,fe,fo,X,V]
 ·rcases hPc with rfl|⟨e,rfl⟩
  ·have V: ∀lh,Ev.stV lh [⟨1,.cells [x0,x1,x2,x3,x4,x5,x6,iz,F,.isl .S 2 n 0 n 5,.nilsl,.nilsl,.nilsl,.i .i64 0] 0 true⟩,⟨1,.cells sn 0 true⟩,⟨n+1,.cells (cs++ [.i .i64 S,a,b,c,d]) 0 false⟩] (.ptr .S 0 1 9) (.isl .S 2 (n+1) 0 (n+1) 5) 1=some (lh,[⟨1,.cells [x0,x1,x2,x3,x4,x5,x6,iz,F,.isl .S 2 (n+1) 0 (n+1) 5,.nilsl,.nilsl,.nilsl,.i .i64 0] 0 true⟩,⟨1,.cells sn 0 true⟩,⟨n+1,.cells (cs++ [.i .i64 S,a,b,c,d]) 0 false⟩]):=fun lh=>by
    rw[hZ (by rfl) (by rfl),dA,if_pos ⟨rfl,rfl,rfl,Nat.zero_le _,by simp⟩]
    rfl
   simp(maxDischargeDepth:=6) only[qA,eS,bj,fC,aH,seval,repl,p0,p2,JB,jR,O,R,e1,e2,e3,I,C2,Ee,he,W,y1,y2,y3,y4,tT,tU,tV,CN,cM,cV,aY,dw,dU,cz,mn,pb,fb,fe,fo,V,Y,Z,ZS]
  ·have V: ∀lh,Ev.stV lh [⟨1,.cells [x0,x1,x2,x3,x4,x5,x6,iz,F,.isl .S 3 n 0 n 5,.nilsl,.nilsl,.nilsl,.i .i64 0] 0 true⟩,⟨1,.cells sn 0 true⟩,e,⟨n+1,.cells (cs++ [.i .i64 S,a,b,c,d]) 0 false⟩] (.ptr .S 0 1 9) (.isl .S 3 (n+1) 0 (n+1) 5) 1=some (lh,[⟨1,.cells [x0,x1,x2,x3,x4,x5,x6,iz,F,.isl .S 3 (n+1) 0 (n+1) 5,.nilsl,.nilsl,.nilsl,.i .i64 0] 0 true⟩,⟨1,.cells sn 0 true⟩,e,⟨n+1,.cells (cs++ [.i .i64 S,a,b,c,d]) 0 false⟩]):=fun lh=>by
    rw[hZ (by rfl) (by rfl),dA,if_pos ⟨rfl,rfl,rfl,Nat.zero_le _,by simp⟩]
    rfl
   simp(maxDischargeDepth:=6) only[qA,eS,bj,fC,aH,seval,repl,p0,p2,JB,jR,O,R,e1,e2,e3,I,C2,Ee,he,W,y1,y2,y3,y4,tT,tU,tV,CN,cM,cV,aY,dw,dU,cz,mn,pb,fb,fe,fo,V,Y,Z,ZS]
def YH(hd:List T)(iz r L0:T)(sn:List T)(P:List ah)(cr:List T):List ah:=
 ⟨1,.cells (hd++ [iz,r,L0,if cr= []then .nilsl else .isl .S (2+P.length) 1 0 1 4,.nilsl,.nilsl,.i .i64 0]) 0 true⟩::⟨1,.cells sn 0 true⟩::(P++if cr= []then []else [⟨1,.cells cr 0 false⟩])
theorem aDx(x0 x1 x2 x3 x4 x5 x6 iz r L0:T)(sn:List T)(P:List ah)(hP:P.length≤2)(v:T)(N:Nat)(N0 N1 N2:Int)(h0:Tk v N 0 1 [100,117,116,121] N0)(h1:Tk v N 1 1 [99,114,101,100,105,116] N1)(h2:Tk v N 2 1 [105,115] N2)
  (X:T) (F:kH v=some N) (C2:sI 4 v 3 N=some X) (Ee:froz X=true) (a b c d:T) (ha:froz1 a=true∧froz1 b=true∧froz1 c=true∧froz1 d=true) (s:List ah) (he:ae pE 196 [X] []=some (.tup [.agg [a,b,c,d],.i .i64 (-1)],s)):
  ae pE 117 [.ptr .S 0 1 0,.ptr .S 1 1 0,v] (YH [x0,x1,x2,x3,x4,x5,x6] iz r L0 sn P [])=some (.i .i64 0,YH [x0,x1,x2,x3,x4,x5,x6] iz r L0 sn P [a,b,c,d]):=by
 have hs:([100,117,116,121]:List Nat)∉L3:=zz
 have hL:=fun fr lh sh=>amd h0 hs fr lh sh
 have BI:=yO h0 1
 have GC:=DK h1
 have B3:=DK h2
 have I:ae pE 197 [.s [100,117,116,121]] []=some (.i .i64 1,[]):=L2 _
 have O:(1:Int)≠0:=zz
 have Y: ¬([100,117,116,121]:List Nat)= [99,111,110,115,116]:=zz
 obtain⟨_,_,V,z2,r0,JB⟩:=h0
 have JB: ∀kk,iaV v (.i kk 0) 4=some (.vp (.i .i64 1:: .s [100,117,116,121]:: .i .i64 N0::r0)):=JB
 have Z:T.sl (strs L3) 7 true= .sl [.s [114,101,112,111,114,116],.s [114,101,108,101,97,115,101],.s [99,111,110,110,101,99,116],.s [115,105,116],.s [108,97,121,111,118,101,114],.s [103,117,97,114,97,110,116,101,101],.s [110,105,103,104,116]] 7 true:=rfl
 rw[av My (by simp[D2])]
 unfold YH
 have YG:ae pE 192 [v,.i .i64 0,.i .i64 1] []=some (.b (decide ((1:Int)=1)),[]):=BI
 simp(maxDischargeDepth:=6) only[qA,seval,D2,repl,YG,V,MG]
 generalize hD:DC pE 335 (.loop lU) _=D
 obtain⟨f2,l2,s2,rfl,⟨rfl,rfl⟩,W⟩:=sa qx hD (hL _ _ _ yW (by rw[Z];simp only[qA,seval]) yW)
 have p0:aa f2 0= .ptr .S 0 1 0:=by rw[W 0 zz];simp only[qA,seval]
 have p1:aa f2 1= .ptr .S 1 1 0:=by rw[W 1 zz];simp only[qA,seval]
 have p2:aa f2 2=v:=by rw[W 2 zz];simp only[qA,seval]
 clear W hD hL
 have GC: ∀w,ae pE 195 [v,.i .i64 1,.s w] []=some (.b (decide ((1:Int)=1∧ [99,114,101,100,105,116]=w)),[]):=GC
 have B3: ∀w,ae pE 195 [v,.i .i64 2,.s w] []=some (.b (decide ((1:Int)=1∧ [105,115]=w)),[]):=B3
 have e1:=GC [99,114,101,100,105,116]
 have e4:ae pE 195 [v,.i .i64 1,.s [99,111,115,116]] []=some (.b false,[]):=GC [99,111,115,116]
 have e2:ae pE 195 [v,.i .i64 1,.s [114,117,108,101]] []=some (.b false,[]):=GC [114,117,108,101]
 have e3:=B3 [105,115]
 simp only[and_self,decide_true]at e1 e3
 obtain⟨y1,y2,y3,y4⟩:=ha
 have R:56≤roomy:=zz
 have hPc:P= []∨(∃e,P= [e])∨ ∃e f,P= [e,f]:=by
  match P,hP with
  | [],_=>exact .inl rfl
  | [e],_=>exact .inr (.inl ⟨e,rfl⟩)
  | [e,f],_=>exact .inr (.inr ⟨e,f,rfl⟩)
 rcases hPc with rfl|⟨e,rfl⟩|⟨e,f,rfl⟩
 ·have U: ∀lh,Ev.stV lh [⟨1,.cells [x0,x1,x2,x3,x4,x5,x6,iz,r,L0,.nilsl,.nilsl,.nilsl,.i .i64 0] 0 true⟩,⟨1,.cells sn 0 true⟩,⟨1,.cells [a,b,c,d] 0 false⟩] (.ptr .S 0 1 10) (.isl .S 2 1 0 1 4) 1=some (lh,[⟨1,.cells [x0,x1,x2,x3,x4,x5,x6,iz,r,L0,.isl .S 2 1 0 1 4,.nilsl,.nilsl,.i .i64 0] 0 true⟩,⟨1,.cells sn 0 true⟩,⟨1,.cells [a,b,c,d] 0 false⟩]):=fun lh=>by
   rw[hZ (by rfl) (by rfl),dA,if_pos ⟨rfl,rfl,rfl,Nat.zero_le _,by simp⟩]
   rfl
  simp(maxDischargeDepth:=6) only[qA,eS,bj,fC,aH,seval,repl,p0,p2,JB,Y,I,O,e1,e2,e3,e4,F,C2,Ee,he,V,y1,y2,y3,y4,tT,tU,tV,cM,cV,aY,cP,dc,mn,xQ,jM,pb,fb,fe,fo,R,U]
 ·have U: ∀lh,Ev.stV lh [⟨1,.cells [x0,x1,x2,x3,x4,x5,x6,iz,r,L0,.nilsl,.nilsl,.nilsl,.i .i64 0] 0 true⟩,⟨1,.cells sn 0 true⟩,e,⟨1,.cells [a,b,c,d] 0 false⟩] (.ptr .S 0 1 10) (.isl .S 3 1 0 1 4) 1=some (lh,[⟨1,.cells [x0,x1,x2,x3,x4,x5,x6,iz,r,L0,.isl .S 3 1 0 1 4,.nilsl,.nilsl,.i .i64 0] 0 true⟩,⟨1,.cells sn 0 true⟩,e,⟨1,.cells [a,b,c,d] 0 false⟩]):=fun lh=>by
   rw[hZ (by rfl) (by rfl),dA,if_pos ⟨rfl,rfl,rfl,Nat.zero_le _,by simp⟩]
   rfl
  simp(maxDischargeDepth:=6) only[qA,eS,bj,fC,aH,seval,repl,p0,p2,JB,Y,I,O,e1,e2,e3,e4,F,C2,Ee,he,V,y1,y2,y3,y4,tT,tU,tV,cM,cV,aY,cP,dc,mn,xQ,jM,pb,fb,fe,fo,R,U]
 ·have U: ∀lh,Ev.stV lh [⟨1,.cells [x0,x1,x2,x3,x4,x5,x6,iz,r,L0,.nilsl,.nilsl,.nilsl,.i .i64 0] 0 true⟩,⟨1,.cells sn 0 true⟩,e,f,⟨1,.cells [a,b,c,d] 0 false⟩] (.ptr .S 0 1 10) (.isl .S 4 1 0 1 4) 1=some (lh,[⟨1,.cells [x0,x1,x2,x3,x4,x5,x6,iz,r,L0,.isl .S 4 1 0 1 4,.nilsl,.nilsl,.i .i64 0] 0 true⟩,⟨1,.cells sn 0 true⟩,e,f,⟨1,.cells [a,b,c,d] 0 false⟩]):=fun lh=>by
   rw[hZ (by rfl) (by rfl),dA,if_pos ⟨rfl,rfl,rfl,Nat.zero_le _,by simp⟩]
   rfl
  simp(maxDischargeDepth:=6) only[qA,eS,bj,fC,aH,seval,repl,p0,p2,JB,Y,I,O,e1,e2,e3,e4,F,C2,Ee,he,V,y1,y2,y3,y4,tT,tU,tV,cM,cV,aY,cP,dc,mn,xQ,jM,pb,fb,fe,fo,R,U]
def Ou(l:List Nat)(s r:List ah):Prop:= ∃YI a u,∃n:Nat,ae pE 116 [.s l] []=some (.tup [YI,a,.i .i64 0],u)∧lenI YI=some (.i .i64 ((n+1:Nat):Int))∧froz YI=true∧ae pE 117 [.ptr .S 0 1 0,.ptr .S 1 1 0,YI] s=some (.i .i64 0,r)
def vq:List (List Nat)→List ah→List ah→Prop
 | [],s,r=>r=s
 |l::D,s,r=> ∃m,Ou l s m∧vq D m r
theorem qp: ∀{a b:List (List Nat)} {s m r:List ah},vq a s m→vq b m r→vq (a++b) s r
 | [],_,_,_,_,h1,h2=>by rw[vq]at h1;subst h1;exact h2
 |l::a,_,_,_,_,⟨q,h0,h1⟩,h2=>⟨q,h0,qp h1 h2⟩
theorem aDy(v:T)(r:List (List Nat))(hv:IsSl v r.length (strs r))(hb:r.length<1000000)(s2:List ah)(fr:Fr)(lh:aE ah)(sh:List ah)(hs:vq r sh s2)(h5:aa fr 5=v)(R:aa fr 7= .ptr .S 0 1 0)(U:aa fr 8= .ptr .S 1 1 0)(V:aa fr 9= .i .i64 0):
  Lp pE 61 vZ fr lh sh (.ext 0) fun f l s=>s=s2∧l=lh:=by
 refine cm G0 (fun k f l s=>aa f 9= .i .i64 (k:Int)∧l=lh∧vq (r.drop k) s s2) r.length ⟨V,rfl,hs⟩ ?_ ?_
 ·rintro k f _ s hk D ⟨F,rfl,hs⟩
  have I:(k:Int)<r.length:=zZ
  have W:=aG (k:=k) zZ
  rw[List.drop_eq_getElem_cons hk]at hs
  obtain⟨s',⟨YI,a,u,n,X,Y,Z,q4⟩,hs⟩:=hs
  obtain⟨q,O⟩:=vi hv k hk
  have Uv:(0:Int)<((n+1:Nat):Int):=zZ
  simp(maxDischargeDepth:=6) only[qA,eS,seval,gd,vZ,D,h5,R,U,F,hv.lenI,I,O,X,Y,Z,q4,Uv,W,hs,atm,atn]
 ·rintro f _ s D ⟨F,rfl,hs⟩
  rw[List.drop_length,vq]at hs
  subst hs
  simp only[qA,seval,gd,vZ,D,h5,F,hv.lenI,Int.lt_irrefl]
theorem mD: ∀(cs r:List T),r.length=cs.length→splice cs 0 r=r
 | [],[],_=>by simp[splice]
 | [],v::r,h=>by simp at h
 |c::cs,[],h=>by simp at h
 |c::cs,v::r,h=>by simp[splice,mD cs r (by simpa using h)]
def iZ(n:Int):T:= .i .i64 n
def kS0:List ah:=rQ [iZ 0,iZ 0,iZ 0,iZ 1440,iZ 2880,iZ 0,iZ 0] .nilsl [.b false,.b false,.b false,.b false,.b false,.b false,.b false]
theorem YJ(r:List (List Nat))(hx:Yy (j6 r))(U: ∀l∈r,10∉l)(hl:r.length≤1000)(rc cs:List T)(rest:List ah)(F:rc.length=14)
  (I: ∀q lh,∃us,sJ q lh (⟨1,.cells rc 0 true⟩::rest) false rc=some (cs,us))
  (hs:vq r kS0 (⟨1,.cells rc 0 true⟩::rest)) (s':List ah) (O:ae pE 118 [.agg cs] []=some (.i .i64 0,s')):
  ∃V,ae pE 64 [.s (j6 r)] []=some (.tup [.agg cs,.i .i64 0,.i .i64 0],V):=by
 have W:=Yz r hx U hl
 have hv:IsSl (bG r.length (strs r)) r.length (strs r):=fj fun h=>by
  rw[List.length_eq_zero_iff.1 h];rfl
 have R:=fun fr lh=>aDy (bG r.length (strs r)) r hv zZ _ fr lh _ hs
 have hz1:=hv.froz1
 unfold kS0 rQ iZ at R
 simp only[List.cons_append,List.nil_append]at R
 have X:rc.take 14=rc:=by rw[←F];exact List.take_length
 have Y:=mD [T.i IntKind.i64 0,T.i IntKind.i64 0,T.i IntKind.i64 0,T.i IntKind.i64 0,T.i IntKind.i64 0,T.i IntKind.i64 0,T.i IntKind.i64 0,T.nilsl,T.nilsl,T.nilsl,T.nilsl,T.nilsl,T.nilsl,T.i IntKind.i64 0] rc (by rw[F];rfl)
 obtain⟨us,Z⟩: ∃us:Nat→aE ah→List Up,∀q lh,sJ q lh (⟨1,.cells rc 0 true⟩::rest) false rc=some (cs,us q lh):=⟨fun q lh=>(I q lh).choose,fun q lh=>(I q lh).choose_spec⟩
 rw[av asO (by simp[c64])]
 generalize j6 r=tx at*
 generalize bG r.length (strs r)=v at*
 simp(maxDischargeDepth:=6) only[qA,eS,seval,c64,W,atk]
 generalize hD:DC pE 61 (.loop vZ) _=D
 obtain⟨f2,l2,s2,rfl,⟨rfl,rfl⟩,fY⟩:=sa G0 hD (R _ _ yW yW yW yW)
 have p2:aa f2 2= .ptr .L 2 1 0:=by rw[fY 2 zz];simp only[qA,seval]
 have p7:aa f2 7= .ptr .S 0 1 0:=by rw[fY 7 zz];simp only[qA,seval]
 clear fY hD R
 simp(maxDischargeDepth:=6) only[qA,eS,seval,p2,p7,O,ato,F,X,Y,Z]
 exact⟨_,rfl⟩
theorem L4(x:Ex):gr x (fw x):=rfl
theorem vt(x:Ex): ∃d,fw x= [.i .i64 x.op,.i .i64 x.num,.s x.name,d]∧froz1 d=true:=by
 cases x with
 |mk op n s a=>
  cases a with
  |nil=>exact⟨.nilsl,by rw[fw];rfl,rfl⟩
  |cons b r=>exact⟨_,by rw[fw];rfl,rfl⟩
def FT(u:Ru):List T:= .i .i64 u.sc:: .s u.nm::fw u.x
def Kj(u:Co):List T:= .i .i64 u.sc::fw u.x
theorem ame(u:Ru):RP u (FT u):=by
 obtain⟨a,r,e,h1,_⟩:=(L4 u.x).cells
 exact⟨a,r,by unfold FT;rw[e],h1,e.symm⟩
theorem amf(u:Co):ZW u (Kj u):=by
 obtain⟨a,r,e,h1,_⟩:=(L4 u.x).cells
 exact⟨a,r,by unfold Kj;rw[e],h1,e.symm⟩
theorem JC: ∀l:List Ru,aC RP l (l.flatMap FT)
 | []=>rfl
 |u::l=>⟨_,_,rfl,ame u,JC l⟩
theorem JD: ∀l:List Co,aC ZW l (l.flatMap Kj)
 | []=>rfl
 |u::l=>⟨_,_,rfl,amf u,JD l⟩
theorem sR: ∀l∈mQ,ScK l:=td 6 s3 (td 6 s4 s5)
theorem eR: ∀l∈ruX,PaK 4 l:=td 6 e1 (td 6 e2 e3)
theorem sKo: ∀l∈mU++rO,ScK l:=td 7 s6 s7
theorem eKo: ∀l∈koX,PaK 3 l:=td 8 e4 e5
def Bq:List (List Nat):=hls++mQ++mU++rO
theorem amg: ∀l∈Bq,(tok l).length=(tok l).length/4*4∧0<(tok l).length/4∧(tok l).length/4≤1000:=by decide+kernel
theorem YK:(∀l∈mQ,4≤(tok l).length/4)∧ ∀l∈mU++rO,3≤(tok l).length/4:=by decide+kernel
theorem lnk{l:List Nat}(hl:l∈Bq)(h:ScK l){s r:List ah}(hd:ae pE 117 [.ptr .S 0 1 0,.ptr .S 1 1 0,rP 0 l] s=some (.i .i64 0,r)):Ou l s r:=by
 obtain⟨u,D⟩:=h
 obtain⟨_,h2,_⟩:=amg l hl
 refine⟨_,_,u,(tok l).length/4-1,D, ?_,rfl,hd⟩
 show some (T.i .i64 (((tok l).length/4-0:Nat):Int))=_
 rw[show(tok l).length/4-0=(tok l).length/4-1+1 by omega]
def YL(s:Int):List Nat:=if s=1 then [100,117,116,121]else if s=2 then [114,101,115,116]else [112,97,105,114,105,110,103]
theorem YM{s:Int}(h:s=1∨s=2∨s=3):FR (YL s)=s∧(YL s= [100,117,116,121]∨YL s= [114,101,115,116]∨YL s= [112,97,105,114,105,110,103]):=by
 rcases h with rfl|rfl|rfl <;> decide
def hdR(u:Ru):List T:=RY 1 (YL u.sc) 0 0++RY 1 [114,117,108,101] 0 ((YL u.sc).length+1)++RY 1 u.nm 0 ((YL u.sc).length+6)++RY 1 [105,115] 0 ((YL u.sc).length+7+u.nm.length)
def hdK(s:Int)(w:List Nat):List T:=RY 1 (YL s) 0 0++RY 1 w 0 ((YL s).length+1)++RY 1 [105,115] 0 ((YL s).length+2+w.length)
theorem tkR:(mQ.map fun l=>(tok l).take 16)=jK.map hdR:=by kernel_rfl
theorem tkK:(mU.map fun l=>(tok l).take 12)=iS.map fun u=>hdK u.sc [99,111,115,116]:=by kernel_rfl
theorem tkC:(rO.map fun l=>(tok l).take 12)=rO.map fun _=>hdK 1 [99,114,101,100,105,116]:=by kernel_rfl
theorem L5{α β γ:Type}{L:List α}{M:List β}{f:α→γ}{g:β→γ}(h:L.map f=M.map g)(i:Nat)(h1:i<L.length)(h2:i<M.length):f L[i]=g M[i]:=by
 have:=congrArg (fun l=>l[i]?) h
 simpa[List.getElem?_eq_getElem,h1,h2]using this
theorem JE{α β γ:Type}{A:List α}{B:List β}(f:β→γ)(i:Nat)(h1:i<A.length)(h2:i<B.length):(A[i],f B[i])∈A.zip (B.map f):=List.mem_iff_getElem.2 ⟨i,by rw[List.length_zip,List.length_map];omega,by simp⟩
theorem YN{α β:Type}{A:List α}{B:List β}(i:Nat)(h1:i<A.length)(h2:i<B.length):(A[i],B[i])∈A.zip B:=List.mem_iff_getElem.2 ⟨i,by rw[List.length_zip];omega,by simp⟩
theorem amh: ∀u∈jK,(u.sc=1∨u.sc=2∨u.sc=3)∧iL u.nm=true:=by decide+kernel
theorem ami: ∀u∈iS,u.sc=1∨u.sc=2∨u.sc=3:=by decide+kernel
theorem Ci{l:List Nat}(hl:l∈Bq){a:List T}{m i:Nat}(F:(tok l).take m=a){s:List Nat}{r:List T}{N:Int}(h:a.drop (i*4)= .i .i64 1:: .s s:: .i .i64 N::r)(hi:i<(tok l).length/4):Tk (rP 0 l) ((tok l).length/4) i 1 s N:=by
 obtain⟨h1,_,h3⟩:=amg l hl
 refine Tk.of (tok l) _ i 1 s N (r++(tok l).drop m) hi h3 h1 ?_
 have e:=List.take_append_drop m (tok l)
 rw[F]at e
 have D:i*4≤a.length:=by
  refine Nat.le_of_not_lt fun I=> ?_
  rw[List.drop_eq_nil_of_le zZ]at h
  cases h
 have e2:(tok l).drop (i*4)=(a++(tok l).drop m).drop (i*4):=by rw[e]
 rw[e2,List.drop_append_of_le_length D,h]
 rfl
theorem FU{l:List Nat}(hl:l∈Bq)(k:Nat)(hk:k≤(tok l).length/4):kH (rP 0 l)=some ((tok l).length/4)∧sI 4 (rP 0 l) k ((tok l).length/4)=some (rP k l):=by
 obtain⟨h1,_,_⟩:=amg l hl
 refine⟨rfl, ?_⟩
 have h3:((tok l).drop (k*4)).take (((tok l).length/4-k)*4)=(tok l).drop (k*4):=List.take_of_length_le (by rw[List.length_drop,Nat.sub_mul];omega)
 show sI 4 (.sl (tok l) _ false) k _=_
 unfold rP
 simp[sI,hk,←h1,h3]
theorem amj{l:List Nat}(h:l∈mQ):l∈Bq:=by unfold Bq;simp[h]
theorem mem_co{l:List Nat}(h:l∈mU):l∈Bq:=by unfold Bq;simp[h]
theorem amk{l:List Nat}(h:l∈rO):l∈Bq:=by unfold Bq;simp[h]
theorem aDz(x0 x1 x2 x3 x4 x5 x6 iz:T)(sn:List T)(i:Nat)(hi:i<18)(n:Nat)(I:n≤100)(cs:List T)(D:cs.length=n*6):Ou (mQ[i]'hi) (Z4 [x0,x1,x2,x3,x4,x5,x6] iz sn n cs) (Z4 [x0,x1,x2,x3,x4,x5,x6] iz sn (n+1) (cs++FT (jK[i]'hi))):=by
 have F:mQ[i]'hi∈mQ:=List.getElem_mem hi
 have hl:=amj F
 have r:=L5 tkR i hi hi
 have h4:=YK.1 _ F
 obtain⟨O,Bp⟩:=amh _ (List.getElem_mem (h:=hi))
 obtain⟨s,he⟩:=eR (mQ[i]'hi,(jK[i]'hi).x) (JE (A:=mQ) (B:=jK) Ru.x i hi hi)
 obtain⟨d,e4,hd⟩:=vt (jK[i]'hi).x
 rw[show(mQ[i]'hi,(jK[i]'hi).x).2=(jK[i]'hi).x from rfl,e4]at he
 obtain⟨R,U⟩:=YM O
 obtain⟨V,W⟩:=FU hl 4 h4
 refine lnk hl (sR _ F) ?_
 have h:=aDu x0 x1 x2 x3 x4 x5 x6 iz sn n I cs D _ _ _ _ _ _ _ _ (Ci hl (i:=0) r rfl zZ) (Ci hl (i:=1) r rfl zZ) (Ci hl (i:=2) r rfl zZ) (Ci hl (i:=3) r rfl zZ) U Bp _ V W rfl _ _ _ _ ⟨rfl,rfl,rfl,hd⟩ s he
 rw[R]at h
 unfold FT
 rw[e4]
 exact h
theorem aDA(x0 x1 x2 x3 x4 x5 x6 iz r:T)(sn:List T)(P:List ah)(O:P.length≤1)(i:Nat)(hi:i<10)(n:Nat)(R:n≤100)(cs:List T)(D:cs.length=n*5):Ou (mU[i]'hi) (Z5 [x0,x1,x2,x3,x4,x5,x6] iz r sn P n cs) (Z5 [x0,x1,x2,x3,x4,x5,x6] iz r sn P (n+1) (cs++Kj (iS[i]'hi))):=by
 have F:mU[i]'hi∈mU:=List.getElem_mem hi
 have hl:=mem_co F
 have I:=L5 tkK i hi hi
 have h4:=YK.2 _ (List.mem_append_left _ F)
 have U:=ami _ (List.getElem_mem (h:=hi))
 obtain⟨s,he⟩:=eKo (mU[i]'hi,(iS[i]'hi).x) (List.mem_append_left _ (List.mem_append_left _ (JE (A:=mU) (B:=iS) Co.x i hi hi)))
 obtain⟨d,e4,hd⟩:=vt (iS[i]'hi).x
 rw[show(mU[i]'hi,(iS[i]'hi).x).2=(iS[i]'hi).x from rfl,e4]at he
 obtain⟨V,W⟩:=YM U
 obtain⟨X,Y⟩:=FU hl 3 h4
 refine lnk hl (sKo _ (List.mem_append_left _ F)) ?_
 have h:=aDw x0 x1 x2 x3 x4 x5 x6 iz r sn P O n R cs D _ _ _ _ _ _ (Ci hl (i:=0) I rfl zZ) (Ci hl (i:=1) I rfl zZ) (Ci hl (i:=2) I rfl zZ) W _ X Y rfl _ _ _ _ ⟨rfl,rfl,rfl,hd⟩ s he
 rw[V]at h
 unfold Kj
 rw[e4]
 exact h
theorem axC(x0 x1 x2 x3 x4 x5 x6 iz r L0:T)(sn:List T)(P:List ah)(I:P.length≤2)(i:Nat)(hi:i<3):Ou (rO[i]'hi) (YH [x0,x1,x2,x3,x4,x5,x6] iz r L0 sn P []) (YH [x0,x1,x2,x3,x4,x5,x6] iz r L0 sn P (fw (uR[i]'hi))):=by
 have D:rO[i]'hi∈rO:=List.getElem_mem hi
 have hl:=amk D
 have F:=L5 tkC i hi hi
 have h4:=YK.2 _ (List.mem_append_right _ D)
 obtain⟨s,he⟩:=eKo (rO[i]'hi,uR[i]'hi) (List.mem_append_left _ (List.mem_append_right _ (YN (A:=rO) (B:=uR) i hi hi)))
 obtain⟨d,e4,hd⟩:=vt (uR[i]'hi)
 rw[show(rO[i]'hi,uR[i]'hi).2=uR[i]'hi from rfl,e4]at he
 obtain⟨O,R⟩:=FU hl 3 h4
 refine lnk hl (sKo _ (List.mem_append_right _ D)) ?_
 rw[e4]
 exact aDx x0 x1 x2 x3 x4 x5 x6 iz r L0 sn P I _ _ _ _ _ (Ci hl (i:=0) F rfl zZ) (Ci hl (i:=1) F rfl zZ) (Ci hl (i:=2) F rfl zZ) _ O R rfl _ _ _ _ ⟨rfl,rfl,rfl,hd⟩ s he
theorem dH(f:Nat)(L:List Nat)(g:Nat→List T)(s r:Nat→List ah)(h:(L.map fun x=>r8 pE 1000 f (g x) (s x))=L.map fun x=>some (.i .i64 0,r x)): ∀x∈L,ae pE f (g x) (s x)=some (.i .i64 0,r x):=fun x hx=>DCall_iff.2 ⟨1000,List.map_inj_left.1 h x hx⟩
theorem hK(i:Nat)(hi:i<7)(j:Nat)(F:j≤2){s r:List ah}(h:ae pE 117 [.ptr .S 0 1 0,.ptr .S 1 1 0,rP 0 (ki i j)] s=some (.i .i64 0,r)):Ou (ki i j) s r:=by
 have D:ki i j∈hls:=List.mem_flatMap.2 ⟨i,List.mem_range.2 hi,by
  have:j=0∨j=1∨j=2:=zZ
  rcases this with rfl|rfl|rfl <;> simp⟩
 exact lnk (by unfold Bq;simp[D]) (s2 _ D) h
theorem m3{j:Nat}(h:j≤2):j∈ [0,1,2]:=by
 have:j=0∨j=1∨j=2:=zZ
 simpa using this
theorem h0(x0 x1 x2 x3 x4 x5 x6:T)(j:Nat)(r:j≤2):Ou (ki 0 j) (rQ [x0,x1,x2,x3,x4,x5,x6] .nilsl [.b false,.b false,.b false,.b false,.b false,.b false,.b false]) (rQ [.i .i64 (rpB j),x1,x2,x3,x4,x5,x6] .nilsl [.b true,.b false,.b false,.b false,.b false,.b false,.b false]):=hK 0 zZ j r (dH 117 [0,1,2] (fun j=> [.ptr .S 0 1 0,.ptr .S 1 1 0,rP 0 (ki 0 j)]) (fun _=>rQ [x0,x1,x2,x3,x4,x5,x6] .nilsl [.b false,.b false,.b false,.b false,.b false,.b false,.b false]) (fun j=>rQ [.i .i64 (rpB j),x1,x2,x3,x4,x5,x6] .nilsl [.b true,.b false,.b false,.b false,.b false,.b false,.b false]) (by kernel_rfl) j (m3 r))
theorem h1(x0 x1 x2 x3 x4 x5 x6:T)(j:Nat)(r:j≤2):Ou (ki 1 j) (rQ [x0,x1,x2,x3,x4,x5,x6] .nilsl [.b true,.b false,.b false,.b false,.b false,.b false,.b false]) (rQ [x0,.i .i64 (rlB j),x2,x3,x4,x5,x6] .nilsl [.b true,.b true,.b false,.b false,.b false,.b false,.b false]):=hK 1 zZ j r (dH 117 [0,1,2] (fun j=> [.ptr .S 0 1 0,.ptr .S 1 1 0,rP 0 (ki 1 j)]) (fun _=>rQ [x0,x1,x2,x3,x4,x5,x6] .nilsl [.b true,.b false,.b false,.b false,.b false,.b false,.b false]) (fun j=>rQ [x0,.i .i64 (rlB j),x2,x3,x4,x5,x6] .nilsl [.b true,.b true,.b false,.b false,.b false,.b false,.b false]) (by kernel_rfl) j (m3 r))
theorem h2(x0 x1 x2 x3 x4 x5 x6:T)(j:Nat)(r:j≤2):Ou (ki 2 j) (rQ [x0,x1,x2,x3,x4,x5,x6] .nilsl [.b true,.b true,.b false,.b false,.b false,.b false,.b false]) (rQ [x0,x1,.i .i64 (Rg j),x3,x4,x5,x6] .nilsl [.b true,.b true,.b true,.b false,.b false,.b false,.b false]):=hK 2 zZ j r (dH 117 [0,1,2] (fun j=> [.ptr .S 0 1 0,.ptr .S 1 1 0,rP 0 (ki 2 j)]) (fun _=>rQ [x0,x1,x2,x3,x4,x5,x6] .nilsl [.b true,.b true,.b false,.b false,.b false,.b false,.b false]) (fun j=>rQ [x0,x1,.i .i64 (Rg j),x3,x4,x5,x6] .nilsl [.b true,.b true,.b true,.b false,.b false,.b false,.b false]) (by kernel_rfl) j (m3 r))
theorem h3(x0 x1 x2 x3 x4 x5 x6:T)(j:Nat)(r:j≤2):Ou (ki 3 j) (rQ [x0,x1,x2,x3,x4,x5,x6] .nilsl [.b true,.b true,.b true,.b false,.b false,.b false,.b false]) (rQ [x0,x1,x2,.i .i64 (EC j),x4,x5,x6] .nilsl [.b true,.b true,.b true,.b true,.b false,.b false,.b false]):=hK 3 zZ j r (dH 117 [0,1,2] (fun j=> [.ptr .S 0 1 0,.ptr .S 1 1 0,rP 0 (ki 3 j)]) (fun _=>rQ [x0,x1,x2,x3,x4,x5,x6] .nilsl [.b true,.b true,.b true,.b false,.b false,.b false,.b false]) (fun j=>rQ [x0,x1,x2,.i .i64 (EC j),x4,x5,x6] .nilsl [.b true,.b true,.b true,.b true,.b false,.b false,.b false]) (by kernel_rfl) j (m3 r))
theorem h4(x0 x1 x2 x3 x4 x5 x6:T)(j:Nat)(r:j≤2):Ou (ki 4 j) (rQ [x0,x1,x2,x3,x4,x5,x6] .nilsl [.b true,.b true,.b true,.b true,.b false,.b false,.b false]) (rQ [x0,x1,x2,x3,.i .i64 (lyB j),x5,x6] .nilsl [.b true,.b true,.b true,.b true,.b true,.b false,.b false]):=hK 4 zZ j r (dH 117 [0,1,2] (fun j=> [.ptr .S 0 1 0,.ptr .S 1 1 0,rP 0 (ki 4 j)]) (fun _=>rQ [x0,x1,x2,x3,x4,x5,x6] .nilsl [.b true,.b true,.b true,.b true,.b false,.b false,.b false]) (fun j=>rQ [x0,x1,x2,x3,.i .i64 (lyB j),x5,x6] .nilsl [.b true,.b true,.b true,.b true,.b true,.b false,.b false]) (by kernel_rfl) j (m3 r))
theorem h5(x0 x1 x2 x3 x4 x5 x6:T)(j:Nat)(r:j≤2):Ou (ki 5 j) (rQ [x0,x1,x2,x3,x4,x5,x6] .nilsl [.b true,.b true,.b true,.b true,.b true,.b false,.b false]) (rQ [x0,x1,x2,x3,x4,.i .i64 (nfB j),.i .i64 (ntB j)] .nilsl [.b true,.b true,.b true,.b true,.b true,.b false,.b true]):=hK 5 zZ j r (dH 117 [0,1,2] (fun j=> [.ptr .S 0 1 0,.ptr .S 1 1 0,rP 0 (ki 5 j)]) (fun _=>rQ [x0,x1,x2,x3,x4,x5,x6] .nilsl [.b true,.b true,.b true,.b true,.b true,.b false,.b false]) (fun j=>rQ [x0,x1,x2,x3,x4,.i .i64 (nfB j),.i .i64 (ntB j)] .nilsl [.b true,.b true,.b true,.b true,.b true,.b false,.b true]) (by kernel_rfl) j (m3 r))
theorem h6(x0 x1 x2 x3 x4 x5 x6:T)(j:Nat)(r:j≤2):Ou (ki 6 j) (rQ [x0,x1,x2,x3,x4,x5,x6] .nilsl [.b true,.b true,.b true,.b true,.b true,.b false,.b true]) (rQ [x0,x1,x2,x3,x4,x5,x6] (.sl (.s sN::fw (mL j)) 1 false) [.b true,.b true,.b true,.b true,.b true,.b false,.b true]):=hK 6 zZ j r (dH 117 [0,1,2] (fun j=> [.ptr .S 0 1 0,.ptr .S 1 1 0,rP 0 (ki 6 j)]) (fun _=>rQ [x0,x1,x2,x3,x4,x5,x6] .nilsl [.b true,.b true,.b true,.b true,.b true,.b false,.b true]) (fun j=>rQ [x0,x1,x2,x3,x4,x5,x6] (.sl (.s sN::fw (mL j)) 1 false) [.b true,.b true,.b true,.b true,.b true,.b false,.b true]) (by kernel_rfl) j (m3 r))
def Kh(b:Nat→Int):List T:= [.i .i64 (rpB (kB b 0)),.i .i64 (rlB (kB b 1)),.i .i64 (Rg (kB b 2)),.i .i64 (EC (kB b 3)),.i .i64 (lyB (kB b 4)),.i .i64 (nfB (kB b 5)),.i .i64 (ntB (kB b 5))]
def Rl(b:Nat→Int):T:= .sl (.s sN::fw (mL (kB b 6))) 1 false
def snU:List T:= [.b true,.b true,.b true,.b true,.b true,.b false,.b true]
theorem aml(b:Nat→Int):vq (Z3 b) kS0 (rQ (Kh b) (Rl b) snU):=by
 have e: ∀i,b i%3=(kB b i:Int):=fun i=>by unfold kB;omega
 unfold Z3 kS0
 rw[e 0,e 1,e 2,e 3,e 4,e 5,e 6]
 exact⟨_,h0 _ _ _ _ _ _ _ _ (sg b 0),_,h1 _ _ _ _ _ _ _ _ (sg b 1),_,h2 _ _ _ _ _ _ _ _ (sg b 2),_,h3 _ _ _ _ _ _ _ _ (sg b 3),_,h4 _ _ _ _ _ _ _ _ (sg b 4),_,h5 _ _ _ _ _ _ _ _ (sg b 5),_,h6 _ _ _ _ _ _ _ _ (sg b 6),rfl⟩
theorem L6{α:Type}(L:List (List Nat))(X:List α)(f:α→List T)(sz:Nat)(St:Nat→List T→List ah)(D: ∀x,(f x).length=sz)(hl:L.length=X.length)(F:X.length≤50)
  (r: ∀(i:Nat) (h1:i<L.length) (h2:i<X.length) (n:Nat),n≤100→ ∀cs:List T,cs.length=n*sz→Ou L[i] (St n cs) (St (n+1) (cs++f X[i]))) (p:Nat→Bool): ∀k,k≤L.length→vq (cX p 0 (L.take k)) (St 0 []) (St (cX p 0 (X.take k)).length ((cX p 0 (X.take k)).flatMap f))
 |0,_=>by simp[cX,vq]
 |k+1,hk=>by
  have ih:=L6 L X f sz St D hl F r p k zZ
  rw[rm p L k zZ,rm p X k zZ]
  have ki:(cX p 0 (X.take k)).length≤k:=by
   have:=(dW p 0 (X.take k)).length_le
   rw[List.length_take]at this
   omega
  refine qp ih ?_
  by_cases h:p k=true
  ·rw[if_pos h,if_pos h,List.length_append,List.length_singleton,List.flatMap_append,List.flatMap_cons,List.flatMap_nil,List.append_nil]
   exact⟨_,r k zZ zZ _ zZ _ (jH D _),rfl⟩
  ·rw[if_neg h,if_neg h,List.append_nil]
   exact rfl
def yQ(n:Nat)(cs:List T):List ah:=if n=0 then []else [⟨n,.cells cs 0 false⟩]
def slR(n:Nat):T:=if n=0 then .nilsl else .isl .S 2 n 0 n 6
def slK(k n:Nat):T:=if n=0 then .nilsl else .isl .S k n 0 n 5
theorem aeo(hd:List T)(iz:T)(sn:List T)(n:Nat)(cs:List T):Z4 hd iz sn n cs=Z5 hd iz (slR n) sn (yQ n cs) 0 []:=by
 unfold Z4 Z5 slR yQ
 simp
theorem aep(hd:List T)(iz r:T)(sn:List T)(P:List ah)(n:Nat)(cs:List T):Z5 hd iz r sn P n cs=YH hd iz r (slK (2+P.length) n) sn (P++yQ n cs) []:=by
 unfold Z5 YH slK yQ
 simp
theorem aeq(hd:List T)(iz:T)(sn:List T):rQ hd iz sn=Z4 hd iz sn 0 []:=by
 unfold rQ Z4
 simp
def axD(b:Nat→Int):List ah:=
 YH (Kh b) (Rl b) (slR (mC b).ru.length) (slK (2+(yQ (mC b).ru.length ((mC b).ru.flatMap FT)).length) (mC b).co.length) snU (yQ (mC b).ru.length ((mC b).ru.flatMap FT)++yQ (mC b).co.length ((mC b).co.flatMap Kj)) ((mC b).cr.flatMap fw)
theorem amn(b:Nat→Int):vq (Rj b) kS0 (axD b):=by
 unfold Rj
 have h0:=aml b
 have h1:=L6 mQ jK FT 6 (Z4 (Kh b) (Rl b) snU) (fun u=>by unfold FT;rw[List.length_cons,List.length_cons,oP]) rfl zz (fun i h1 _ n D cs r=>aDz _ _ _ _ _ _ _ _ _ i h1 n D cs r) (yM b) 18 zz
 have e1:mQ.take 18=mQ:=rfl
 have e2:jK.take 18=jK:=rfl
 rw[e1,e2,aeo _ _ _ (cX (yM b) 0 jK).length]at h1
 rw[aeq]at h0
 have I:(yQ (cX (yM b) 0 jK).length ((cX (yM b) 0 jK).flatMap FT)).length≤1:=by unfold yQ;split <;> simp
 have h2:=L6 mU iS Kj 5 (Z5 (Kh b) (Rl b) (slR (cX (yM b) 0 jK).length) snU (yQ (cX (yM b) 0 jK).length ((cX (yM b) 0 jK).flatMap FT))) (fun u=>by unfold Kj;rw[List.length_cons,oP]) rfl zz (fun i h1 _ n D cs r=>aDA _ _ _ _ _ _ _ _ _ _ _ I i h1 n D cs r) (FM b) 10 zz
 have e3:mU.take 10=mU:=rfl
 have e4:iS.take 10=iS:=rfl
 rw[e3,e4,aep _ _ _ _ _ (cX (FM b) 0 iS).length]at h2
 refine qp (qp (qp h0 h1) h2) ?_
 have F:(yQ (cX (yM b) 0 jK).length ((cX (yM b) 0 jK).flatMap FT)++yQ (cX (FM b) 0 iS).length ((cX (FM b) 0 iS).flatMap Kj)).length≤2:=by
  have:(yQ (cX (FM b) 0 iS).length ((cX (FM b) 0 iS).flatMap Kj)).length≤1:=by unfold yQ;split <;> simp
  rw[List.length_append];omega
 show vq (crD b) _ (YH (Kh b) (Rl b) (slR (cX (yM b) 0 jK).length) (slK (2+(yQ (cX (yM b) 0 jK).length ((cX (yM b) 0 jK).flatMap FT)).length) (cX (FM b) 0 iS).length) snU (yQ (cX (yM b) 0 jK).length ((cX (yM b) 0 jK).flatMap FT)++yQ (cX (FM b) 0 iS).length ((cX (FM b) 0 iS).flatMap Kj)) ((crX b).flatMap fw))
 unfold crD crX
 by_cases h:b 41%4<3
 ·rw[if_pos h,if_pos h,List.flatMap_cons,List.flatMap_nil,List.append_nil]
  refine⟨_, ?_,rfl⟩
  have h3:(b 41%4).toNat<3:=zZ
  rw[show rO.getD (b 41%4).toNat []=rO[(b 41%4).toNat]'h3 from by rw[List.getD_eq_getElem?_getD,List.getElem?_eq_getElem h3];rfl,show uR.getD (b 41%4).toNat (.mk 1 2 [] [])=uR[(b 41%4).toNat]'h3 from by rw[List.getD_eq_getElem?_getD,List.getElem?_eq_getElem h3];rfl]
  exact axC _ _ _ _ _ _ _ _ _ _ _ _ F _ h3
 ·rw[if_neg h,if_neg h]
  exact rfl
def JF(n:Nat)(cs:List T):T:=if n=0 then .nilsl else .sl cs n false
theorem amo(x0 x1 x2 x3 x4 x5 x6 iz:T)(sn:List T)(hx:froz1 x0=true∧froz1 x1=true∧froz1 x2=true∧froz1 x3=true∧froz1 x4=true∧froz1 x5=true∧froz1 x6=true∧froz1 iz=true)(n m:Nat)(rs ks cr:List T)(hr:rs.length=n*6)(hk:ks.length=m*5)(hc:cr= []∨cr.length=4)(q:Nat)(lh:aE ah):
  ∃us,sJ q lh (YH [x0,x1,x2,x3,x4,x5,x6] iz (slR n) (slK (2+(yQ n rs).length) m) sn (yQ n rs++yQ m ks) cr) false [x0,x1,x2,x3,x4,x5,x6,iz,slR n,slK (2+(yQ n rs).length) m,if cr= []then .nilsl else .isl .S (2+(yQ n rs++yQ m ks).length) 1 0 1 4,.nilsl,.nilsl,.i .i64 0]=some ([x0,x1,x2,x3,x4,x5,x6,iz,JF n rs,JF m ks,JF (if cr= []then 0 else 1) cr,.nilsl,.nilsl,.i .i64 0],us):=by
 obtain⟨W,X,Y,Z,y4,y5,y6,y7⟩:=hx
 unfold YH slR slK yQ JF
 have F:cr≠ []→cr.length=1*4:=fun h=>by rw[hc.resolve_left h]
 have eR:=fun C D t=>Bh (m:=q) (lh:=lh) (s:=C::D::⟨n,.cells rs 0 false⟩::t) (k:=2) rfl hr
 have I:=fun C D t=>Bh (m:=q) (lh:=lh) (s:=C::D::⟨m,.cells ks 0 false⟩::t) (k:=2) rfl hk
 have O:=fun C D r t=>Bh (m:=q) (lh:=lh) (s:=C::D::r::⟨m,.cells ks 0 false⟩::t) (k:=3) rfl hk
 have R:=fun h C D t=>Bh (m:=q) (lh:=lh) (s:=C::D::⟨1,.cells cr 0 false⟩::t) (k:=2) rfl (F h)
 have U:=fun h C D r t=>Bh (m:=q) (lh:=lh) (s:=C::D::r::⟨1,.cells cr 0 false⟩::t) (k:=3) rfl (F h)
 have V:=fun h C D r r' t=>Bh (m:=q) (lh:=lh) (s:=C::D::r::r'::⟨1,.cells cr 0 false⟩::t) (k:=4) rfl (F h)
 have n1: ¬(1:Nat)=0:=zz
 by_cases hn:n=0 <;> by_cases hm:m=0 <;> by_cases qR:cr= []
 all_goals
  simp only[qA,hn,hm,qR,n1,W,X,Y,Z,y4,y5,y6,y7,eR,I,O,R,U,V]
  exact⟨_,rfl⟩
def pc(l:List Nat):Bool:=decide (l.length≤100)&&l.all fun c=>decide (32≤c)&&decide (c≤126)
theorem sZ{r:Int}(P:Int→Prop)(h0:P 0)(h1:P 1)(h2:P 2)(n:Int)(h:r=n%3):P r:=by
 have:r=0∨r=1∨r=2:=zZ
 rcases this with rfl|rfl|rfl <;> assumption
theorem lo0(n:Int):pc ([114,101,112,111,114,116,32]++AZ (n%3))=true:=sZ (fun r=>pc ([114,101,112,111,114,116,32]++AZ r)=true) zz zz zz n rfl
theorem lo1(n:Int):pc ([114,101,108,101,97,115,101,32]++Ec (n%3))=true:=sZ (fun r=>pc ([114,101,108,101,97,115,101,32]++Ec r)=true) zz zz zz n rfl
theorem lo2(n:Int):pc ([99,111,110,110,101,99,116,32]++wD (n%3))=true:=sZ (fun r=>pc ([99,111,110,110,101,99,116,32]++wD r)=true) zz zz zz n rfl
theorem lo3(n:Int):pc ([115,105,116,32]++RI (n%3))=true:=sZ (fun r=>pc ([115,105,116,32]++RI r)=true) zz zz zz n rfl
theorem lo4(n:Int):pc ([108,97,121,111,118,101,114,32]++hv4 (n%3))=true:=sZ (fun r=>pc ([108,97,121,111,118,101,114,32]++hv4 r)=true) zz zz zz n rfl
theorem lo5(n:Int):pc ([110,105,103,104,116,32]++Ri (n%3))=true:=sZ (fun r=>pc ([110,105,103,104,116,32]++Ri r)=true) zz zz zz n rfl
theorem lo6(n:Int):pc ([99,111,110,115,116,32,115,104,105,102,116,115,32,105,115,32]++hv6 (n%3))=true:=sZ (fun r=>pc ([99,111,110,115,116,32,115,104,105,102,116,115,32,105,115,32]++hv6 r)=true) zz zz zz n rfl
theorem amp(b:Nat→Int): ∀l∈Rj b,pc l=true:=by
 have hr:mQ.all pc=true:=by decide+kernel
 have hk:mU.all pc=true:=by decide+kernel
 have hc:rO.all pc=true:=by decide+kernel
 intro l hl
 unfold Rj at hl
 rcases List.mem_append.1 hl with hl|hl
 ·rcases List.mem_append.1 hl with hl|hl
  ·rcases List.mem_append.1 hl with hl|hl
   ·unfold Z3 at hl
    simp only[List.mem_cons,List.not_mem_nil,or_false]at hl
    rcases hl with rfl|rfl|rfl|rfl|rfl|rfl|rfl
    ·exact lo0 _
    ·exact lo1 _
    ·exact lo2 _
    ·exact lo3 _
    ·exact lo4 _
    ·exact lo5 _
    ·exact lo6 _
   ·exact List.all_eq_true.1 hr l ((dW _ _ _).subset hl)
  ·exact List.all_eq_true.1 hk l ((dW _ _ _).subset hl)
 ·unfold crD at hl
  split at hl
  ·rename_i h
   rw[List.mem_singleton]at hl
   subst hl
   have r:(b 41%4).toNat<rO.length:=by show(b 41%4).toNat<3;omega
   rw[List.getD_eq_getElem?_getD,List.getElem?_eq_getElem r]
   exact List.all_eq_true.1 hc _ (List.getElem_mem r)
  ·simp at hl
theorem Ov(b:Nat→Int):(Rj b).length≤100:=by
 unfold Rj crD
 have h1:=(dW (yM b) 0 mQ).length_le
 have h2:=(dW (FM b) 0 mU).length_le
 have e1:mQ.length=18:=rfl
 have e2:mU.length=10:=rfl
 have e3:(Z3 b).length=7:=rfl
 simp only[List.length_append]
 split <;> simp <;> omega
theorem amq(b:Nat→Int):Yy (j6 (Rj b))∧ ∀l∈Rj b,10∉l:=aeg (Rj b) (fun l hl=>by
 have h:=amp b l hl
 unfold pc at h
 simp only[Bool.and_eq_true,decide_eq_true_eq,List.all_eq_true]at h
 exact h) (Ov b)
theorem FV{n:Nat}{cs:List T}(h:n=0→cs= []):IsSl (JF n cs) n cs:=fj h
theorem DL: ∀l:List Ex,l.flatMap fw=pF l
 | []=>by rw[pF];rfl
 |x::l=>by rw[pF,List.flatMap_cons,DL l]
theorem YP(l:List Ex):cw l (l.flatMap fw):=DL l
theorem ahU(b:Nat→Int):kP (mC b) (Rl b) (JF (mC b).ru.length ((mC b).ru.flatMap FT)) (JF (mC b).co.length ((mC b).co.flatMap Kj)) (JF (mC b).cr.length ((mC b).cr.flatMap fw)) .nilsl .nilsl:=by
 refine⟨?_, ?_, ?_, ?_, ?_, ?_⟩
 ·refine⟨.s sN::fw (mL (kB b 6)),.inr ⟨_,rfl⟩, ?_⟩
  show cW [(sN,mL (kB b 6))] _
  rw[cW]
  exact⟨fw (mL (kB b 6)),[],by simp,L4 _,by rw[cW]⟩
 ·exact⟨_,FV fun h=>by rw[List.length_eq_zero_iff.1 h];rfl,JC _⟩
 ·exact⟨_,FV fun h=>by rw[List.length_eq_zero_iff.1 h];rfl,JD _⟩
 ·exact⟨_,FV fun h=>by rw[List.length_eq_zero_iff.1 h];rfl,YP _⟩
 ·exact⟨[],.inl ⟨rfl,rfl,rfl⟩,rfl⟩
 ·exact⟨[],.inl ⟨rfl,rfl,rfl⟩,rfl⟩
theorem amr(b:Nat→Int):fR (mC b)=0:=by
 have h:=alW b
 unfold eV at h
 by_cases hg:fR (mC b)=0
 ·exact hg
 ·rw[if_pos hg]at h;exact h
theorem ahV{u:Ru}(h:u∈jK):u.x.sm:=List.mem_append_left _ (List.mem_append_left _ (List.mem_append_left _ (List.mem_map_of_mem h)))
theorem ahW{u:Co}(h:u∈iS):u.x.sm:=List.mem_append_left _ (List.mem_append_left _ (List.mem_append_right _ (List.mem_map_of_mem h)))
theorem ahX{x:Ex}(h:x∈uR):x.sm:=List.mem_append_left _ (List.mem_append_right _ h)
theorem ahY{j:Nat}(h:j≤2):(mL j).sm:=List.mem_append_right _ (three (fun j=>mL j∈shB) (by simp[mL,shB]) (by simp[mL,shB]) (by simp[mL,shB]) h)
theorem YQ(k:Nat→Nat)(hk: ∀i,k i≤2)(D:List Ru)(F:List Co)(cr:List Ex)(h1:D.Sublist jK)(h2:F.Sublist iS)(h3: ∀x∈cr,x∈uR):Ds (iy k D F cr):=by
 refine⟨fun c hc=> ?_,fun u r=>⟨Nat.zero_le _,ahV (h1.subset r)⟩,fun u r=>⟨Nat.zero_le _,ahW (h2.subset r)⟩,fun x hx=>⟨Nat.zero_le _,ahX (h3 x hx)⟩,⟨k 6,hk 6,rfl⟩,fun u r=>List.mem_append_left _ (List.mem_append_left _ (List.mem_map_of_mem (f:=fun u:Ru=>(u.sc,u.x)) (h1.subset r))),fun u r=>List.mem_append_left _ (List.mem_append_right _ (List.mem_map_of_mem (f:=fun u:Co=>(u.sc,u.x)) (h2.subset r))),fun x hx=>List.mem_append_right _ (List.mem_map_of_mem (f:=fun x:Ex=>((1:Int),x)) (h3 x hx))⟩
 have hc:c=(sN,mL (k 6)):=List.mem_singleton.1 hc
 subst hc
 exact⟨Nat.zero_le _,ahY (hk 6)⟩
def kW(b:Nat→Int):List T:=aV (mC b) (Rl b) (JF (mC b).ru.length ((mC b).ru.flatMap FT)) (JF (mC b).co.length ((mC b).co.flatMap Kj)) (JF (mC b).cr.length ((mC b).cr.flatMap fw)) .nilsl .nilsl
theorem axE(b:Nat→Int): ∃s,ae pE 64 [.s (j6 (Rj b))] []=some (.tup [.agg (kW b),.i .i64 0,.i .i64 0],s):=by
 obtain⟨O,R⟩:=amq b
 have hl:=Ov b
 have U:Ds (mC b):=YQ _ (sg b) _ _ _ (dW _ _ _) (dW _ _ _) (Bl b).1
 have hg:=amr b
 have hs:kz (mC b)=true:=by
  by_cases h:kz (mC b)=true
  ·exact h
  ·unfold fR at hg
   simp[h]at hg
   split at hg <;> simp at hg
 have hv:=JG (mC b) _ _ _ _ _ _ (ahU b) (U.sm hs)
 rw[hg]at hv
 have D:(mC b).cr.length≤1:=(Bl b).2
 have hc:(mC b).cr.flatMap fw= []∨((mC b).cr.flatMap fw).length=4:=by
  cases h:(mC b).cr with
  |nil=>exact .inl rfl
  |cons x r=>
   rw[h]at D
   have:r= []:=List.length_eq_zero_iff.1 (by simpa using D)
   subst this
   exact .inr (by simp[oP])
 have I:=fun q lh=>amo (iz:=Rl b) (sn:=snU) (x0:= .i .i64 (rpB (kB b 0))) (x1:= .i .i64 (rlB (kB b 1))) (x2:= .i .i64 (Rg (kB b 2))) (x3:= .i .i64 (EC (kB b 3))) (x4:= .i .i64 (lyB (kB b 4))) (x5:= .i .i64 (nfB (kB b 5))) (x6:= .i .i64 (ntB (kB b 5))) (hx:=⟨rfl,rfl,rfl,rfl,rfl,rfl,rfl,rfl⟩) (n:=(mC b).ru.length) (m:=(mC b).co.length) (rs:=(mC b).ru.flatMap FT) (ks:=(mC b).co.flatMap Kj) (cr:=(mC b).cr.flatMap fw) (hr:=jH (fun u=>by unfold FT;rw[List.length_cons,List.length_cons,oP]) _) (hk:=jH (fun u=>by unfold Kj;rw[List.length_cons,oP]) _) (hc:=hc) (q:=q) (lh:=lh)
 have F:(if(mC b).cr.flatMap fw= []then 0 else 1)=(mC b).cr.length:=by
  cases h:(mC b).cr with
  |nil=>rfl
  |cons x r=>
   rw[h]at D
   have:r= []:=List.length_eq_zero_iff.1 (by simpa using D)
   subst this
   obtain⟨d,e,_⟩:=vt x
   rw[List.flatMap_cons,e]
   rfl
 simp only[F]at I
 have ha:=amn b
 unfold axD at ha
 exact YJ (Rj b) O R zZ _ (kW b) _ rfl (fun q lh=>I q lh) ha _ hv
theorem ams(xs:List Int)(la:T)(hl:IsSl la xs.length (ints xs)):ae pE 25 [la] []=some (.agg (kW (bE xs)),[]):=by
 obtain⟨s,O⟩:=axE (bE xs)
 have R:=aek xs la hl
 have U:=hl.froz
 have r:(kW (bE xs)).length=14:=rfl
 have h1:(kW (bE xs)).all froz1=true:=by
  unfold kW aV Rl JF
  repeat' split
  all_goals rfl
 have D:(kW (bE xs)).take 14=kW (bE xs):=by rw[←r];exact List.take_length
 have F:=mD [T.i IntKind.i64 0,T.i IntKind.i64 0,T.i IntKind.i64 0,T.i IntKind.i64 0,T.i IntKind.i64 0,T.i IntKind.i64 0,T.i IntKind.i64 0,T.nilsl,T.nilsl,T.nilsl,T.nilsl,T.nilsl,T.nilsl,T.i IntKind.i64 0] (kW (bE xs)) (by rw[r];rfl)
 generalize kW (bE xs)=cs at*
 have I:=fun m lh sh keep=>AA (m:=m) (lh:=lh) (sh:=sh) (keep:=keep) h1
 rw[av aiI (by simp[c25])]
 simp(maxDischargeDepth:=6) only[qA,seval,c25,R,O,U,aAK,aAJ,r,D,F,I]
end Go.Proofs.YtnkgnjecmfkcfaaGreat
namespace Go.Ev
open Go
def L7(lh:aE ah)(sh:List ah)(args:List T):List (Sp×Nat):=(bf (fz false aJ) args).log (St.mk .nil lh sh).get sh.length
theorem Rm(r:List (Sp×Nat)):eu r []=true:=by unfold eu;rw[List.all_eq_true];intro x _;rfl
theorem Ow{E:Env}{call:jB}{n:Nat}{fr:Fr}{lh:aE ah}{sh:List ah}{ds:List (List Nat×aF)}{bo:List FP}{u:List Nat}{d:Option Nat}{f:Nat}{af:aj}{r:List aP}{args:List T}(F:E.fn f=some af)(he:af.eff=false)(I:af.own=none)(ha:r.map (rd fr)=args){q:List T×List Up}(D:yn lh sh false args=some q){v:T}{s:List ah}(hc:call f q.1 []=some (v,s)){w:List (Sp×Nat)}(hv:(if scalar v=true then []else cS q.2)=w):
  aK E call n ((u,⟨d,.callf f r,none⟩)::ds) bo ⟨fr,lh,sh⟩=if meets u bo ⟨false,L7 lh sh args,w⟩=true then ke E call n ds (bo++ [⟨false,L7 lh sh args,w⟩]) (ai E call n [⟨d,.callf f r,none⟩] ⟨fr,lh,sh⟩)else none:=by
 subst ha hv
 refine mJ fun O=> ?_
 unfold bL ev
 have R:bw (St.mk fr lh sh).rho (.callf f r)=some (some (f,r.map (rd fr))):=by rw[dh];rfl
 unfold yn at D
 unfold L7
 rw[←lE (fr:=fr)]at D ⊢
 simp only[R,F,he,D]
 have U:inB (St.mk fr lh sh) q.2=true:=uI (fun t p h=>Le _ _ t p h) _ _ D
 simp only[U,Bool.not_true,Bool.false_eq_true,if_false,I,hc]
end Go.Ev
namespace Go.Proofs.YtnkgnjecmfkcfaaGreat
open Go Go.Ev
def baT:T:= .sl [.s [65,65,65],.s [66,66,66]] 2 true
theorem amu:ae pE 26 [] []=some (baT,[]):=by
 rw[av aiJ (by simp[c26])]
 unfold baT
 simp(maxDischargeDepth:=6) only[qA,seval,c26,repl]
theorem YR{q:aE ah}{v:T}{k:Nat}{cs:List T}(h:bh q v k 1 60 cs): ∃g r,v= .isl .L k g 0 60 1∧ab q k=⟨g,.cells cs r false⟩∧ ∀(lh:aE ah) (sh:List ah) (keep:Bool),ab lh k=⟨g,.cells cs r false⟩→fzV lh sh keep (.isl .L k g 0 60 1)=some (bG 60 cs,[(.L,k,⟨g,.cells cs cs.length false⟩)]):=by
 rcases h with⟨h0,_⟩|⟨g,r,rfl,ho,hl,hp⟩
 ·cases h0
 ·refine⟨g,r,rfl,ho,fun lh sh keep hg=> ?_⟩
  have D:bh lh (.isl .L k g 0 60 1) k 1 60 cs:=Or.inr ⟨g,r,rfl,hg,hl,hp⟩
  rw[D.fzV]
  unfold fzU
  simp only[hg]
section
variable(xs:List Int)(la:T)(hl:IsSl la xs.length (ints xs))
include hl
def tA(xs:List Int):Nat→Int:=bE (atR (bE xs) 60)
def BM(xs:List Int):Nat→Int:=bE (atR (fun i=>bE xs (60+i)) 60)
def oA(xs:List Int):Nat→Int:=bE (atR (fun i=>bE xs (120+i)) 60)
def Rn(xs:List Int):T:=bG (po (tA xs)) ((mB (tA xs)).fl.flatMap sV)
def oTB(xs:List Int):T:=bG (FL (oA xs) (po (tA xs))).length (ints ((FL (oA xs) (po (tA xs))).map Int.ofNat))
omit hl in
theorem FW(xs:List Int):IsSl (Rn xs) (po (tA xs)) ((mB (tA xs)).fl.flatMap sV):=fj fun h=>by
 have:=mP (tA xs);omega
omit hl in
theorem vu(xs:List Int):IsSl (oTB xs) (FL (oA xs) (po (tA xs))).length (ints ((FL (oA xs) (po (tA xs))).map Int.ofNat)):=fj fun h=>by
 rw[List.length_eq_zero_iff.1 h];rfl
theorem aer:ae pE 7 [la] []=some (.tup [.agg [BK,BL,Rn xs],.agg (kW (BM xs)),baT,oTB xs],[]):=by
 have hL:=fun fr lh sh=>aDs xs la hl fr lh sh
 have hz:=hl.froz
 have h6:=fun(f:Nat→Int)=>Oq f 60
 have I: ∀f:Nat→Int,IsSl (bG 60 (ints (atR f 60))) (atR f 60).length (ints (atR f 60)):=fun f=>by
  rw[Oq];exact fj fun h=>by cases h
 obtain⟨v,e1,hv⟩:=al4 (atR (bE xs) 60) _ (I _)
 have e2:=ams _ _ (I fun i=>bE xs (60+i))
 have F:=FW xs
 have e3:=al5 _ _ (I fun i=>bE xs (120+i)) BK BL (Rn xs) _ _ F (by have:=mP (tA xs);omega) ⟨rfl,rfl,F.froz1⟩
 have e4:=amu
 have O:v=Rn xs:=hv
 subst O
 have e3:ae pE 27 [.agg [BK,BL,Rn xs],bG 60 (ints (atR (fun i=>bE xs (120+i)) 60))] []=some (oTB xs,[]):=e3
 have e2:ae pE 25 [bG 60 (ints (atR (fun i=>bE xs (60+i)) 60))] []=some (.agg (kW (BM xs)),[]):=e2
 have z1:froz1 BK=true:=rfl
 have z2:froz1 BL=true:=rfl
 have z3:=F.froz1
 have z4:=(vu xs).froz1
 have z5:froz1 baT=true:=rfl
 have z6:froz (oTB xs)=true:=(vu xs).froz
 have k3:froz (Rn xs)=true:=F.froz
 have r:(kW (BM xs)).length=14:=rfl
 have yL:(kW (BM xs)).all froz1=true:=by
  unfold kW aV Rl JF
  repeat' split
  all_goals rfl
 have R:kW (BM xs)=(kW (BM xs)).take 14:=(List.take_length (l:=kW (BM xs))).symm
 have U:=mD [T.i IntKind.i64 0,T.i IntKind.i64 0,T.i IntKind.i64 0,T.i IntKind.i64 0,T.i IntKind.i64 0,T.i IntKind.i64 0,T.i IntKind.i64 0,T.nilsl,T.nilsl,T.nilsl,T.nilsl,T.nilsl,T.nilsl,T.i IntKind.i64 0] (kW (BM xs)) (by rw[r];rfl)
 generalize oTB xs=oT at*
 generalize Rn xs=fT at*
 generalize BK=zT at*
 generalize BL=aT at*
 generalize baT=bT at*
 generalize kW (BM xs)=cs at*
 have V:cs.take 14=cs:=R.symm
 have W:=fun m lh sh keep=>AA (m:=m) (lh:=lh) (sh:=sh) (keep:=keep) yL
 rw[av fn7 (by simp[c7])]
 simp(maxDischargeDepth:=6) only[qA,seval,c7]
 generalize hD:DC pE 44 (.loop Cj) _=D
 obtain⟨f2,l2,s2,rfl,⟨rfl,hA,hB,hC,o2,o3⟩,X⟩:=sa Mv hD (hL _ _ _ yW yW yW yW yW)
 have q2:aa f2 2= .ptr .L 2 1 0:=by rw[X 2 zz];simp only[qA,seval]
 have q3:aa f2 3= .ptr .L 3 1 0:=by rw[X 3 zz];simp only[qA,seval]
 have Y:ab l2 2=⟨1,.cells [.nilsl,.nilsl,.nilsl] 0 true⟩:=by rw[o2];simp only[qA,seval]
 have Z:ab l2 3=⟨1,.cells [T.i IntKind.i64 0,T.i IntKind.i64 0,T.i IntKind.i64 0,T.i IntKind.i64 0,T.i IntKind.i64 0,T.i IntKind.i64 0,T.i IntKind.i64 0,T.nilsl,T.nilsl,T.nilsl,T.nilsl,T.nilsl,T.nilsl,T.i IntKind.i64 0] 0 true⟩:=by rw[o3];simp only[qA,seval]
 obtain⟨gA,wA,vA,oA',zA⟩:=YR hA
 obtain⟨gB,wB,vB,oB',zB⟩:=YR hB
 obtain⟨gC,wC,vC,oC',zC⟩:=YR hC
 clear X hL hA hB hC o2 o3 hD
 generalize bG 60 (ints (atR (bE xs) 60))=xA at*
 generalize bG 60 (ints (atR (fun i=>bE xs (60+i)) 60))=xB at*
 generalize bG 60 (ints (atR (fun i=>bE xs (120+i)) 60))=xC at*
 generalize ints (atR (bE xs) 60)=cA at*
 generalize ints (atR (fun i=>bE xs (60+i)) 60)=cB at*
 generalize ints (atR (fun i=>bE xs (120+i)) 60)=cC at*
 have d39: ∀fr lh ds bo (u:List Nat),aa fr 38= .isl .L 27 gB 0 60 1→ab lh 27=⟨gB,.cells cB wB false⟩→aK pE (ae pE) 44 ((u,⟨some 39,.callf 25 [.t 38],none⟩)::ds) bo ⟨fr,lh,[]⟩=if meets u bo ⟨false,L7 lh [] [.isl .L 27 gB 0 60 1],[(.L,27)]⟩=true then ke pE (ae pE) 44 ds (bo++ [⟨false,L7 lh [] [.isl .L 27 gB 0 60 1],[(.L,27)]⟩]) (ai pE (ae pE) 44 [⟨some 39,.callf 25 [.t 38],none⟩] ⟨fr,lh,[]⟩)else none:=by
  intro fr lh ds bo u g1 g2
  refine Ow aiI rfl rfl (by simp only[qA,seval,g1]) (q:=([xB],[(.L,27,⟨gB,.cells cB cB.length false⟩)])) ?_ e2 rfl
  simp(maxDischargeDepth:=6) only[qA,seval,zB,g2]
 have d43: ∀fr lh ds bo (u:List Nat),aa fr 41= .agg [zT,aT,fT]→aa fr 42= .isl .L 34 gC 0 60 1→ab lh 34=⟨gC,.cells cC wC false⟩→aK pE (ae pE) 44 ((u,⟨some 43,.callf 27 [.t 41,.t 42],none⟩)::ds) bo ⟨fr,lh,[]⟩=if meets u bo ⟨false,L7 lh [] [.agg [zT,aT,fT],.isl .L 34 gC 0 60 1],if scalar oT=true then []else [(.L,34)]⟩=true then ke pE (ae pE) 44 ds (bo++ [⟨false,L7 lh [] [.agg [zT,aT,fT],.isl .L 34 gC 0 60 1],if scalar oT=true then []else [(.L,34)]⟩]) (ai pE (ae pE) 44 [⟨some 43,.callf 27 [.t 41,.t 42],none⟩] ⟨fr,lh,[]⟩)else none:=by
  intro fr lh ds bo u g1 g2 g3
  refine Ow aiK rfl rfl (by simp only[qA,seval,g1,g2]) (q:=([.agg [zT,aT,fT],xC],[(.L,34,⟨gC,.cells cC cC.length false⟩)])) ?_ e3 rfl
  simp(maxDischargeDepth:=6) only[qA,seval,zC,g3,z1,z2,z3]
 by_cases hs:scalar oT=true
 all_goals simp(maxDischargeDepth:=6) only[qA,bj,AJ,AK,seval,aH,q2,q3,Y,Z,vA,vB,vC,oA',oB',oC',zA,zB,zC,e1,e2,e3,e4,d39,d43,aAr,aAs,aAt,aAu,aAv,z1,z2,z3,z4,z5,r,V,U,W,yL,Rm,hs]
end
section
variable(o1 o2:List Lg)(x y:T)(hx:alD o1 x)(hy:alD o2 y)(m1: ∀g∈o1,g.du.length≤6)(m2: ∀g∈o2,g.du.length≤6)(l1:o1.length≤1000000000)(l2:o2.length≤1000000000)
include hx hy m1 m2 l1 l2
end
end Go.Proofs.YtnkgnjecmfkcfaaGreat
namespace Go.Ev
open Go
end Go.Ev
namespace Go.Proofs.YtnkgnjecmfkcfaaGreat
open Go Go.Ev
section
end
theorem JH: ∀l:List Fl,aC RR l (l.flatMap sV)
 | []=>rfl
 |u::l=>⟨_,_,rfl,rfl,JH l⟩
theorem YS(xs:List Int):ky (mB (tA xs)) BK BL (Rn xs):=by
 refine⟨⟨_,.inr ⟨_,rfl⟩, ?_⟩,⟨_,.inr ⟨_,rfl⟩, ?_⟩,⟨_, ?_,JH _⟩⟩
 ·exact⟨[_,_,_],_,rfl,⟨.nilsl,[],rfl,.inl ⟨rfl,rfl,rfl⟩,rfl⟩,[_,_,_],_,rfl,⟨_,_,rfl,.inr ⟨_,rfl⟩,[_,_],[_,_],rfl,rfl,[_,_],[],rfl,rfl,rfl⟩,[_,_,_],_,rfl,⟨_,_,rfl,.inr ⟨_,rfl⟩,[_,_],[],rfl,rfl,rfl⟩,rfl⟩
 ·exact⟨[_,_],_,rfl,rfl,[_,_],_,rfl,rfl,[_,_],_,rfl,rfl,rfl⟩
 ·rw[oZ];exact FW xs
theorem axF(xs:List Int):TtA (mB (tA xs)):=by
 have F:=mP (tA xs)
 have hl:=oZ (tA xs)
 refine⟨⟨?_, ?_⟩, ?_,by rw[hl];unfold fX;omega, ?_⟩
 ·show∀u∈Yq,u.sh.length≤fX
  unfold Yq fX
  simp
 ·show Yq.length≤fX
  unfold Yq fX
  simp
 ·show Re.length≤fX
  unfold Re fX
  simp
 ·have D: ∀(a:Nat→Int) (m i x:Nat) (r:Int),∀f∈iO a m i x r,f.nu.length=2:=by
   intro a m
   induction m with
   |zero=>intro i x r f hf;simp[iO]at hf
   |succ m ih=>
    intro i x r f hf
    rw[iO]at hf
    rcases List.mem_cons.1 hf with rfl|hf
    ·rfl
    ·exact ih _ _ _ f hf
  intro f hf
  rw[D _ _ _ _ _ f hf]
  unfold fX
  omega
section
variable(d e:List (Int×Bool))(a b:T)(ha:IsSl a d.length (lP d))(hb:IsSl b e.length (lP e))(hd:d.length≤1000)(he:e.length≤1000)
include ha hb hd
include he
end
def XQ(d:List (Int×Bool)):Nat:=(d.filter Prod.snd).length
theorem Br(k:Int×Bool)(d:List (Int×Bool)):XQ (k::d)=(if k.2=true then 1 else 0)+XQ d:=by
 unfold XQ
 rw[List.filter_cons]
 split <;> simp <;> omega
def aDD(l:List Lg):Prop:=l.Pairwise fun a b=>aDh a.du b.du<0
section
variable(N:Nat)(J:Nat→Nat→Bool)(ch:Nat→Bool)(ok:List (Int×Bool)→Bool)(lg:List (Int×Bool)→Lg)(RZ: ∀x,(lg x).du=x)
def TkF:Nat→List (Int×Bool)→Prop
 |_,[]=>False
 |f,[k]=>f<N∧k.1=(f:Int)∧(k.2=false→ch f=true)
 |f,k::l::r=>f<N∧k.1=(f:Int)∧(k.2=false→ch f=true)∧ ∃g,J f g=true∧TkF g (l::r)
include RZ
theorem FX: ∀(n:Nat) (d:List (Int×Bool)) (f h:Nat),f<N→ ∀g,g∈ed N J ch ok lg n d f h↔ ∃y,TkF N J ch f y∧y.length≤n∧XQ y≤h∧ok (d++y)=true∧g=lg (d++y)
 |0,d,f,h,U,g=>by
  have _:=RZ
  rw[ed]
  constructor
  ·intro h;cases h
  ·rintro⟨y,h1,h2,_⟩
   cases y with
   |nil=>exact h1.elim
   |cons k r=>simp at h2
 |n+1,d,f,h,U,g=>by
  have one: ∀(b:Bool) (h:Nat),(b=false→ch f=true)→(g∈rL N J ok lg (ed N J ch ok lg n) (d++ [((f:Int),b)]) f h↔ ∃y,TkF N J ch f (((f:Int),b)::y)∧y.length≤n∧XQ y≤h∧ok (d++(((f:Int),b)::y))=true∧g=lg (d++(((f:Int),b)::y))):=by
   intro b h hb
   unfold rL
   rw[List.mem_append,List.mem_flatMap]
   constructor
   ·rintro(h1|⟨x,h1,h2⟩)
    ·split at h1
     ·rename_i h3
      rw[List.mem_singleton]at h1
      exact⟨[],⟨U,rfl,hb⟩,Nat.zero_le _,Nat.zero_le _,h3,h1⟩
     ·cases h1
    ·obtain⟨h3,h4⟩:=List.mem_filter.1 h1
     obtain⟨y,D,R,O,F,I⟩:=(FX n _ x h (List.mem_range.1 h3) g).1 h2
     rw[List.append_assoc,List.singleton_append]at F I
     refine⟨y, ?_,R,O,F,I⟩
     cases y with
     |nil=>exact D.elim
     |cons l r=>exact⟨U,rfl,hb,x,h4,D⟩
   ·rintro⟨y,D,R,O,F,I⟩
    cases y with
    |nil=>
     refine Or.inl ?_
     rw[if_pos F]
     exact List.mem_singleton.2 I
    |cons l r=>
     obtain⟨_,_,_,x,h4,D⟩:=D
     have hx:x<N:=by
      cases r with
      |nil=>exact D.1
      |cons _ _=>exact D.1
     refine Or.inr ⟨x,List.mem_filter.2 ⟨List.mem_range.2 hx,h4⟩,(FX n _ x h hx g).2 ⟨l::r,D,R,O, ?_, ?_⟩⟩
     ·rw[List.append_assoc,List.singleton_append];exact F
     ·rw[List.append_assoc,List.singleton_append];exact I
  have hd: ∀y,TkF N J ch f y→ ∃b V,y=((f:Int),b)::V∧(b=false→ch f=true):=by
   intro y hy
   match y,hy with
   | [(a,b)],⟨_,h1,h2⟩=>exact⟨b,[],by rw[←h1],h2⟩
   |(a,b)::l::r,⟨_,h1,h2,_⟩=>exact⟨b,l::r,by rw[←h1],h2⟩
  rw[ed,List.mem_append]
  constructor
  ·rintro(h1|h1)
   ·split at h1
    ·rename_i h2
     obtain⟨y,D,R,O,F,I⟩:=(one false h fun _=>h2).1 h1
     exact⟨_,D,by rw[List.length_cons];omega,by rw[Br];simpa using O,F,I⟩
    ·cases h1
   ·split at h1
    ·cases h1
    ·rename_i h2
     obtain⟨y,D,R,O,F,I⟩:=(one true (h-1) zP).1 h1
     exact⟨_,D,by rw[List.length_cons];omega,by rw[Br];simp;omega,F,I⟩
  ·rintro⟨y,D,R,O,F,I⟩
   obtain⟨b,y,rfl,hb⟩:=hd y D
   rw[List.length_cons]at R
   rw[Br]at O
   cases b
   ·refine Or.inl ?_
    rw[if_pos (hb rfl)]
    exact(one false h hb).2 ⟨y,D,by omega,by simpa using O,F,I⟩
   ·refine Or.inr ?_
    simp at O
    rw[if_neg zZ]
    exact(one true (h-1) hb).2 ⟨y,D,by omega,by omega,F,I⟩
theorem amv(H:Nat)(g:Lg):g∈jP N J ch ok lg H↔ ∃f y,f<N∧TkF N J ch f y∧y.length≤6∧XQ y≤H∧ok y=true∧g=lg y:=by
 unfold jP
 rw[List.mem_flatMap]
 constructor
 ·rintro⟨f,h1,h2⟩
  obtain⟨y,r,D,F,I,O⟩:=(FX N J ch ok lg RZ 6 [] f H (List.mem_range.1 h1) g).1 h2
  exact⟨f,y,List.mem_range.1 h1,r,D,F,I,O⟩
 ·rintro⟨f,y,R,r,D,F,I,O⟩
  exact⟨f,List.mem_range.2 R,(FX N J ch ok lg RZ 6 [] f H R g).2 ⟨y,r,D,F,I,O⟩⟩
end
theorem Ox{N:Nat}{J:Nat→Nat→Bool}{ch:Nat→Bool}: ∀{f:Nat} {y:List (Int×Bool)},TkF N J ch f y→1≤y.length∧(∀k∈y,lK N k.1=true)∧ ∀k∈y,k.2=false→ch k.1.toNat=true
 |_,[],h=>h.elim
 |f,[k],⟨h1,h2,h3⟩=>by
  refine⟨by simp, ?_, ?_⟩
  ·intro q hq
   rw[List.mem_singleton.1 hq,h2]
   unfold lK;rw[decide_eq_true_eq];omega
  ·intro q hq hb
   rw[List.mem_singleton.1 hq]at hb ⊢
   rw[h2];exact h3 hb
 |f,k::l::r,⟨h1,h2,h3,g,h4,h5⟩=>by
  obtain⟨I,D,F⟩:=Ox h5
  refine⟨by simp, ?_, ?_⟩
  ·intro q hq
   rcases List.mem_cons.1 hq with rfl|hq
   ·rw[h2];unfold lK;rw[decide_eq_true_eq];omega
   ·exact D q hq
  ·intro q hq hb
   rcases List.mem_cons.1 hq with rfl|hq
   ·rw[h2];exact h3 hb
   ·exact F q hq hb
theorem YT{N:Nat}{J:Nat→Nat→Bool}{ch:Nat→Bool}{f:Nat}{l:Int×Bool}{r:List (Int×Bool)}(h:TkF N J ch f (l::r)):l.1=(f:Int)∧f<N:=by
 cases r with
 |nil=>exact⟨h.2.1,h.1⟩
 |cons _ _=>exact⟨h.2.1,h.1⟩
theorem YU(c:Ct)(fl:List Fl){ch:Nat→Bool}: ∀{f:Nat} {y:List (Int×Bool)},TkF fl.length (jn c fl) ch f y→pM c fl y=true
 |_,[],h=>h.elim
 |f,[k],h=>rfl
 |f,k::l::r,⟨h1,h2,h3,g,h4,h5⟩=>by
  obtain⟨e1,e2⟩:=YT h5
  rw[pM,YU c fl h5,Bool.and_true,h2,e1,nL c fl h1 e2,←NZ h1 e2]
  exact h4
theorem YV(c:Ct)(fl:List Fl){ch:Nat→Bool}: ∀(y:List (Int×Bool)),1≤y.length→(∀k∈y,lK fl.length k.1=true)→(∀k∈y,k.2=false→ch k.1.toNat=true)→pM c fl y=true→ ∃f,f<fl.length∧TkF fl.length (jn c fl) ch f y
 | [],h,_,_,_=>by simp at h
 | [k],_,h1,h2,_=>by
   obtain⟨f,D,F⟩:=mN (h1 k zP)
   refine⟨f,D,D,F,fun hb=> ?_⟩
   have:=h2 k zP hb
   rw[F]at this
   exact this
 |k::l::r,_,h1,h2,h3=>by
  rw[pM,Bool.and_eq_true]at h3
  obtain⟨f,D,F⟩:=mN (h1 k zP)
  obtain⟨g,R,O⟩:=YV c fl (l::r) zP (fun q I=>h1 q (List.mem_cons_of_mem _ I)) (fun q I=>h2 q (List.mem_cons_of_mem _ I)) h3.2
  obtain⟨e1,e2⟩:=YT O
  refine⟨f,D,D,F,fun hb=> ?_,g, ?_,O⟩
  ·have:=h2 k zP hb
   rw[F]at this
   exact this
  ·have:=h3.1
   rw[F,e1,nL c fl D e2]at this
   rw[NZ D e2]
   exact this
section
variable(ops:List Int)(oT:T)(ho:IsSl oT ops.length (ints ops))(hlo:ops.length≤1000)(d:List (Int×Bool))(dv:T)(hd:IsSl dv d.length (lP d))(hld:d.length≤1000)(rest:List T)(G:Nat)
include ho hlo hd hld
end
section
variable(t:Tt)(c:Ct)(zT aT fT a7 a8 a9 aw aA az:T)(hT:ky t zT aT fT)(hC:kP c a7 a8 a9 aw aA az)(hA:Ds c)(hk:eb t c=0)(ops:List Int)(oT:T)(ho:IsSl oT ops.length (ints ops))(hlo:ops.length≤1000)(H:Nat)(out:List Lg)(v:T)(hv:alD out v)(ki:out.length≤1000000000)
 (hg: ∀g∈out,fx c t.fl g.du=0∧jm t c g.du=true∧g=cD t c g.du∧XQ g.du≤H∧ ∀k∈g.du,k.2=false→k.1∈ops) (aln:aDD out)
include hT hC hA hk ho hlo hv ki hg aln
end
theorem aet{c:Ct}{fl:List Fl}{d:List (Int×Bool)}(h1:1≤d.length)(h2:d.length≤6)(h3: ∀k∈d,lK fl.length k.1=true)(h4:pM c fl d=true):fx c fl d=0:=by
 unfold fx
 rw[if_neg zZ,if_neg zZ,if_pos (List.all_eq_true.2 h3),if_pos h4]
theorem aeu(t:Tt)(c:Ct)(ops:List Int)(H:Nat)(g:Lg):g∈jP t.fl.length (jn c t.fl) (iw ops) (jm t c) (cD t c) H↔ ∃d,g=cD t c d∧fx c t.fl d=0∧jm t c d=true∧XQ d≤H∧ ∀k∈d,k.2=false→k.1∈ops:=by
 rw[amv _ _ _ _ _ (NQ t c)]
 constructor
 ·rintro⟨f,y,W,r,I,R,U,rfl⟩
  obtain⟨O,D,F⟩:=Ox r
  refine⟨y,rfl,aet O I D (YU c t.fl r),U,R,fun k hk hb=> ?_⟩
  have h:=F k hk hb
  obtain⟨n,_,e⟩:=mN (D k hk)
  unfold iw at h
  rw[decide_eq_true_eq,e]at h
  rw[e]
  exact h
 ·rintro⟨d,rfl,h1,h2,h3,h4⟩
  obtain⟨O,D,F,V⟩:=kU h1
  obtain⟨f,r,I⟩:=YV (ch:=iw ops) c t.fl d O F (fun k hk hb=>by
   have h:=h4 k hk hb
   obtain⟨n,_,e⟩:=mN (F k hk)
   unfold iw
   rw[decide_eq_true_eq,e]
   rw[e]at h
   exact h) V
  exact⟨f,d,r,I,D,h3,h2,rfl⟩
theorem axG(xs:List Int)(k:Nat→Nat)(hk: ∀i,k i≤2)(r:List Ru)(D:List Co)(cr:List Ex)(h1:r.Sublist jK)(h2:D.Sublist iS)(h3: ∀x∈cr,x∈uR)(h4:cr.length≤1):eb (mB (tA xs)) (iy k r D cr)=0:=by
 have hc:=FJ k hk r D cr h1 h2 h3 h4
 unfold eb
 rw[Yu]
 simpa using hc
theorem L8: ∃s,ae pE 9 [] []=some (.b true,s):=⟨[],cI (m:=100) (cG (by kernel_rfl))⟩
section
variable(t:Tt)(c:Ct)(zT aT fT a7 a8 a9 aw aA az:T)(hT:ky t zT aT fT)(hC:kP c a7 a8 a9 aw aA az)(hA:Ds c)(hk:eb t c=0)(out:List Lg)(v:T)(hv:LV out v)(RZ: ∀g∈out,fx c t.fl g.du=0)(h0:out≠ [])(ki:out.length≤1000000000)(A0:Int)
include hT hC hA hk hv RZ h0 ki
end
theorem aev(k:Nat→Nat)(I D:List Ru)(F:List Co)(cr:List Ex)(fl:List Fl)(d:List (Int×Bool)):fx (iy k I F cr) fl d=fx (iy k D F cr) fl d:=by
 have h: ∀d,pM (iy k I F cr) fl d=pM (iy k D F cr) fl d:=by
  intro d
  induction d with
  |nil=>rfl
  |cons x r ih=>
   cases r with
   |nil=>rfl
   |cons y r=>rw[pM,pM,ih];rfl
 unfold fx
 rw[h]
theorem aDF(xs:List Int)(k:Nat→Nat)(hk: ∀i,k i≤2)(r:List Ru)(D:List Co)(cr:List Ex)(h1:r.Sublist jK)(h2:D.Sublist iS)(h3: ∀x∈cr,x∈uR)(h4:cr.length≤1)(a7 a8 a9 aw aA az:T)(hC:kP (iy k r D cr) a7 a8 a9 aw aA az):
  ∃v s,ae pE 8 [.agg [BK,BL,Rn xs],.agg (aV (iy k r D cr) a7 a8 a9 aw aA az),oTB xs,.i .i64 2] []=some (.tup [v,.i .i64 0],s)∧LV (jP (po (tA xs)) (jn (iy k r D cr) (mB (tA xs)).fl) (iw (Rh (oA xs) (po (tA xs)))) (jm (mB (tA xs)) (iy k r D cr)) (cD (mB (tA xs)) (iy k r D cr)) 2) v:=by
 have F:=mP (tA xs)
 have hl:=oZ (tA xs)
 have hA:=YQ k hk r D cr h1 h2 h3
 have ho:IsSl (oTB xs) (Rh (oA xs) (po (tA xs))).length (ints (Rh (oA xs) (po (tA xs)))):=by
  have:=vu xs
  unfold Rh
  rw[List.length_map]
  exact this
 obtain⟨v,s,e,hv⟩:=Yp (mB (tA xs)) (iy k r D cr) BK BL (Rn xs) a7 a8 a9 aw aA az (YS xs) hC hA (axF xs).f.2 zZ _ _ ho (by have:=aee (oA xs) (po (tA xs));omega) ((2:Nat):Int)
 have hc:=FJ k hk r D cr h1 h2 h3 h4
 have ZZ:=alZ k hk r D cr
 have hb:=alY (tA xs) (oA xs) (iy k r D cr) ZZ 2 zZ
 unfold alI at hb
 rw[if_pos (aef (tA xs) (oA xs) _ hc 2 zZ),Int.toNat_natCast,if_neg hb]at e
 rw[Int.toNat_natCast,hl]at hv
 exact⟨v,s,e,hv⟩
def Z6(q:Int)(a b:Bool):Bool:=if q=0 then true else if q=1 then a else if q=2 then b else a&&b
theorem Oy(q:Int)(a b:Bool):ae pE 48 [.i .i64 q,.b a,.b b] []=some (.b (Z6 q a b),[]):=by
 rw[av aiP (by simp[c48])]
 unfold Z6
 by_cases h0:q=0
 ·simp(maxDischargeDepth:=6) only[qA,seval,c48,h0]
 ·by_cases h1:q=1
  ·simp(maxDischargeDepth:=6) only[qA,seval,c48,h1]
  ·by_cases h2:q=2
   ·simp(maxDischargeDepth:=6) only[qA,seval,c48,h2]
   ·cases a <;> simp(maxDischargeDepth:=6) only[qA,seval,c48,h0,h1,h2]
theorem axH(A B:List (List Nat))(hA:A.length≤1000)(hB:B.length≤1000)(r:Bool)(hr:r=B.all fun s=>decide (s∈A))(fr:Fr)(lh:aE ah)(sh:List ah)(h0:aa fr 0=qm A)(W:aa fr 7=qm B)(V:aa fr 8= .i .i64 (B.length:Int))(X:aa fr 9= .i .i64 0):
  WS pE 18 zd fr lh sh 0 4 (r=true) (.b false) (fun F I=>F=lh∧I=sh):=by
 refine lG Sf (by simp[aO]) (fun k f F I=>aa f 9= .i .i64 (k:Int)∧F=lh∧I=sh∧r=(B.drop k).all fun s=>decide (s∈A)) B.length ⟨X,rfl,rfl,hr⟩ ?_ ?_
 ·rintro k f _ _ hk D ⟨O,rfl,rfl,hr⟩
  have R:(k:Int)<B.length:=zZ
  have Y:=aG (k:=k) zZ
  obtain⟨rr,U⟩:=Xj (bU B) k hk
  have hc:=cH (Fh B[k] A (qm A) (bU A) hA)
  have Z:=(bU A).froz
  rw[LA hk]at hr
  by_cases hm:B[k]∈A
  all_goals simp only[qB,seval,gd,zd,D,h0,W,V,O,R,Y,U,hc,aAS,Z,hm]
  all_goals clear D hc
  all_goals grind
 ·rintro f _ _ D ⟨O,rfl,rfl,hr⟩
  rw[List.drop_length,List.all_nil]at hr
  simp only[qB,seval,gd,zd,D,V,O,Int.lt_irrefl,hr]
theorem Oz(A B:List (List Nat))(hA:A.length≤1000)(D:B.length≤1000):ae pE 49 [qm A,qm B] []=some (.b (B.all fun s=>decide (s∈A)),[]):=by
 have r:=axH A B hA D _ rfl
 have hl:=(bU B).lenI
 rw[av aiQ (by simp[c49])]
 cases hb:B.all fun s=>decide (s∈A) <;> rw[hb]at r <;> simp only[qA,seval,c49,r,hl]
end Go.Proofs.YtnkgnjecmfkcfaaGreat
