/- Walks of functions of the program and of the reference, and their plain laws, part 31. Conditions: the theorems' own. -/
import Derived.Test.YtnkgnjecmfkcfaaGreatGS
import Derived.Test.YtnkgnjecmfkcfaaGreatM1
import Derived.Test.YtnkgnjecmfkcfaaGreatM10
import Derived.Test.YtnkgnjecmfkcfaaGreatM11
import Derived.Test.YtnkgnjecmfkcfaaGreatM12
import Derived.Test.YtnkgnjecmfkcfaaGreatM13
import Derived.Test.YtnkgnjecmfkcfaaGreatM14
import Derived.Test.YtnkgnjecmfkcfaaGreatM17
import Derived.Test.YtnkgnjecmfkcfaaGreatM18
import Derived.Test.YtnkgnjecmfkcfaaGreatM19
import Derived.Test.YtnkgnjecmfkcfaaGreatM20
import Derived.Test.YtnkgnjecmfkcfaaGreatM21
import Derived.Test.YtnkgnjecmfkcfaaGreatM22
import Derived.Test.YtnkgnjecmfkcfaaGreatM23
import Derived.Test.YtnkgnjecmfkcfaaGreatM24
import Derived.Test.YtnkgnjecmfkcfaaGreatM25
import Derived.Test.YtnkgnjecmfkcfaaGreatM26
import Derived.Test.YtnkgnjecmfkcfaaGreatM27
import Derived.Test.YtnkgnjecmfkcfaaGreatM28
import Derived.Test.YtnkgnjecmfkcfaaGreatM29
import Derived.Test.YtnkgnjecmfkcfaaGreatM30
import Derived.KernelRfl
set_option maxRecDepth 100000
set_option linter.unusedSimpArgs false
set_option linter.unusedVariables false
set_option maxRecDepth 1000000
set_option maxHeartbeats 16000000
namespace Go.Proofs.YtnkgnjecmfkcfaaGreat
open Go Go.Ev
def Tk(v:T)(n i:Nat)(K:Int)(s:List Nat)(N:Int):Prop:=i<n∧n≤1000∧froz v=true∧lenI v=some (.i .i64 (n:Int))∧ ∃r,∀kk,iaV v (.i kk (i:Int)) 4=some (.vp (.i .i64 K:: .s s:: .i .i64 N::r))
theorem Tk.of(cs:List T)(n i:Nat)(K:Int)(s:List Nat)(N:Int)(r:List T)(hi:i<n)(D:n≤1000)(hl:cs.length=n*4)(h:cs.drop (i*4)= .i .i64 K:: .s s:: .i .i64 N::r):Tk (.sl cs n false) n i K s N:=by
 refine⟨hi,D,rfl,rfl,r,fun kk=> ?_⟩
 rw[cO,if_pos ⟨by omega,by simpa using hi,by rw[hl];simp only[Int.toNat_natCast];omega⟩,Int.toNat_natCast,h]
section
variable{v:T}{n i:Nat}{K:Int}{s:List Nat}{N:Int}(h:Tk v n i K s N)
include h
theorem zJ(k:Int):ae pE 192 [v,.i .i64 (i:Int),.i .i64 k] []=some (.b (decide (K=k)),[]):=by
 obtain⟨h1,h2,h3,h4,r,h5⟩:=h
 have hi:(i:Int)<n:=yv
 rw[au agE (by simp[TP])]
 by_cases e:K=k
 all_goals simp(maxDischargeDepth:=6) only[qA,seval,TP,h3,h4,hi,h5,e]
theorem Et(w:List Nat):ae pE 195 [v,.i .i64 (i:Int),.s w] []=some (.b (decide (K=1∧s=w)),[]):=by
 obtain⟨h1,h2,h3,h4,r,h5⟩:=h
 have hi:(i:Int)<n:=yv
 rw[au agH (by simp[PX])]
 by_cases e:K=1
 ·by_cases e2:s=w
  all_goals simp(maxDischargeDepth:=6) only[qA,seval,PX,h3,h4,hi,h5,e,e2]
 ·simp(maxDischargeDepth:=6) only[qA,seval,PX,h3,h4,hi,h5,e]
theorem amV:ae pE 194 [v,.i .i64 (i:Int)] []=some (.b (decide (K=1)&&iW s),[]):=by
 have hk:=zJ h 1
 obtain⟨h1,h2,h3,h4,r,h5⟩:=h
 have hi:(i:Int)<n:=yv
 have D:=nM s
 rw[au agF (by simp[TQ])]
 by_cases e:K=1
 all_goals simp(maxDischargeDepth:=6) only[qA,seval,TQ,h3,h4,hi,h5,hk,D,e,Nf,HZ]
end
def Gz(s:List Nat):Int:=if s= [100,117,116,121]then 1 else if s= [114,101,115,116]then 2 else if s= [112,97,105,114,105,110,103]then 3 else 0
theorem MF(s:List Nat):ae pE 197 [.s s] []=some (.i .i64 (Gz s),[]):=by
 rw[au U8 (by simp[HS])]
 unfold Gz
 by_cases e1:s= [100,117,116,121]
 ·simp(maxDischargeDepth:=6) only[qA,seval,HS,e1]
 ·by_cases e2:s= [114,101,115,116]
  ·simp(maxDischargeDepth:=6) only[qA,seval,HS,e1,e2]
   rfl
  ·by_cases e3:s= [112,97,105,114,105,110,103]
   ·simp(maxDischargeDepth:=6) only[qA,seval,HS,e1,e2,e3]
    rfl
   ·simp(maxDischargeDepth:=6) only[qA,seval,HS,e1,e2,e3]
def MG:List (List Nat):= [[114,101,112,111,114,116],[114,101,108,101,97,115,101],[99,111,110,110,101,99,116],[115,105,116],[108,97,121,111,118,101,114],[103,117,97,114,97,110,116,101,101],[110,105,103,104,116]]
theorem amW{v:T}{n:Nat}{K:Int}{s:List Nat}{N:Int}(h:Tk v n 0 K s N)(hs:s∉MG)(fr:Fr)(lh:aD ah)(sh:List ah)(h2:aa fr 2=v)(O:aa fr 7= .sl (strs MG) 7 true)(U:aa fr 8= .i .i64 0):
  Lp pE 335 mb fr lh sh (.ext 0) fun f l s=>s=sh∧l=lh:=by
 have GY:MG.length=7:=rfl
 have V:IsSl (T.sl (strs MG) 7 true) MG.length (strs MG):= .inr ⟨_,rfl⟩
 obtain⟨_,_,h3,h4,r,h5⟩:=h
 have h5: ∀kk,iaV v (.i kk 0) 4=some (.vp (.i .i64 K:: .s s:: .i .i64 N::r)):=h5
 generalize T.sl (strs MG) 7 true=fT at*
 refine cV qU (fun k f l s=>aa f 8= .i .i64 (k:Int)∧s=sh∧l=lh) 7 ⟨U,rfl,rfl⟩ ?_ ?_
 ·rintro k f _ _ hk F ⟨D,rfl,rfl⟩
  have H:(k:Int)<7:=yv
  have W:=aG (k:=k) yv
  obtain⟨q,I⟩:=vX V k yv
  have J: ¬s=MG[k]:=fun e=>hs (e▸List.getElem_mem _)
  generalize MG[k]=w at*
  simp(maxDischargeDepth:=6) only[qA,bp,Bj,aH,seval,gd,mb,F,h2,O,D,H,W,h5,I,J]
 ·rintro f _ _ F ⟨D,rfl,rfl⟩
  have D:aa f 8= .i .i64 7:=D
  simp only[qA,seval,gd,mb,F,D,Int.lt_irrefl]
section
variable{E:Env}{call:jP}{n:Nat}{fr:Fr}{lh:aD ah}{sh:List ah}{ds:List (List Nat×aF)}{br:List FP}{u:List Nat}
theorem afa{x v:aP}{m k g off kk H I len sz:Nat}(hx:rd fr x= .ptr .S k g off)(U:rd fr v= .isl .S kk H I len sz)(La:oW (aI sh k)=true):aK E call n ((u,⟨none,.st x v m,none⟩)::ds) br ⟨fr,lh,sh⟩=
  if meets u br (CW (rd fr x))=true then ke E call n ds (br++ [CW (rd fr x)]) (ai E call n [⟨none,.st x v m,none⟩] ⟨fr,lh,sh⟩)else none:=by
 refine mZ fun D=> ?_
 by_cases hb:(decide ((cellsOf (rd fr v)).length≠m)|| !noTup (rd fr v))=true
 ·obtain⟨w,J,hr,r⟩:=pS (q:= .fail) (by rfl) (by rw[dm];simp only[bz,nw,hx];rw[if_pos hb]) D
  simp[Q.run]at hr
 ·obtain⟨w,J,hr,r⟩:=pS (q:= .rd .S k (IM k g off m (rd fr v))) (by rfl) (by rw[dm];simp only[bz,nw,hx];rw[if_neg hb];rfl) D
  simp only[Q.run,Q.log,Q.asks]at hr r
  have O:(St.mk fr lh sh).get .S k=aI sh k:=rfl
  generalize he:(St.mk fr lh sh).get .S k=e at hr r
  rw[←O,he]at La
  obtain⟨V,ob⟩:=e
  unfold IM at hr r
  by_cases F:V=g
  ·cases ob with
   |none=>simp[F,Q.run]at hr
   |map ks X z=>simp[F,Q.run]at hr
   |cells cs Y bx=>
    have La:bx=true:=La
    subst La
    simp only[F,if_true]at hr r
    split at hr
    ·rename_i hc
     rw[if_pos hc]at r
     have hs:(true&&(Sp.S==Sp.L))=false:=rfl
     have GX:(true&&(Sp.S==Sp.S))=true:=rfl
     have W:Ev.fz true aJ (.isl .S kk H I len sz)= .ret (.isl .S kk H I len sz,[]):=rfl
     rw[hs,GX,U,W]at hr r
     simp only[Bool.false_eq_true,if_false]at hr r
     simp only[Q.bind]at hr r
     split at hr
     ·simp[Q.run]at hr
     ·rename_i hd
      rw[if_neg hd]at r
      simp[Q.run]at hr
      obtain⟨rfl,rfl⟩:=hr
      rw[r (by simp[Ev.inB,xP,he]),hx]
      rfl
    ·simp[Q.run]at hr
  ·simp only[F,if_false,Q.run]at hr
   cases hr
def ZW(sh:List ah):T→Bool
 | .ptr .S k _ _=>oW (aI sh k)
 |_=>false
theorem fw{sh:List ah}{k g off:Nat}:ZW sh (.ptr .S k g off)=oW (aI sh k):=nr rfl
def ZX:T→Bool
 | .isl .S .. =>true
 |_=>false
theorem fx{k g off len sz:Nat}:ZX (.isl .S k g off len sz)=true:=nr rfl
theorem pv{x v:aP}{m:Nat}(hx:ZW sh (rd fr x)=true)(r:ZX (rd fr v)=true):aK E call n ((u,⟨none,.st x v m,none⟩)::ds) br ⟨fr,lh,sh⟩=
  if meets u br (CW (rd fr x))=true then ke E call n ds (br++ [CW (rd fr x)]) (ai E call n [⟨none,.st x v m,none⟩] ⟨fr,lh,sh⟩)else none:=by
 cases h1:rd fr x with
 |ptr sp k g off=>
  cases sp with
  |L=>rw[h1]at hx;cases hx
  |S=>
   cases h2:rd fr v with
   |isl sp kk D F len sz=>
    cases sp with
    |L=>rw[h2]at r;cases r
    |S=>
     rw[h1]at hx
     have:=afa (E:=E) (call:=call) (n:=n) (lh:=lh) (ds:=ds) (br:=br) (u:=u) (m:=m) h1 h2 hx
     rw[this,h1]
   |_=>rw[h2]at r;cases r
 |_=>rw[h1]at hx;cases hx
end
def stR(hd:List T)(iG:T)(sn:List T)(n:Nat)(cs:List T):List ah:=
 ⟨1,.cells (hd++ [iG,if n=0 then .nilsl else .isl .S 2 n 0 n 6,.nilsl,.nilsl,.nilsl,.nilsl,.i .i64 0]) 0 true⟩::⟨1,.cells sn 0 true⟩::if n=0 then []else [⟨n,.cells cs 0 false⟩]
theorem aEG(x0 x1 x2 x3 x4 x5 x6 iG:T)(sn:List T)(n:Nat)(hn:n≤100)(cs:List T)(I:cs.length=n*6)(v:T)(N:Nat)(r F:List Nat)(N0 N1 N2 N3:Int)(h0:Tk v N 0 1 r N0)(h1:Tk v N 1 1 [114,117,108,101] N1)(h2:Tk v N 2 1 F N2)(h3:Tk v N 3 1 [105,115] N3)(Y:r= [100,117,116,121]∨r= [114,101,115,116]∨r= [112,97,105,114,105,110,103])(Br:iW F=true)
  (Z:T) (O:kU v=some N) (DH:te 4 v 4 N=some Z) (EX:froz Z=true) (a b c d:T) (ha:froz1 a=true∧froz1 b=true∧froz1 c=true∧froz1 d=true) (s:List ah) (he:ae pE 196 [Z] []=some (.tup [.agg [a,b,c,d],.i .i64 (-1)],s)):
  ae pE 117 [.ptr .S 0 1 0,.ptr .S 1 1 0,v] (stR [x0,x1,x2,x3,x4,x5,x6] iG sn n cs)=some (.i .i64 0,stR [x0,x1,x2,x3,x4,x5,x6] iG sn (n+1) (cs++ [.i .i64 (Gz r),.s F,a,b,c,d])):=by
 have hs:r∉MG:=by rcases Y with rfl|rfl|rfl <;> decide
 have hL:=fun fr lh sh=>amW h0 hs fr lh sh
 have yF:=zJ h0 1
 have He:=Et h1
 have J:=Et h3
 have CI:=amV h2
 have U:=MF r
 have V:Gz r≠0:=by rcases Y with rfl|rfl|rfl <;> decide
 have oi: ¬r= [99,111,110,115,116]:=by rcases Y with rfl|rfl|rfl <;> decide
 obtain⟨_,_,z1,z2,r0,Kf⟩:=h0
 obtain⟨_,_,_,_,r2,H⟩:=h2
 have Kf: ∀kk,iaV v (.i kk 0) 4=some (.vp (.i .i64 1:: .s r:: .i .i64 N0::r0)):=Kf
 have H: ∀kk,iaV v (.i kk 2) 4=some (.vp (.i .i64 1:: .s F:: .i .i64 N2::r2)):=H
 generalize Gz r=S at*
 have hfd:T.sl (strs MG) 7 true= .sl [.s [114,101,112,111,114,116],.s [114,101,108,101,97,115,101],.s [99,111,110,110,101,99,116],.s [115,105,116],.s [108,97,121,111,118,101,114],.s [103,117,97,114,97,110,116,101,101],.s [110,105,103,104,116]] 7 true:=rfl
 rw[au M5 (by simp[EI])]
 unfold stR
 have ZY:ae pE 192 [v,.i .i64 0,.i .i64 1] []=some (.b (decide ((1:Int)=1)),[]):=yF
 simp(maxDischargeDepth:=6) only[qA,seval,EI,repl,ZY,z1,Nf]
 generalize hD:DC pE 335 (.loop mb) _=D
 obtain⟨f2,l2,s2,rfl,⟨rfl,rfl⟩,X⟩:=yq qU hD (hL _ _ _ wW (by rw[hfd];simp only[qA,seval]) wW)
 have p0:aa f2 0= .ptr .S 0 1 0:=by rw[X 0 xW];simp only[qA,seval]
 have p1:aa f2 1= .ptr .S 1 1 0:=by rw[X 1 xW];simp only[qA,seval]
 have p2:aa f2 2=v:=by rw[X 2 xW];simp only[qA,seval]
 clear X hD hL
 have He: ∀w,ae pE 195 [v,.i .i64 1,.s w] []=some (.b (decide ((1:Int)=1∧ [114,117,108,101]=w)),[]):=He
 have J: ∀w,ae pE 195 [v,.i .i64 3,.s w] []=some (.b (decide ((1:Int)=1∧ [105,115]=w)),[]):=J
 have CI:ae pE 194 [v,.i .i64 2] []=some (.b (decide ((1:Int)=1)&&iW F),[]):=CI
 rw[Br]at CI
 have e1:=He [114,117,108,101]
 have e3:=J [105,115]
 simp only[and_self,decide_true]at e1 e3
 obtain⟨y1,y2,y3,y4⟩:=ha
 have y1':cellsOf a= [a]:=by cases a <;> simp_all[froz1,cellsOf]
 have r80:80≤roomy:=xW
 have Sj: ∀m,mJ m .nilsl=⟨true,[],[(.S,m)]⟩:=fun _=>rfl
 by_cases W:n=0
 ·subst W
  have I:cs= []:=List.length_eq_zero_iff.1 yv
  subst I
  have fG: ∀lh,Ev.stV lh [⟨1,.cells [x0,x1,x2,x3,x4,x5,x6,iG,.nilsl,.nilsl,.nilsl,.nilsl,.nilsl,.i .i64 0] 0 true⟩,⟨1,.cells sn 0 true⟩,⟨1,.cells [.i .i64 S,.s F,a,b,c,d] 0 false⟩] (.ptr .S 0 1 8) (.isl .S 2 1 0 1 6) 1=some (lh,[⟨1,.cells [x0,x1,x2,x3,x4,x5,x6,iG,.isl .S 2 1 0 1 6,.nilsl,.nilsl,.nilsl,.nilsl,.i .i64 0] 0 true⟩,⟨1,.cells sn 0 true⟩,⟨1,.cells [.i .i64 S,.s F,a,b,c,d] 0 false⟩]):=fun lh=>by
   rw[iU (by rfl) (by rfl),dY,if_pos ⟨rfl,rfl,rfl,Nat.zero_le _,by simp⟩]
   rfl
  simp(maxDischargeDepth:=6) only[qA,eJ,bp,fK,aH,seval,repl,p0,p2,Kf,H,oi,U,V,e1,e3,CI,O,DH,EX,he,z1,y1,y2,y3,y4,agG,uo,uq,ur,Du,cI,cX,aZ,cL,dg,Sj,pv,fw,fx,ed,r80,fG]
 ·have r81:(n+1)*80≤roomy:=by unfold roomy;omega
  have afb:n*6=cs.length:=I.symm
  have fG: ∀lh,Ev.stV lh [⟨1,.cells [x0,x1,x2,x3,x4,x5,x6,iG,.isl .S 2 n 0 n 6,.nilsl,.nilsl,.nilsl,.nilsl,.i .i64 0] 0 true⟩,⟨1,.cells sn 0 true⟩,⟨n+1,.cells (cs++ [.i .i64 S,.s F,a,b,c,d]) 0 false⟩] (.ptr .S 0 1 8) (.isl .S 2 (n+1) 0 (n+1) 6) 1=some (lh,[⟨1,.cells [x0,x1,x2,x3,x4,x5,x6,iG,.isl .S 2 (n+1) 0 (n+1) 6,.nilsl,.nilsl,.nilsl,.nilsl,.i .i64 0] 0 true⟩,⟨1,.cells sn 0 true⟩,⟨n+1,.cells (cs++ [.i .i64 S,.s F,a,b,c,d]) 0 false⟩]):=fun lh=>by
   rw[iU (by rfl) (by rfl),dY,if_pos ⟨rfl,rfl,rfl,Nat.zero_le _,by simp⟩]
   rfl
  have CH: ¬n+1=0:=yv
  simp(maxDischargeDepth:=6) only[qA,eJ,bp,fK,aH,seval,repl,p0,p2,Kf,H,oi,U,V,e1,e3,CI,O,DH,EX,he,z1,y1,y2,y3,y4,agG,uo,uq,ur,Du,cI,cX,aZ,dC,eb,cw,pv,fw,fx,ed,fG,r81,afb,W,ed,mJ]
def stK(hd:List T)(iG r:T)(sn:List T)(P:List ah)(n:Nat)(cs:List T):List ah:=
 ⟨1,.cells (hd++ [iG,r,if n=0 then .nilsl else .isl .S (2+P.length) n 0 n 5,.nilsl,.nilsl,.nilsl,.i .i64 0]) 0 true⟩::⟨1,.cells sn 0 true⟩::(P++if n=0 then []else [⟨n,.cells cs 0 false⟩])
theorem aEI(x0 x1 x2 x3 x4 x5 x6 iG F:T)(sn:List T)(P:List ah)(hP:P.length≤1)(n:Nat)(hn:n≤100)(cs:List T)(O:cs.length=n*5)(v:T)(N:Nat)(r:List Nat)(N0 N1 N2:Int)(h0:Tk v N 0 1 r N0)(h1:Tk v N 1 1 [99,111,115,116] N1)(h2:Tk v N 2 1 [105,115] N2)(fq:r= [100,117,116,121]∨r= [114,101,115,116]∨r= [112,97,105,114,105,110,103])
  (tl:T) (H:kU v=some N) (DH:te 4 v 3 N=some tl) (EX:froz tl=true) (a b c d:T) (ha:froz1 a=true∧froz1 b=true∧froz1 c=true∧froz1 d=true) (s:List ah) (he:ae pE 196 [tl] []=some (.tup [.agg [a,b,c,d],.i .i64 (-1)],s)):
  ae pE 117 [.ptr .S 0 1 0,.ptr .S 1 1 0,v] (stK [x0,x1,x2,x3,x4,x5,x6] iG F sn P n cs)=some (.i .i64 0,stK [x0,x1,x2,x3,x4,x5,x6] iG F sn P (n+1) (cs++ [.i .i64 (Gz r),a,b,c,d])):=by
 have hs:r∉MG:=by rcases fq with rfl|rfl|rfl <;> decide
 have hL:=fun fr lh sh=>amW h0 hs fr lh sh
 have yF:=zJ h0 1
 have He:=Et h1
 have CG:=Et h2
 have I:=MF r
 have J:Gz r≠0:=by rcases fq with rfl|rfl|rfl <;> decide
 have oi: ¬r= [99,111,110,115,116]:=by rcases fq with rfl|rfl|rfl <;> decide
 obtain⟨_,_,W,z2,r0,Kf⟩:=h0
 have Kf: ∀kk,iaV v (.i kk 0) 4=some (.vp (.i .i64 1:: .s r:: .i .i64 N0::r0)):=Kf
 generalize Gz r=S at*
 have hfd:T.sl (strs MG) 7 true= .sl [.s [114,101,112,111,114,116],.s [114,101,108,101,97,115,101],.s [99,111,110,110,101,99,116],.s [115,105,116],.s [108,97,121,111,118,101,114],.s [103,117,97,114,97,110,116,101,101],.s [110,105,103,104,116]] 7 true:=rfl
 rw[au M5 (by simp[EI])]
 unfold stK
 have ZY:ae pE 192 [v,.i .i64 0,.i .i64 1] []=some (.b (decide ((1:Int)=1)),[]):=yF
 simp(maxDischargeDepth:=6) only[qA,seval,EI,repl,ZY,W,Nf]
 generalize hD:DC pE 335 (.loop mb) _=D
 obtain⟨f2,l2,s2,rfl,⟨rfl,rfl⟩,lD⟩:=yq qU hD (hL _ _ _ wW (by rw[hfd];simp only[qA,seval]) wW)
 have p0:aa f2 0= .ptr .S 0 1 0:=by rw[lD 0 xW];simp only[qA,seval]
 have p1:aa f2 1= .ptr .S 1 1 0:=by rw[lD 1 xW];simp only[qA,seval]
 have p2:aa f2 2=v:=by rw[lD 2 xW];simp only[qA,seval]
 clear lD hD hL
 have He: ∀w,ae pE 195 [v,.i .i64 1,.s w] []=some (.b (decide ((1:Int)=1∧ [99,111,115,116]=w)),[]):=He
 have CG: ∀w,ae pE 195 [v,.i .i64 2,.s w] []=some (.b (decide ((1:Int)=1∧ [105,115]=w)),[]):=CG
 have e1:=He [99,111,115,116]
 have e2:ae pE 195 [v,.i .i64 1,.s [114,117,108,101]] []=some (.b false,[]):=He [114,117,108,101]
 have e3:=CG [105,115]
 simp only[and_self,decide_true]at e1 e3
 obtain⟨y1,y2,y3,y4⟩:=ha
 have X:64≤roomy:=xW
 have Y:(n+1)*64≤roomy:=by unfold roomy;omega
 have Z:n*5=cs.length:=O.symm
 have CH: ¬n+1=0:=yv
 have hPc:P= []∨ ∃e,P= [e]:=by
  match P,hP with
  | [],_=>exact .inl rfl
  | [e],_=>exact .inr ⟨e,rfl⟩
 by_cases U:n=0
 ·subst U
  have O:cs= []:=List.length_eq_zero_iff.1 yv
  subst O
  rcases hPc with rfl|⟨e,rfl⟩
  ·have V: ∀lh,Ev.stV lh [⟨1,.cells [x0,x1,x2,x3,x4,x5,x6,iG,F,.nilsl,.nilsl,.nilsl,.nilsl,.i .i64 0] 0 true⟩,⟨1,.cells sn 0 true⟩,⟨1,.cells [.i .i64 S,a,b,c,d] 0 false⟩] (.ptr .S 0 1 9) (.isl .S 2 1 0 1 5) 1=some (lh,[⟨1,.cells [x0,x1,x2,x3,x4,x5,x6,iG,F,.isl .S 2 1 0 1 5,.nilsl,.nilsl,.nilsl,.i .i64 0] 0 true⟩,⟨1,.cells sn 0 true⟩,⟨1,.cells [.i .i64 S,a,b,c,d] 0 false⟩]):=fun lh=>by
    rw[iU (by rfl) (by rfl),dY,if_pos ⟨rfl,rfl,rfl,Nat.zero_le _,by simp⟩]
    rfl
   simp(maxDischargeDepth:=6) only[qA,eJ,bp,fK,aH,seval,repl,p0,p2,Kf,oi,I,J,e1,e2,e3,H,DH,EX,he,W,y1,y2,y3,y4,uo,uq,ur,Du,cI,cX,aZ,cL,dg,mJ,pv,fw,fx,ed,X,V]
  ·have V: ∀lh,Ev.stV lh [⟨1,.cells [x0,x1,x2,x3,x4,x5,x6,iG,F,.nilsl,.nilsl,.nilsl,.nilsl,.i .i64 0] 0 true⟩,⟨1,.cells sn 0 true⟩,e,⟨1,.cells [.i .i64 S,a,b,c,d] 0 false⟩] (.ptr .S 0 1 9) (.isl .S 3 1 0 1 5) 1=some (lh,[⟨1,.cells [x0,x1,x2,x3,x4,x5,x6,iG,F,.isl .S 3 1 0 1 5,.nilsl,.nilsl,.nilsl,.i .i64 0] 0 true⟩,⟨1,.cells sn 0 true⟩,e,⟨1,.cells [.i .i64 S,a,b,c,d] 0 false⟩]):=fun lh=>by
    rw[iU (by rfl) (by rfl),dY,if_pos ⟨rfl,rfl,rfl,Nat.zero_le _,by simp⟩]
    rfl
   simp(maxDischargeDepth:=6) only[qA,eJ,bp,fK,aH,seval,repl,p0,p2,Kf,oi,I,J,e1,e2,e3,H,DH,EX,he,W,y1,y2,y3,y4,uo,uq,ur,Du,cI,cX,aZ,cL,dg,mJ,pv,fw,fx,ed,X,V]
 ·rcases hPc with rfl|⟨e,rfl⟩
  ·have V: ∀lh,Ev.stV lh [⟨1,.cells [x0,x1,x2,x3,x4,x5,x6,iG,F,.isl .S 2 n 0 n 5,.nilsl,.nilsl,.nilsl,.i .i64 0] 0 true⟩,⟨1,.cells sn 0 true⟩,⟨n+1,.cells (cs++ [.i .i64 S,a,b,c,d]) 0 false⟩] (.ptr .S 0 1 9) (.isl .S 2 (n+1) 0 (n+1) 5) 1=some (lh,[⟨1,.cells [x0,x1,x2,x3,x4,x5,x6,iG,F,.isl .S 2 (n+1) 0 (n+1) 5,.nilsl,.nilsl,.nilsl,.i .i64 0] 0 true⟩,⟨1,.cells sn 0 true⟩,⟨n+1,.cells (cs++ [.i .i64 S,a,b,c,d]) 0 false⟩]):=fun lh=>by
    rw[iU (by rfl) (by rfl),dY,if_pos ⟨rfl,rfl,rfl,Nat.zero_le _,by simp⟩]
    rfl
   simp(maxDischargeDepth:=6) only[qA,eJ,bp,fK,aH,seval,repl,p0,p2,Kf,oi,I,J,e1,e2,e3,H,DH,EX,he,W,y1,y2,y3,y4,uo,uq,ur,Du,cI,cX,aZ,dC,eb,cw,mJ,pv,fw,fx,ed,V,Y,Z,U]
  ·have V: ∀lh,Ev.stV lh [⟨1,.cells [x0,x1,x2,x3,x4,x5,x6,iG,F,.isl .S 3 n 0 n 5,.nilsl,.nilsl,.nilsl,.i .i64 0] 0 true⟩,⟨1,.cells sn 0 true⟩,e,⟨n+1,.cells (cs++ [.i .i64 S,a,b,c,d]) 0 false⟩] (.ptr .S 0 1 9) (.isl .S 3 (n+1) 0 (n+1) 5) 1=some (lh,[⟨1,.cells [x0,x1,x2,x3,x4,x5,x6,iG,F,.isl .S 3 (n+1) 0 (n+1) 5,.nilsl,.nilsl,.nilsl,.i .i64 0] 0 true⟩,⟨1,.cells sn 0 true⟩,e,⟨n+1,.cells (cs++ [.i .i64 S,a,b,c,d]) 0 false⟩]):=fun lh=>by
    rw[iU (by rfl) (by rfl),dY,if_pos ⟨rfl,rfl,rfl,Nat.zero_le _,by simp⟩]
    rfl
   simp(maxDischargeDepth:=6) only[qA,eJ,bp,fK,aH,seval,repl,p0,p2,Kf,oi,I,J,e1,e2,e3,H,DH,EX,he,W,y1,y2,y3,y4,uo,uq,ur,Du,cI,cX,aZ,dC,eb,cw,mJ,pv,fw,fx,ed,V,Y,Z,U]
def ZZ(hd:List T)(iG r MD:T)(sn:List T)(P:List ah)(cr:List T):List ah:=
 ⟨1,.cells (hd++ [iG,r,MD,if cr= []then .nilsl else .isl .S (2+P.length) 1 0 1 4,.nilsl,.nilsl,.i .i64 0]) 0 true⟩::⟨1,.cells sn 0 true⟩::(P++if cr= []then []else [⟨1,.cells cr 0 false⟩])
theorem aEJ(x0 x1 x2 x3 x4 x5 x6 iG r MD:T)(sn:List T)(P:List ah)(hP:P.length≤2)(v:T)(N:Nat)(N0 N1 N2:Int)(h0:Tk v N 0 1 [100,117,116,121] N0)(h1:Tk v N 1 1 [99,114,101,100,105,116] N1)(h2:Tk v N 2 1 [105,115] N2)
  (W:T) (F:kU v=some N) (DH:te 4 v 3 N=some W) (EX:froz W=true) (a b c d:T) (ha:froz1 a=true∧froz1 b=true∧froz1 c=true∧froz1 d=true) (s:List ah) (he:ae pE 196 [W] []=some (.tup [.agg [a,b,c,d],.i .i64 (-1)],s)):
  ae pE 117 [.ptr .S 0 1 0,.ptr .S 1 1 0,v] (ZZ [x0,x1,x2,x3,x4,x5,x6] iG r MD sn P [])=some (.i .i64 0,ZZ [x0,x1,x2,x3,x4,x5,x6] iG r MD sn P [a,b,c,d]):=by
 have hs:([100,117,116,121]:List Nat)∉MG:=xW
 have hL:=fun fr lh sh=>amW h0 hs fr lh sh
 have yF:=zJ h0 1
 have He:=Et h1
 have CG:=Et h2
 have H:ae pE 197 [.s [100,117,116,121]] []=some (.i .i64 1,[]):=MF _
 have I:(1:Int)≠0:=xW
 have X: ¬([100,117,116,121]:List Nat)= [99,111,110,115,116]:=xW
 obtain⟨_,_,U,z2,r0,Kf⟩:=h0
 have Kf: ∀kk,iaV v (.i kk 0) 4=some (.vp (.i .i64 1:: .s [100,117,116,121]:: .i .i64 N0::r0)):=Kf
 have Y:T.sl (strs MG) 7 true= .sl [.s [114,101,112,111,114,116],.s [114,101,108,101,97,115,101],.s [99,111,110,110,101,99,116],.s [115,105,116],.s [108,97,121,111,118,101,114],.s [103,117,97,114,97,110,116,101,101],.s [110,105,103,104,116]] 7 true:=rfl
 rw[au M5 (by simp[EI])]
 unfold ZZ
 have ZY:ae pE 192 [v,.i .i64 0,.i .i64 1] []=some (.b (decide ((1:Int)=1)),[]):=yF
 simp(maxDischargeDepth:=6) only[qA,seval,EI,repl,ZY,U,Nf]
 generalize hD:DC pE 335 (.loop mb) _=D
 obtain⟨Z,l2,s2,rfl,⟨rfl,rfl⟩,V⟩:=yq qU hD (hL _ _ _ wW (by rw[Y];simp only[qA,seval]) wW)
 have p0:aa Z 0= .ptr .S 0 1 0:=by rw[V 0 xW];simp only[qA,seval]
 have p1:aa Z 1= .ptr .S 1 1 0:=by rw[V 1 xW];simp only[qA,seval]
 have p2:aa Z 2=v:=by rw[V 2 xW];simp only[qA,seval]
 clear V hD hL
 have He: ∀w,ae pE 195 [v,.i .i64 1,.s w] []=some (.b (decide ((1:Int)=1∧ [99,114,101,100,105,116]=w)),[]):=He
 have CG: ∀w,ae pE 195 [v,.i .i64 2,.s w] []=some (.b (decide ((1:Int)=1∧ [105,115]=w)),[]):=CG
 have e1:=He [99,114,101,100,105,116]
 have e4:ae pE 195 [v,.i .i64 1,.s [99,111,115,116]] []=some (.b false,[]):=He [99,111,115,116]
 have e2:ae pE 195 [v,.i .i64 1,.s [114,117,108,101]] []=some (.b false,[]):=He [114,117,108,101]
 have e3:=CG [105,115]
 simp only[and_self,decide_true]at e1 e3
 obtain⟨y1,y2,y3,y4⟩:=ha
 have J:56≤roomy:=xW
 have hPc:P= []∨(∃e,P= [e])∨ ∃e f,P= [e,f]:=by
  match P,hP with
  | [],_=>exact .inl rfl
  | [e],_=>exact .inr (.inl ⟨e,rfl⟩)
  | [e,f],_=>exact .inr (.inr ⟨e,f,rfl⟩)
 rcases hPc with rfl|⟨e,rfl⟩|⟨e,f,rfl⟩
 ·have O: ∀lh,Ev.stV lh [⟨1,.cells [x0,x1,x2,x3,x4,x5,x6,iG,r,MD,.nilsl,.nilsl,.nilsl,.i .i64 0] 0 true⟩,⟨1,.cells sn 0 true⟩,⟨1,.cells [a,b,c,d] 0 false⟩] (.ptr .S 0 1 10) (.isl .S 2 1 0 1 4) 1=some (lh,[⟨1,.cells [x0,x1,x2,x3,x4,x5,x6,iG,r,MD,.isl .S 2 1 0 1 4,.nilsl,.nilsl,.i .i64 0] 0 true⟩,⟨1,.cells sn 0 true⟩,⟨1,.cells [a,b,c,d] 0 false⟩]):=fun lh=>by
   rw[iU (by rfl) (by rfl),dY,if_pos ⟨rfl,rfl,rfl,Nat.zero_le _,by simp⟩]
   rfl
  simp(maxDischargeDepth:=6) only[qA,eJ,bp,fK,aH,seval,repl,p0,p2,Kf,X,H,I,e1,e2,e3,e4,F,DH,EX,he,U,y1,y2,y3,y4,uo,uq,ur,cI,cX,aZ,cL,dg,mJ,qI,gb,pv,fw,fx,ed,J,O]
 ·have O: ∀lh,Ev.stV lh [⟨1,.cells [x0,x1,x2,x3,x4,x5,x6,iG,r,MD,.nilsl,.nilsl,.nilsl,.i .i64 0] 0 true⟩,⟨1,.cells sn 0 true⟩,e,⟨1,.cells [a,b,c,d] 0 false⟩] (.ptr .S 0 1 10) (.isl .S 3 1 0 1 4) 1=some (lh,[⟨1,.cells [x0,x1,x2,x3,x4,x5,x6,iG,r,MD,.isl .S 3 1 0 1 4,.nilsl,.nilsl,.i .i64 0] 0 true⟩,⟨1,.cells sn 0 true⟩,e,⟨1,.cells [a,b,c,d] 0 false⟩]):=fun lh=>by
   rw[iU (by rfl) (by rfl),dY,if_pos ⟨rfl,rfl,rfl,Nat.zero_le _,by simp⟩]
   rfl
  simp(maxDischargeDepth:=6) only[qA,eJ,bp,fK,aH,seval,repl,p0,p2,Kf,X,H,I,e1,e2,e3,e4,F,DH,EX,he,U,y1,y2,y3,y4,uo,uq,ur,cI,cX,aZ,cL,dg,mJ,qI,gb,pv,fw,fx,ed,J,O]
 ·have O: ∀lh,Ev.stV lh [⟨1,.cells [x0,x1,x2,x3,x4,x5,x6,iG,r,MD,.nilsl,.nilsl,.nilsl,.i .i64 0] 0 true⟩,⟨1,.cells sn 0 true⟩,e,f,⟨1,.cells [a,b,c,d] 0 false⟩] (.ptr .S 0 1 10) (.isl .S 4 1 0 1 4) 1=some (lh,[⟨1,.cells [x0,x1,x2,x3,x4,x5,x6,iG,r,MD,.isl .S 4 1 0 1 4,.nilsl,.nilsl,.i .i64 0] 0 true⟩,⟨1,.cells sn 0 true⟩,e,f,⟨1,.cells [a,b,c,d] 0 false⟩]):=fun lh=>by
   rw[iU (by rfl) (by rfl),dY,if_pos ⟨rfl,rfl,rfl,Nat.zero_le _,by simp⟩]
   rfl
  simp(maxDischargeDepth:=6) only[qA,eJ,bp,fK,aH,seval,repl,p0,p2,Kf,X,H,I,e1,e2,e3,e4,F,DH,EX,he,U,y1,y2,y3,y4,uo,uq,ur,cI,cX,aZ,cL,dg,mJ,qI,gb,pv,fw,fx,ed,J,O]
def Pk(l:List Nat)(s r:List ah):Prop:= ∃Z0 a u,∃n:Nat,ae pE 116 [.s l] []=some (.tup [Z0,a,.i .i64 0],u)∧lenI Z0=some (.i .i64 ((n+1:Nat):Int))∧froz Z0=true∧ae pE 117 [.ptr .S 0 1 0,.ptr .S 1 1 0,Z0] s=some (.i .i64 0,r)
def vY:List (List Nat)→List ah→List ah→Prop
 | [],s,r=>r=s
 |l::D,s,r=> ∃m,Pk l s m∧vY D m r
theorem qQ: ∀{a b:List (List Nat)} {s m r:List ah},vY a s m→vY b m r→vY (a++b) s r
 | [],_,_,_,_,h1,h2=>by rw[vY]at h1;subst h1;exact h2
 |l::a,_,_,_,_,⟨q,h0,h1⟩,h2=>⟨q,h0,qQ h1 h2⟩
theorem aEK(v:T)(r:List (List Nat))(D:IsSl v r.length (strs r))(hb:r.length<1000000)(s2:List ah)(fr:Fr)(lh:aD ah)(sh:List ah)(hs:vY r sh s2)(h5:aa fr 5=v)(O:aa fr 7= .ptr .S 0 1 0)(U:aa fr 8= .ptr .S 1 1 0)(V:aa fr 9= .i .i64 0):
  Lp pE 61 wF fr lh sh (.ext 0) fun f l s=>s=s2∧l=lh:=by
 refine cV Hu (fun k f l s=>aa f 9= .i .i64 (k:Int)∧l=lh∧vY (r.drop k) s s2) r.length ⟨V,rfl,hs⟩ ?_ ?_
 ·rintro k f _ s hk F ⟨H,rfl,hs⟩
  have I:(k:Int)<r.length:=yv
  have W:=aG (k:=k) yv
  rw[List.drop_eq_getElem_cons hk]at hs
  obtain⟨s',⟨Z0,a,u,n,X,Y,Z,q4⟩,hs⟩:=hs
  obtain⟨q,J⟩:=vX D k hk
  have yy:(0:Int)<((n+1:Nat):Int):=yv
  simp(maxDischargeDepth:=6) only[qA,eJ,seval,gd,wF,F,h5,O,U,H,D.lenI,I,J,X,Y,Z,q4,yy,W,hs,atp,atq]
 ·rintro f _ s F ⟨H,rfl,hs⟩
  rw[List.drop_length,vY]at hs
  subst hs
  simp only[qA,seval,gd,wF,F,h5,H,D.lenI,Int.lt_irrefl]
theorem mR: ∀(cs r:List T),r.length=cs.length→splice cs 0 r=r
 | [],[],_=>by simp[splice]
 | [],v::r,h=>by simp at h
 |c::cs,[],h=>by simp at h
 |c::cs,v::r,h=>by simp[splice,mR cs r (by simpa using h)]
def iZ(n:Int):T:= .i .i64 n
def kS0:List ah:=su [iZ 0,iZ 0,iZ 0,iZ 1440,iZ 2880,iZ 0,iZ 0] .nilsl [.b false,.b false,.b false,.b false,.b false,.b false,.b false]
theorem Z1(r:List (List Nat))(hx:ZR (kF r))(U: ∀l∈r,10∉l)(hl:r.length≤1000)(rc cs:List T)(F:List ah)(H:rc.length=14)
  (I: ∀q lh,∃us,tf q lh (⟨1,.cells rc 0 true⟩::F) false rc=some (cs,us))
  (hs:vY r kS0 (⟨1,.cells rc 0 true⟩::F)) (s':List ah) (J:ae pE 118 [.agg cs] []=some (.i .i64 0,s')):
  ∃V,ae pE 64 [.s (kF r)] []=some (.tup [.agg cs,.i .i64 0,.i .i64 0],V):=by
 have W:=ZS r hx U hl
 have hv:IsSl (bA r.length (strs r)) r.length (strs r):=fe fun h=>by
  rw[List.length_eq_zero_iff.1 h];rfl
 have O:=fun fr lh=>aEK (bA r.length (strs r)) r hv yv _ fr lh _ hs
 have hz1:=hv.froz1
 unfold kS0 su iZ at O
 simp only[List.cons_append,List.nil_append]at O
 have X:rc.take 14=rc:=by rw[←H];exact List.take_length
 have Y:=mR [T.i IntKind.i64 0,T.i IntKind.i64 0,T.i IntKind.i64 0,T.i IntKind.i64 0,T.i IntKind.i64 0,T.i IntKind.i64 0,T.i IntKind.i64 0,T.nilsl,T.nilsl,T.nilsl,T.nilsl,T.nilsl,T.nilsl,T.i IntKind.i64 0] rc (by rw[H];rfl)
 obtain⟨us,Z⟩: ∃us:Nat→aD ah→List Up,∀q lh,tf q lh (⟨1,.cells rc 0 true⟩::F) false rc=some (cs,us q lh):=⟨fun q lh=>(I q lh).choose,fun q lh=>(I q lh).choose_spec⟩
 rw[au asT (by simp[c64])]
 generalize kF r=tx at*
 generalize bA r.length (strs r)=v at*
 simp(maxDischargeDepth:=6) only[qA,eJ,seval,c64,W,atn]
 generalize hD:DC pE 61 (.loop wF) _=D
 obtain⟨f2,l2,s2,rfl,⟨rfl,rfl⟩,lD⟩:=yq Hu hD (O _ _ wW wW wW wW)
 have p2:aa f2 2= .ptr .L 2 1 0:=by rw[lD 2 xW];simp only[qA,seval]
 have p7:aa f2 7= .ptr .S 0 1 0:=by rw[lD 7 xW];simp only[qA,seval]
 clear lD hD O
 simp(maxDischargeDepth:=6) only[qA,eJ,seval,p2,p7,J,atr,H,X,Y,Z]
 exact⟨_,rfl⟩
theorem MH(x:Ex):jA x (jJ x):=rfl
theorem vZ(x:Ex): ∃d,jJ x= [.i .i64 x.op,.i .i64 x.num,.s x.name,d]∧froz1 d=true:=by
 cases x with
 |mk op n s a=>
  cases a with
  |nil=>exact⟨.nilsl,by rw[jJ];rfl,rfl⟩
  |cons b r=>exact⟨_,by rw[jJ];rfl,rfl⟩
def GA(u:Ru):List T:= .i .i64 u.sc:: .s u.nm::jJ u.x
def KO(u:Co):List T:= .i .i64 u.sc::jJ u.x
theorem amX(u:Ru):SG u (GA u):=by
 obtain⟨a,r,e,h1,_⟩:=(MH u.x).cells
 exact⟨a,r,by unfold GA;rw[e],h1,e.symm⟩
theorem amY(u:Co):CoR u (KO u):=by
 obtain⟨a,r,e,h1,_⟩:=(MH u.x).cells
 exact⟨a,r,by unfold KO;rw[e],h1,e.symm⟩
theorem Kg: ∀l:List Ru,aB SG l (l.flatMap GA)
 | []=>rfl
 |u::l=>⟨_,_,rfl,amX u,Kg l⟩
theorem Kh: ∀l:List Co,aB CoR l (l.flatMap KO)
 | []=>rfl
 |u::l=>⟨_,_,rfl,amY u,Kh l⟩
theorem sR: ∀l∈nk,ScK l:=td 6 s3 (td 6 s4 s5)
theorem eR: ∀l∈ruX,PaK 4 l:=td 6 e1 (td 6 e2 e3)
theorem sKo: ∀l∈nn++sq,ScK l:=td 7 s6 s7
theorem eKo: ∀l∈koX,PaK 3 l:=td 8 e4 e5
def BZ:List (List Nat):=hls++nk++nn++sq
theorem amZ: ∀l∈BZ,(tok l).length=(tok l).length/4*4∧0<(tok l).length/4∧(tok l).length/4≤1000:=by decide+kernel
theorem Z2:(∀l∈nk,4≤(tok l).length/4)∧ ∀l∈nn++sq,3≤(tok l).length/4:=by decide+kernel
theorem lnk{l:List Nat}(hl:l∈BZ)(h:ScK l){s r:List ah}(hd:ae pE 117 [.ptr .S 0 1 0,.ptr .S 1 1 0,sr 0 l] s=some (.i .i64 0,r)):Pk l s r:=by
 obtain⟨u,D⟩:=h
 obtain⟨_,h2,_⟩:=amZ l hl
 refine⟨_,_,u,(tok l).length/4-1,D, ?_,rfl,hd⟩
 show some (T.i .i64 (((tok l).length/4-0:Nat):Int))=_
 rw[show(tok l).length/4-0=(tok l).length/4-1+1 by omega]
def Z3(s:Int):List Nat:=if s=1 then [100,117,116,121]else if s=2 then [114,101,115,116]else [112,97,105,114,105,110,103]
theorem Z4{s:Int}(h:s=1∨s=2∨s=3):Gz (Z3 s)=s∧(Z3 s= [100,117,116,121]∨Z3 s= [114,101,115,116]∨Z3 s= [112,97,105,114,105,110,103]):=by
 rcases h with rfl|rfl|rfl <;> decide
def hdR(u:Ru):List T:=S0 1 (Z3 u.sc) 0 0++S0 1 [114,117,108,101] 0 ((Z3 u.sc).length+1)++S0 1 u.nm 0 ((Z3 u.sc).length+6)++S0 1 [105,115] 0 ((Z3 u.sc).length+7+u.nm.length)
def hdK(s:Int)(w:List Nat):List T:=S0 1 (Z3 s) 0 0++S0 1 w 0 ((Z3 s).length+1)++S0 1 [105,115] 0 ((Z3 s).length+2+w.length)
theorem tkR:(nk.map fun l=>(tok l).take 16)=pH.map hdR:=by kernel_rfl
theorem tkK:(nn.map fun l=>(tok l).take 12)=sE.map fun u=>hdK u.sc [99,111,115,116]:=by kernel_rfl
theorem tkC:(sq.map fun l=>(tok l).take 12)=sq.map fun _=>hdK 1 [99,114,101,100,105,116]:=by kernel_rfl
theorem MI{α β γ:Type}{L:List α}{M:List β}{f:α→γ}{g:β→γ}(h:L.map f=M.map g)(i:Nat)(h1:i<L.length)(h2:i<M.length):f L[i]=g M[i]:=by
 have:=congrArg (fun l=>l[i]?) h
 simpa[List.getElem?_eq_getElem,h1,h2]using this
theorem Ki{α β γ:Type}{A:List α}{B:List β}(f:β→γ)(i:Nat)(h1:i<A.length)(h2:i<B.length):(A[i],f B[i])∈A.zip (B.map f):=List.mem_iff_getElem.2 ⟨i,by rw[List.length_zip,List.length_map];omega,by simp⟩
theorem Z5{α β:Type}{A:List α}{B:List β}(i:Nat)(h1:i<A.length)(h2:i<B.length):(A[i],B[i])∈A.zip B:=List.mem_iff_getElem.2 ⟨i,by rw[List.length_zip];omega,by simp⟩
theorem am0: ∀u∈pH,(u.sc=1∨u.sc=2∨u.sc=3)∧iW u.nm=true:=by decide+kernel
theorem am1: ∀u∈sE,u.sc=1∨u.sc=2∨u.sc=3:=by decide+kernel
theorem C5{l:List Nat}(hl:l∈BZ){a:List T}{m i:Nat}(F:(tok l).take m=a){s:List Nat}{r:List T}{N:Int}(h:a.drop (i*4)= .i .i64 1:: .s s:: .i .i64 N::r)(hi:i<(tok l).length/4):Tk (sr 0 l) ((tok l).length/4) i 1 s N:=by
 obtain⟨h1,_,h3⟩:=amZ l hl
 refine Tk.of (tok l) _ i 1 s N (r++(tok l).drop m) hi h3 h1 ?_
 have e:=List.take_append_drop m (tok l)
 rw[F]at e
 have D:i*4≤a.length:=by
  refine Nat.le_of_not_lt fun H=> ?_
  rw[List.drop_eq_nil_of_le yv]at h
  cases h
 have e2:(tok l).drop (i*4)=(a++(tok l).drop m).drop (i*4):=by rw[e]
 rw[e2,List.drop_append_of_le_length D,h]
 rfl
theorem GB{l:List Nat}(hl:l∈BZ)(k:Nat)(hk:k≤(tok l).length/4):kU (sr 0 l)=some ((tok l).length/4)∧te 4 (sr 0 l) k ((tok l).length/4)=some (sr k l):=by
 obtain⟨h1,_,_⟩:=amZ l hl
 refine⟨rfl, ?_⟩
 have h3:((tok l).drop (k*4)).take (((tok l).length/4-k)*4)=(tok l).drop (k*4):=List.take_of_length_le (by rw[List.length_drop,Nat.sub_mul];omega)
 show te 4 (.sl (tok l) _ false) k _=_
 unfold sr
 simp[te,hk,←h1,h3]
theorem am2{l:List Nat}(h:l∈nk):l∈BZ:=by unfold BZ;simp[h]
theorem mem_co{l:List Nat}(h:l∈nn):l∈BZ:=by unfold BZ;simp[h]
theorem am3{l:List Nat}(h:l∈sq):l∈BZ:=by unfold BZ;simp[h]
theorem aEL(x0 x1 x2 x3 x4 x5 x6 iG:T)(sn:List T)(i:Nat)(hi:i<18)(n:Nat)(H:n≤100)(cs:List T)(D:cs.length=n*6):Pk (nk[i]'hi) (stR [x0,x1,x2,x3,x4,x5,x6] iG sn n cs) (stR [x0,x1,x2,x3,x4,x5,x6] iG sn (n+1) (cs++GA (pH[i]'hi))):=by
 have F:nk[i]'hi∈nk:=List.getElem_mem hi
 have hl:=am2 F
 have r:=MI tkR i hi hi
 have h4:=Z2.1 _ F
 obtain⟨I,Br⟩:=am0 _ (List.getElem_mem (h:=hi))
 obtain⟨s,he⟩:=eR (nk[i]'hi,(pH[i]'hi).x) (Ki (A:=nk) (B:=pH) Ru.x i hi hi)
 obtain⟨d,e4,hd⟩:=vZ (pH[i]'hi).x
 rw[show(nk[i]'hi,(pH[i]'hi).x).2=(pH[i]'hi).x from rfl,e4]at he
 obtain⟨J,O⟩:=Z4 I
 obtain⟨U,V⟩:=GB hl 4 h4
 refine lnk hl (sR _ F) ?_
 have h:=aEG x0 x1 x2 x3 x4 x5 x6 iG sn n H cs D _ _ _ _ _ _ _ _ (C5 hl (i:=0) r rfl yv) (C5 hl (i:=1) r rfl yv) (C5 hl (i:=2) r rfl yv) (C5 hl (i:=3) r rfl yv) O Br _ U V rfl _ _ _ _ ⟨rfl,rfl,rfl,hd⟩ s he
 rw[J]at h
 unfold GA
 rw[e4]
 exact h
theorem aEM(x0 x1 x2 x3 x4 x5 x6 iG r:T)(sn:List T)(P:List ah)(I:P.length≤1)(i:Nat)(hi:i<10)(n:Nat)(J:n≤100)(cs:List T)(D:cs.length=n*5):Pk (nn[i]'hi) (stK [x0,x1,x2,x3,x4,x5,x6] iG r sn P n cs) (stK [x0,x1,x2,x3,x4,x5,x6] iG r sn P (n+1) (cs++KO (sE[i]'hi))):=by
 have F:nn[i]'hi∈nn:=List.getElem_mem hi
 have hl:=mem_co F
 have H:=MI tkK i hi hi
 have h4:=Z2.2 _ (List.mem_append_left _ F)
 have O:=am1 _ (List.getElem_mem (h:=hi))
 obtain⟨s,he⟩:=eKo (nn[i]'hi,(sE[i]'hi).x) (List.mem_append_left _ (List.mem_append_left _ (Ki (A:=nn) (B:=sE) Co.x i hi hi)))
 obtain⟨d,e4,hd⟩:=vZ (sE[i]'hi).x
 rw[show(nn[i]'hi,(sE[i]'hi).x).2=(sE[i]'hi).x from rfl,e4]at he
 obtain⟨U,V⟩:=Z4 O
 obtain⟨W,X⟩:=GB hl 3 h4
 refine lnk hl (sKo _ (List.mem_append_left _ F)) ?_
 have h:=aEI x0 x1 x2 x3 x4 x5 x6 iG r sn P I n J cs D _ _ _ _ _ _ (C5 hl (i:=0) H rfl yv) (C5 hl (i:=1) H rfl yv) (C5 hl (i:=2) H rfl yv) V _ W X rfl _ _ _ _ ⟨rfl,rfl,rfl,hd⟩ s he
 rw[U]at h
 unfold KO
 rw[e4]
 exact h
theorem axX(x0 x1 x2 x3 x4 x5 x6 iG r MD:T)(sn:List T)(P:List ah)(H:P.length≤2)(i:Nat)(hi:i<3):Pk (sq[i]'hi) (ZZ [x0,x1,x2,x3,x4,x5,x6] iG r MD sn P []) (ZZ [x0,x1,x2,x3,x4,x5,x6] iG r MD sn P (jJ (CQ[i]'hi))):=by
 have D:sq[i]'hi∈sq:=List.getElem_mem hi
 have hl:=am3 D
 have F:=MI tkC i hi hi
 have h4:=Z2.2 _ (List.mem_append_right _ D)
 obtain⟨s,he⟩:=eKo (sq[i]'hi,CQ[i]'hi) (List.mem_append_left _ (List.mem_append_right _ (Z5 (A:=sq) (B:=CQ) i hi hi)))
 obtain⟨d,e4,hd⟩:=vZ (CQ[i]'hi)
 rw[show(sq[i]'hi,CQ[i]'hi).2=CQ[i]'hi from rfl,e4]at he
 obtain⟨I,J⟩:=GB hl 3 h4
 refine lnk hl (sKo _ (List.mem_append_right _ D)) ?_
 rw[e4]
 exact aEJ x0 x1 x2 x3 x4 x5 x6 iG r MD sn P H _ _ _ _ _ (C5 hl (i:=0) F rfl yv) (C5 hl (i:=1) F rfl yv) (C5 hl (i:=2) F rfl yv) _ I J rfl _ _ _ _ ⟨rfl,rfl,rfl,hd⟩ s he
theorem dH(f:Nat)(L:List Nat)(g:Nat→List T)(s r:Nat→List ah)(h:(L.map fun x=>NJ pE 1000 f (g x) (s x))=L.map fun x=>some (.i .i64 0,r x)): ∀x∈L,ae pE f (g x) (s x)=some (.i .i64 0,r x):=fun x hx=>DCall_iff.2 ⟨1000,List.map_inj_left.1 h x hx⟩
theorem hK(i:Nat)(hi:i<7)(j:Nat)(F:j≤2){s r:List ah}(h:ae pE 117 [.ptr .S 0 1 0,.ptr .S 1 1 0,sr 0 (kg i j)] s=some (.i .i64 0,r)):Pk (kg i j) s r:=by
 have D:kg i j∈hls:=List.mem_flatMap.2 ⟨i,List.mem_range.2 hi,by
  have:j=0∨j=1∨j=2:=yv
  rcases this with rfl|rfl|rfl <;> simp⟩
 exact lnk (by unfold BZ;simp[D]) (s2 _ D) h
theorem m3{j:Nat}(h:j≤2):j∈ [0,1,2]:=by
 have:j=0∨j=1∨j=2:=yv
 simpa using this
theorem h0(x0 x1 x2 x3 x4 x5 x6:T)(j:Nat)(r:j≤2):Pk (kg 0 j) (su [x0,x1,x2,x3,x4,x5,x6] .nilsl [.b false,.b false,.b false,.b false,.b false,.b false,.b false]) (su [.i .i64 (rpB j),x1,x2,x3,x4,x5,x6] .nilsl [.b true,.b false,.b false,.b false,.b false,.b false,.b false]):=hK 0 yv j r (dH 117 [0,1,2] (fun j=> [.ptr .S 0 1 0,.ptr .S 1 1 0,sr 0 (kg 0 j)]) (fun _=>su [x0,x1,x2,x3,x4,x5,x6] .nilsl [.b false,.b false,.b false,.b false,.b false,.b false,.b false]) (fun j=>su [.i .i64 (rpB j),x1,x2,x3,x4,x5,x6] .nilsl [.b true,.b false,.b false,.b false,.b false,.b false,.b false]) (by kernel_rfl) j (m3 r))
theorem h1(x0 x1 x2 x3 x4 x5 x6:T)(j:Nat)(r:j≤2):Pk (kg 1 j) (su [x0,x1,x2,x3,x4,x5,x6] .nilsl [.b true,.b false,.b false,.b false,.b false,.b false,.b false]) (su [x0,.i .i64 (rlB j),x2,x3,x4,x5,x6] .nilsl [.b true,.b true,.b false,.b false,.b false,.b false,.b false]):=hK 1 yv j r (dH 117 [0,1,2] (fun j=> [.ptr .S 0 1 0,.ptr .S 1 1 0,sr 0 (kg 1 j)]) (fun _=>su [x0,x1,x2,x3,x4,x5,x6] .nilsl [.b true,.b false,.b false,.b false,.b false,.b false,.b false]) (fun j=>su [x0,.i .i64 (rlB j),x2,x3,x4,x5,x6] .nilsl [.b true,.b true,.b false,.b false,.b false,.b false,.b false]) (by kernel_rfl) j (m3 r))
theorem h2(x0 x1 x2 x3 x4 x5 x6:T)(j:Nat)(r:j≤2):Pk (kg 2 j) (su [x0,x1,x2,x3,x4,x5,x6] .nilsl [.b true,.b true,.b false,.b false,.b false,.b false,.b false]) (su [x0,x1,.i .i64 (Sf j),x3,x4,x5,x6] .nilsl [.b true,.b true,.b true,.b false,.b false,.b false,.b false]):=hK 2 yv j r (dH 117 [0,1,2] (fun j=> [.ptr .S 0 1 0,.ptr .S 1 1 0,sr 0 (kg 2 j)]) (fun _=>su [x0,x1,x2,x3,x4,x5,x6] .nilsl [.b true,.b true,.b false,.b false,.b false,.b false,.b false]) (fun j=>su [x0,x1,.i .i64 (Sf j),x3,x4,x5,x6] .nilsl [.b true,.b true,.b true,.b false,.b false,.b false,.b false]) (by kernel_rfl) j (m3 r))
theorem h3(x0 x1 x2 x3 x4 x5 x6:T)(j:Nat)(r:j≤2):Pk (kg 3 j) (su [x0,x1,x2,x3,x4,x5,x6] .nilsl [.b true,.b true,.b true,.b false,.b false,.b false,.b false]) (su [x0,x1,x2,.i .i64 (Fj j),x4,x5,x6] .nilsl [.b true,.b true,.b true,.b true,.b false,.b false,.b false]):=hK 3 yv j r (dH 117 [0,1,2] (fun j=> [.ptr .S 0 1 0,.ptr .S 1 1 0,sr 0 (kg 3 j)]) (fun _=>su [x0,x1,x2,x3,x4,x5,x6] .nilsl [.b true,.b true,.b true,.b false,.b false,.b false,.b false]) (fun j=>su [x0,x1,x2,.i .i64 (Fj j),x4,x5,x6] .nilsl [.b true,.b true,.b true,.b true,.b false,.b false,.b false]) (by kernel_rfl) j (m3 r))
theorem h4(x0 x1 x2 x3 x4 x5 x6:T)(j:Nat)(r:j≤2):Pk (kg 4 j) (su [x0,x1,x2,x3,x4,x5,x6] .nilsl [.b true,.b true,.b true,.b true,.b false,.b false,.b false]) (su [x0,x1,x2,x3,.i .i64 (lyB j),x5,x6] .nilsl [.b true,.b true,.b true,.b true,.b true,.b false,.b false]):=hK 4 yv j r (dH 117 [0,1,2] (fun j=> [.ptr .S 0 1 0,.ptr .S 1 1 0,sr 0 (kg 4 j)]) (fun _=>su [x0,x1,x2,x3,x4,x5,x6] .nilsl [.b true,.b true,.b true,.b true,.b false,.b false,.b false]) (fun j=>su [x0,x1,x2,x3,.i .i64 (lyB j),x5,x6] .nilsl [.b true,.b true,.b true,.b true,.b true,.b false,.b false]) (by kernel_rfl) j (m3 r))
theorem h5(x0 x1 x2 x3 x4 x5 x6:T)(j:Nat)(r:j≤2):Pk (kg 5 j) (su [x0,x1,x2,x3,x4,x5,x6] .nilsl [.b true,.b true,.b true,.b true,.b true,.b false,.b false]) (su [x0,x1,x2,x3,x4,.i .i64 (nfB j),.i .i64 (ntB j)] .nilsl [.b true,.b true,.b true,.b true,.b true,.b false,.b true]):=hK 5 yv j r (dH 117 [0,1,2] (fun j=> [.ptr .S 0 1 0,.ptr .S 1 1 0,sr 0 (kg 5 j)]) (fun _=>su [x0,x1,x2,x3,x4,x5,x6] .nilsl [.b true,.b true,.b true,.b true,.b true,.b false,.b false]) (fun j=>su [x0,x1,x2,x3,x4,.i .i64 (nfB j),.i .i64 (ntB j)] .nilsl [.b true,.b true,.b true,.b true,.b true,.b false,.b true]) (by kernel_rfl) j (m3 r))
theorem h6(x0 x1 x2 x3 x4 x5 x6:T)(j:Nat)(r:j≤2):Pk (kg 6 j) (su [x0,x1,x2,x3,x4,x5,x6] .nilsl [.b true,.b true,.b true,.b true,.b true,.b false,.b true]) (su [x0,x1,x2,x3,x4,x5,x6] (.sl (.s yC::jJ (pV j)) 1 false) [.b true,.b true,.b true,.b true,.b true,.b false,.b true]):=hK 6 yv j r (dH 117 [0,1,2] (fun j=> [.ptr .S 0 1 0,.ptr .S 1 1 0,sr 0 (kg 6 j)]) (fun _=>su [x0,x1,x2,x3,x4,x5,x6] .nilsl [.b true,.b true,.b true,.b true,.b true,.b false,.b true]) (fun j=>su [x0,x1,x2,x3,x4,x5,x6] (.sl (.s yC::jJ (pV j)) 1 false) [.b true,.b true,.b true,.b true,.b true,.b false,.b true]) (by kernel_rfl) j (m3 r))
def KN(b:Nat→Int):List T:= [.i .i64 (rpB (kB b 0)),.i .i64 (rlB (kB b 1)),.i .i64 (Sf (kB b 2)),.i .i64 (Fj (kB b 3)),.i .i64 (lyB (kB b 4)),.i .i64 (nfB (kB b 5)),.i .i64 (ntB (kB b 5))]
def S1(b:Nat→Int):T:= .sl (.s yC::jJ (pV (kB b 6))) 1 false
def snU:List T:= [.b true,.b true,.b true,.b true,.b true,.b false,.b true]
theorem am4(b:Nat→Int):vY (hdB b) kS0 (su (KN b) (S1 b) snU):=by
 have e: ∀i,b i%3=(kB b i:Int):=fun i=>by unfold kB;omega
 unfold hdB kS0
 rw[e 0,e 1,e 2,e 3,e 4,e 5,e 6]
 exact⟨_,h0 _ _ _ _ _ _ _ _ (sH b 0),_,h1 _ _ _ _ _ _ _ _ (sH b 1),_,h2 _ _ _ _ _ _ _ _ (sH b 2),_,h3 _ _ _ _ _ _ _ _ (sH b 3),_,h4 _ _ _ _ _ _ _ _ (sH b 4),_,h5 _ _ _ _ _ _ _ _ (sH b 5),_,h6 _ _ _ _ _ _ _ _ (sH b 6),rfl⟩
theorem MJ{α:Type}(L:List (List Nat))(X:List α)(f:α→List T)(sz:Nat)(St:Nat→List T→List ah)(D: ∀x,(f x).length=sz)(hl:L.length=X.length)(F:X.length≤50)
  (r: ∀(i:Nat) (h1:i<L.length) (h2:i<X.length) (n:Nat),n≤100→ ∀cs:List T,cs.length=n*sz→Pk L[i] (St n cs) (St (n+1) (cs++f X[i]))) (p:Nat→Bool): ∀k,k≤L.length→vY (cY p 0 (L.take k)) (St 0 []) (St (cY p 0 (X.take k)).length ((cY p 0 (X.take k)).flatMap f))
 |0,_=>by simp[cY,vY]
 |k+1,hk=>by
  have ih:=MJ L X f sz St D hl F r p k yv
  rw[rU p L k yv,rU p X k yv]
  have kg:(cY p 0 (X.take k)).length≤k:=by
   have:=(ee p 0 (X.take k)).length_le
   rw[List.length_take]at this
   omega
  refine qQ ih ?_
  by_cases h:p k=true
  ·rw[if_pos h,if_pos h,List.length_append,List.length_singleton,List.flatMap_append,List.flatMap_cons,List.flatMap_nil,List.append_nil]
   exact⟨_,r k yv yv _ yv _ (iT D _),rfl⟩
  ·rw[if_neg h,if_neg h,List.append_nil]
   exact rfl
def zK(n:Nat)(cs:List T):List ah:=if n=0 then []else [⟨n,.cells cs 0 false⟩]
def slR(n:Nat):T:=if n=0 then .nilsl else .isl .S 2 n 0 n 6
def slK(k n:Nat):T:=if n=0 then .nilsl else .isl .S k n 0 n 5
theorem afc(hd:List T)(iG:T)(sn:List T)(n:Nat)(cs:List T):stR hd iG sn n cs=stK hd iG (slR n) sn (zK n cs) 0 []:=by
 unfold stR stK slR zK
 simp
theorem afd(hd:List T)(iG r:T)(sn:List T)(P:List ah)(n:Nat)(cs:List T):stK hd iG r sn P n cs=ZZ hd iG r (slK (2+P.length) n) sn (P++zK n cs) []:=by
 unfold stK ZZ slK zK
 simp
theorem afe(hd:List T)(iG:T)(sn:List T):su hd iG sn=stR hd iG sn 0 []:=by
 unfold su stR
 simp
def axY(b:Nat→Int):List ah:=
 ZZ (KN b) (S1 b) (slR (mQ b).ru.length) (slK (2+(zK (mQ b).ru.length ((mQ b).ru.flatMap GA)).length) (mQ b).co.length) snU (zK (mQ b).ru.length ((mQ b).ru.flatMap GA)++zK (mQ b).co.length ((mQ b).co.flatMap KO)) ((mQ b).cr.flatMap jJ)
theorem am6(b:Nat→Int):vY (Si b) kS0 (axY b):=by
 unfold Si
 have h0:=am4 b
 have h1:=MJ nk pH GA 6 (stR (KN b) (S1 b) snU) (fun u=>by unfold GA;rw[List.length_cons,List.length_cons,oY]) rfl xW (fun i h1 _ n D cs r=>aEL _ _ _ _ _ _ _ _ _ i h1 n D cs r) (zH b) 18 xW
 have e1:nk.take 18=nk:=rfl
 have e2:pH.take 18=pH:=rfl
 rw[e1,e2,afc _ _ _ (cY (zH b) 0 pH).length]at h1
 rw[afe]at h0
 have H:(zK (cY (zH b) 0 pH).length ((cY (zH b) 0 pH).flatMap GA)).length≤1:=by unfold zK;split <;> simp
 have h2:=MJ nn sE KO 5 (stK (KN b) (S1 b) (slR (cY (zH b) 0 pH).length) snU (zK (cY (zH b) 0 pH).length ((cY (zH b) 0 pH).flatMap GA))) (fun u=>by unfold KO;rw[List.length_cons,oY]) rfl xW (fun i h1 _ n D cs r=>aEM _ _ _ _ _ _ _ _ _ _ _ H i h1 n D cs r) (Gv b) 10 xW
 have e3:nn.take 10=nn:=rfl
 have e4:sE.take 10=sE:=rfl
 rw[e3,e4,afd _ _ _ _ _ (cY (Gv b) 0 sE).length]at h2
 refine qQ (qQ (qQ h0 h1) h2) ?_
 have F:(zK (cY (zH b) 0 pH).length ((cY (zH b) 0 pH).flatMap GA)++zK (cY (Gv b) 0 sE).length ((cY (Gv b) 0 sE).flatMap KO)).length≤2:=by
  have:(zK (cY (Gv b) 0 sE).length ((cY (Gv b) 0 sE).flatMap KO)).length≤1:=by unfold zK;split <;> simp
  rw[List.length_append];omega
 show vY (crD b) _ (ZZ (KN b) (S1 b) (slR (cY (zH b) 0 pH).length) (slK (2+(zK (cY (zH b) 0 pH).length ((cY (zH b) 0 pH).flatMap GA)).length) (cY (Gv b) 0 sE).length) snU (zK (cY (zH b) 0 pH).length ((cY (zH b) 0 pH).flatMap GA)++zK (cY (Gv b) 0 sE).length ((cY (Gv b) 0 sE).flatMap KO)) ((crX b).flatMap jJ))
 unfold crD crX
 by_cases h:b 41%4<3
 ·rw[if_pos h,if_pos h,List.flatMap_cons,List.flatMap_nil,List.append_nil]
  refine⟨_, ?_,rfl⟩
  have h3:(b 41%4).toNat<3:=yv
  rw[show sq.getD (b 41%4).toNat []=sq[(b 41%4).toNat]'h3 from by rw[List.getD_eq_getElem?_getD,List.getElem?_eq_getElem h3];rfl,show CQ.getD (b 41%4).toNat (.mk 1 2 [] [])=CQ[(b 41%4).toNat]'h3 from by rw[List.getD_eq_getElem?_getD,List.getElem?_eq_getElem h3];rfl]
  exact axX _ _ _ _ _ _ _ _ _ _ _ _ F _ h3
 ·rw[if_neg h,if_neg h]
  exact rfl
def Kj(n:Nat)(cs:List T):T:=if n=0 then .nilsl else .sl cs n false
theorem am7(x0 x1 x2 x3 x4 x5 x6 iG:T)(sn:List T)(hx:froz1 x0=true∧froz1 x1=true∧froz1 x2=true∧froz1 x3=true∧froz1 x4=true∧froz1 x5=true∧froz1 x6=true∧froz1 iG=true)(n m:Nat)(rs ks cr:List T)(hr:rs.length=n*6)(hk:ks.length=m*5)(hc:cr= []∨cr.length=4)(q:Nat)(lh:aD ah):
  ∃us,tf q lh (ZZ [x0,x1,x2,x3,x4,x5,x6] iG (slR n) (slK (2+(zK n rs).length) m) sn (zK n rs++zK m ks) cr) false [x0,x1,x2,x3,x4,x5,x6,iG,slR n,slK (2+(zK n rs).length) m,if cr= []then .nilsl else .isl .S (2+(zK n rs++zK m ks).length) 1 0 1 4,.nilsl,.nilsl,.i .i64 0]=some ([x0,x1,x2,x3,x4,x5,x6,iG,Kj n rs,Kj m ks,Kj (if cr= []then 0 else 1) cr,.nilsl,.nilsl,.i .i64 0],us):=by
 obtain⟨V,W,X,Y,Z,y5,y6,y7⟩:=hx
 unfold ZZ slR slK zK Kj
 have F:cr≠ []→cr.length=1*4:=fun h=>by rw[hc.resolve_left h]
 have eR:=fun C D t=>BR (m:=q) (lh:=lh) (s:=C::D::⟨n,.cells rs 0 false⟩::t) (k:=2) rfl hr
 have H:=fun C D t=>BR (m:=q) (lh:=lh) (s:=C::D::⟨m,.cells ks 0 false⟩::t) (k:=2) rfl hk
 have I:=fun C D r t=>BR (m:=q) (lh:=lh) (s:=C::D::r::⟨m,.cells ks 0 false⟩::t) (k:=3) rfl hk
 have J:=fun h C D t=>BR (m:=q) (lh:=lh) (s:=C::D::⟨1,.cells cr 0 false⟩::t) (k:=2) rfl (F h)
 have O:=fun h C D r t=>BR (m:=q) (lh:=lh) (s:=C::D::r::⟨1,.cells cr 0 false⟩::t) (k:=3) rfl (F h)
 have U:=fun h C D r r' t=>BR (m:=q) (lh:=lh) (s:=C::D::r::r'::⟨1,.cells cr 0 false⟩::t) (k:=4) rfl (F h)
 have n1: ¬(1:Nat)=0:=xW
 by_cases hn:n=0 <;> by_cases hm:m=0 <;> by_cases Cg:cr= []
 all_goals
  simp only[qA,hn,hm,Cg,n1,V,W,X,Y,Z,y5,y6,y7,eR,H,I,J,O,U]
  exact⟨_,rfl⟩
def pw(l:List Nat):Bool:=decide (l.length≤100)&&l.all fun c=>decide (32≤c)&&decide (c≤126)
theorem tG{r:Int}(P:Int→Prop)(h0:P 0)(h1:P 1)(h2:P 2)(n:Int)(h:r=n%3):P r:=by
 have:r=0∨r=1∨r=2:=yv
 rcases this with rfl|rfl|rfl <;> assumption
theorem lo0(n:Int):pw ([114,101,112,111,114,116,32]++BE (n%3))=true:=tG (fun r=>pw ([114,101,112,111,114,116,32]++BE r)=true) xW xW xW n rfl
theorem lo1(n:Int):pw ([114,101,108,101,97,115,101,32]++EV (n%3))=true:=tG (fun r=>pw ([114,101,108,101,97,115,101,32]++EV r)=true) xW xW xW n rfl
theorem lo2(n:Int):pw ([99,111,110,110,101,99,116,32]++wS (n%3))=true:=tG (fun r=>pw ([99,111,110,110,101,99,116,32]++wS r)=true) xW xW xW n rfl
theorem lo3(n:Int):pw ([115,105,116,32]++SC (n%3))=true:=tG (fun r=>pw ([115,105,116,32]++SC r)=true) xW xW xW n rfl
theorem lo4(n:Int):pw ([108,97,121,111,118,101,114,32]++hv4 (n%3))=true:=tG (fun r=>pw ([108,97,121,111,118,101,114,32]++hv4 r)=true) xW xW xW n rfl
theorem lo5(n:Int):pw ([110,105,103,104,116,32]++Sh (n%3))=true:=tG (fun r=>pw ([110,105,103,104,116,32]++Sh r)=true) xW xW xW n rfl
theorem lo6(n:Int):pw ([99,111,110,115,116,32,115,104,105,102,116,115,32,105,115,32]++SV (n%3))=true:=tG (fun r=>pw ([99,111,110,115,116,32,115,104,105,102,116,115,32,105,115,32]++SV r)=true) xW xW xW n rfl
theorem am8(b:Nat→Int): ∀l∈Si b,pw l=true:=by
 have hr:nk.all pw=true:=by decide+kernel
 have hk:nn.all pw=true:=by decide+kernel
 have hc:sq.all pw=true:=by decide+kernel
 intro l hl
 unfold Si at hl
 rcases List.mem_append.1 hl with hl|hl
 ·rcases List.mem_append.1 hl with hl|hl
  ·rcases List.mem_append.1 hl with hl|hl
   ·unfold hdB at hl
    simp only[List.mem_cons,List.not_mem_nil,or_false]at hl
    rcases hl with rfl|rfl|rfl|rfl|rfl|rfl|rfl
    ·exact lo0 _
    ·exact lo1 _
    ·exact lo2 _
    ·exact lo3 _
    ·exact lo4 _
    ·exact lo5 _
    ·exact lo6 _
   ·exact List.all_eq_true.1 hr l ((ee _ _ _).subset hl)
  ·exact List.all_eq_true.1 hk l ((ee _ _ _).subset hl)
 ·unfold crD at hl
  split at hl
  ·rename_i h
   rw[List.mem_singleton]at hl
   subst hl
   have r:(b 41%4).toNat<sq.length:=by show(b 41%4).toNat<3;omega
   rw[List.getD_eq_getElem?_getD,List.getElem?_eq_getElem r]
   exact List.all_eq_true.1 hc _ (List.getElem_mem r)
  ·simp at hl
theorem Pl(b:Nat→Int):(Si b).length≤100:=by
 unfold Si crD
 have h1:=(ee (zH b) 0 nk).length_le
 have h2:=(ee (Gv b) 0 nn).length_le
 have e1:nk.length=18:=rfl
 have e2:nn.length=10:=rfl
 have e3:(hdB b).length=7:=rfl
 simp only[List.length_append]
 split <;> simp <;> omega
theorem am9(b:Nat→Int):ZR (kF (Si b))∧ ∀l∈Si b,10∉l:=ae5 (Si b) (fun l hl=>by
 have h:=am8 b l hl
 unfold pw at h
 simp only[Bool.and_eq_true,decide_eq_true_eq,List.all_eq_true]at h
 exact h) (Pl b)
theorem GC{n:Nat}{cs:List T}(h:n=0→cs= []):IsSl (Kj n cs) n cs:=fe h
theorem Eu: ∀l:List Ex,l.flatMap jJ=pU l
 | []=>by rw[pU];rfl
 |x::l=>by rw[pU,List.flatMap_cons,Eu l]
theorem Z6(l:List Ex):cu l (l.flatMap jJ):=Eu l
theorem aiN(b:Nat→Int):mG (mQ b) (S1 b) (Kj (mQ b).ru.length ((mQ b).ru.flatMap GA)) (Kj (mQ b).co.length ((mQ b).co.flatMap KO)) (Kj (mQ b).cr.length ((mQ b).cr.flatMap jJ)) .nilsl .nilsl:=by
 refine⟨?_, ?_, ?_, ?_, ?_, ?_⟩
 ·refine⟨.s yC::jJ (pV (kB b 6)),.inr ⟨_,rfl⟩, ?_⟩
  show dn [(yC,pV (kB b 6))] _
  rw[dn]
  exact⟨jJ (pV (kB b 6)),[],by simp,MH _,by rw[dn]⟩
 ·exact⟨_,GC fun h=>by rw[List.length_eq_zero_iff.1 h];rfl,Kg _⟩
 ·exact⟨_,GC fun h=>by rw[List.length_eq_zero_iff.1 h];rfl,Kh _⟩
 ·exact⟨_,GC fun h=>by rw[List.length_eq_zero_iff.1 h];rfl,Z6 _⟩
 ·exact⟨[],.inl ⟨rfl,rfl,rfl⟩,rfl⟩
 ·exact⟨[],.inl ⟨rfl,rfl,rfl⟩,rfl⟩
theorem ana(b:Nat→Int):fY (mQ b)=0:=by
 have h:=amG b
 unfold fi at h
 by_cases r:fY (mQ b)=0
 ·exact r
 ·rw[if_pos r]at h;exact h
theorem axZ{u:Ru}(h:u∈pH):u.x.sm:=List.mem_append_left _ (List.mem_append_left _ (List.mem_append_left _ (List.mem_map_of_mem h)))
theorem ax0{u:Co}(h:u∈sE):u.x.sm:=List.mem_append_left _ (List.mem_append_left _ (List.mem_append_right _ (List.mem_map_of_mem h)))
theorem ax1{x:Ex}(h:x∈CQ):x.sm:=List.mem_append_left _ (List.mem_append_right _ h)
theorem ax2{j:Nat}(h:j≤2):(pV j).sm:=List.mem_append_right _ (three (fun j=>pV j∈shB) (by simp[pV,shB]) (by simp[pV,shB]) (by simp[pV,shB]) h)
theorem Z7(k:Nat→Nat)(hk: ∀i,k i≤2)(D:List Ru)(F:List Co)(cr:List Ex)(h1:D.Sublist pH)(h2:F.Sublist sE)(h3: ∀x∈cr,x∈CQ):Hb (jl k D F cr):=by
 refine⟨fun c hc=> ?_,fun u r=>⟨Nat.zero_le _,axZ (h1.subset r)⟩,fun u r=>⟨Nat.zero_le _,ax0 (h2.subset r)⟩,fun x hx=>⟨Nat.zero_le _,ax1 (h3 x hx)⟩,⟨k 6,hk 6,rfl⟩,fun u r=>List.mem_append_left _ (List.mem_append_left _ (List.mem_map_of_mem (f:=fun u:Ru=>(u.sc,u.x)) (h1.subset r))),fun u r=>List.mem_append_left _ (List.mem_append_right _ (List.mem_map_of_mem (f:=fun u:Co=>(u.sc,u.x)) (h2.subset r))),fun x hx=>List.mem_append_right _ (List.mem_map_of_mem (f:=fun x:Ex=>((1:Int),x)) (h3 x hx))⟩
 have hc:c=(yC,pV (k 6)):=List.mem_singleton.1 hc
 subst hc
 exact⟨Nat.zero_le _,ax2 (hk 6)⟩
def lq(b:Nat→Int):List T:=aY (mQ b) (S1 b) (Kj (mQ b).ru.length ((mQ b).ru.flatMap GA)) (Kj (mQ b).co.length ((mQ b).co.flatMap KO)) (Kj (mQ b).cr.length ((mQ b).cr.flatMap jJ)) .nilsl .nilsl
theorem ax3(b:Nat→Int): ∃s,ae pE 64 [.s (kF (Si b))] []=some (.tup [.agg (lq b),.i .i64 0,.i .i64 0],s):=by
 obtain⟨J,O⟩:=am9 b
 have hl:=Pl b
 have U:Hb (mQ b):=Z7 _ (sH b) _ _ _ (ee _ _ _) (ee _ _ _) (BV b).1
 have D:=ana b
 have hs:kM (mQ b)=true:=by
  by_cases h:kM (mQ b)=true
  ·exact h
  ·unfold fY at D
   simp[h]at D
   split at D <;> simp at D
 have H:=I8 (mQ b) _ _ _ _ _ _ (aiN b) (U.sm hs)
 rw[D]at H
 have Cg:(mQ b).cr.length≤1:=(BV b).2
 have hc:(mQ b).cr.flatMap jJ= []∨((mQ b).cr.flatMap jJ).length=4:=by
  cases h:(mQ b).cr with
  |nil=>exact .inl rfl
  |cons x r=>
   rw[h]at Cg
   have:r= []:=List.length_eq_zero_iff.1 (by simpa using Cg)
   subst this
   exact .inr (by simp[oY])
 have I:=fun q lh=>am7 (iG:=S1 b) (sn:=snU) (x0:= .i .i64 (rpB (kB b 0))) (x1:= .i .i64 (rlB (kB b 1))) (x2:= .i .i64 (Sf (kB b 2))) (x3:= .i .i64 (Fj (kB b 3))) (x4:= .i .i64 (lyB (kB b 4))) (x5:= .i .i64 (nfB (kB b 5))) (x6:= .i .i64 (ntB (kB b 5))) (hx:=⟨rfl,rfl,rfl,rfl,rfl,rfl,rfl,rfl⟩) (n:=(mQ b).ru.length) (m:=(mQ b).co.length) (rs:=(mQ b).ru.flatMap GA) (ks:=(mQ b).co.flatMap KO) (cr:=(mQ b).cr.flatMap jJ) (hr:=iT (fun u=>by unfold GA;rw[List.length_cons,List.length_cons,oY]) _) (hk:=iT (fun u=>by unfold KO;rw[List.length_cons,oY]) _) (hc:=hc) (q:=q) (lh:=lh)
 have F:(if(mQ b).cr.flatMap jJ= []then 0 else 1)=(mQ b).cr.length:=by
  cases h:(mQ b).cr with
  |nil=>rfl
  |cons x r=>
   rw[h]at Cg
   have:r= []:=List.length_eq_zero_iff.1 (by simpa using Cg)
   subst this
   obtain⟨d,e,_⟩:=vZ x
   rw[List.flatMap_cons,e]
   rfl
 simp only[F]at I
 have ha:=am6 b
 unfold axY at ha
 exact Z1 (Si b) J O yv _ (lq b) _ rfl (fun q lh=>I q lh) ha _ H
theorem anb(xs:List Int)(la:T)(hl:IsSl la xs.length (ints xs)):ae pE 25 [la] []=some (.agg (lq (bJ xs)),[]):=by
 obtain⟨s,I⟩:=ax3 (bJ xs)
 have J:=ae8 xs la hl
 have O:=hl.froz
 have r:(lq (bJ xs)).length=14:=rfl
 have h1:(lq (bJ xs)).all froz1=true:=by
  unfold lq aY S1 Kj
  repeat' split
  all_goals rfl
 have D:(lq (bJ xs)).take 14=lq (bJ xs):=by rw[←r];exact List.take_length
 have F:=mR [T.i IntKind.i64 0,T.i IntKind.i64 0,T.i IntKind.i64 0,T.i IntKind.i64 0,T.i IntKind.i64 0,T.i IntKind.i64 0,T.i IntKind.i64 0,T.nilsl,T.nilsl,T.nilsl,T.nilsl,T.nilsl,T.nilsl,T.i IntKind.i64 0] (lq (bJ xs)) (by rw[r];rfl)
 generalize lq (bJ xs)=cs at*
 have H:=fun m lh sh keep=>Bc (m:=m) (lh:=lh) (sh:=sh) (keep:=keep) h1
 rw[au ajl (by simp[c25])]
 simp(maxDischargeDepth:=6) only[qA,seval,c25,J,I,O,aAU,aAT,r,D,F,H]
end Go.Proofs.YtnkgnjecmfkcfaaGreat
namespace Go.Ev
open Go
def MK(lh:aD ah)(sh:List ah)(args:List T):List (Sp×Nat):=(bh (fz false aJ) args).log (St.mk .nil lh sh).get sh.length
theorem Sk(r:List (Sp×Nat)):eD r []=true:=by unfold eD;rw[List.all_eq_true];intro x _;rfl
theorem Pm{E:Env}{call:jP}{n:Nat}{fr:Fr}{lh:aD ah}{sh:List ah}{ds:List (List Nat×aF)}{br:List FP}{u:List Nat}{d:Option Nat}{f:Nat}{af:aj}{r:List aP}{args:List T}(F:E.fn f=some af)(he:af.eff=false)(H:af.own=none)(ha:r.map (rd fr)=args){q:List T×List Up}(D:yU lh sh false args=some q){v:T}{s:List ah}(hc:call f q.1 []=some (v,s)){w:List (Sp×Nat)}(I:(if scalar v=true then []else cR q.2)=w):
  aK E call n ((u,⟨d,.callf f r,none⟩)::ds) br ⟨fr,lh,sh⟩=if meets u br ⟨false,MK lh sh args,w⟩=true then ke E call n ds (br++ [⟨false,MK lh sh args,w⟩]) (ai E call n [⟨d,.callf f r,none⟩] ⟨fr,lh,sh⟩)else none:=by
 subst ha I
 refine mZ fun J=> ?_
 unfold bN eE
 have O:bB (St.mk fr lh sh).rho (.callf f r)=some (some (f,r.map (rd fr))):=by rw[dm];rfl
 unfold yU at D
 unfold MK
 rw[←lN (fr:=fr)]at D ⊢
 simp only[O,F,he,D]
 have U:inB (St.mk fr lh sh) q.2=true:=u7 (fun t p h=>LO _ _ t p h) _ _ D
 simp only[U,Bool.not_true,Bool.false_eq_true,if_false,H,hc]
end Go.Ev
namespace Go.Proofs.YtnkgnjecmfkcfaaGreat
open Go Go.Ev
def baT:T:= .sl [.s [65,65,65],.s [66,66,66]] 2 true
theorem ane:ae pE 26 [] []=some (baT,[]):=by
 rw[au ajm (by simp[c26])]
 unfold baT
 simp(maxDischargeDepth:=6) only[qA,seval,c26,repl]
theorem Z8{q:aD ah}{v:T}{k:Nat}{cs:List T}(h:bg q v k 1 60 cs): ∃g r,v= .isl .L k g 0 60 1∧ab q k=⟨g,.cells cs r false⟩∧ ∀(lh:aD ah) (sh:List ah) (keep:Bool),ab lh k=⟨g,.cells cs r false⟩→fzV lh sh keep (.isl .L k g 0 60 1)=some (bA 60 cs,[(.L,k,⟨g,.cells cs cs.length false⟩)]):=by
 rcases h with⟨h0,_⟩|⟨g,r,rfl,ho,hl,hp⟩
 ·cases h0
 ·refine⟨g,r,rfl,ho,fun lh sh keep D=> ?_⟩
  have F:bg lh (.isl .L k g 0 60 1) k 1 60 cs:=Or.inr ⟨g,r,rfl,D,hl,hp⟩
  rw[F.fzV]
  unfold fzU
  simp only[D]
section
variable(xs:List Int)(la:T)(hl:IsSl la xs.length (ints xs))
include hl
def tA(xs:List Int):Nat→Int:=bJ (atR (bJ xs) 60)
def Ew(xs:List Int):Nat→Int:=bJ (atR (fun i=>bJ xs (60+i)) 60)
def oA(xs:List Int):Nat→Int:=bJ (atR (fun i=>bJ xs (120+i)) 60)
def S2(xs:List Int):T:=bA (pN (tA xs)) ((nZ (tA xs)).fl.flatMap ti)
def oTB(xs:List Int):T:=bA (Gu (oA xs) (pN (tA xs))).length (ints ((Gu (oA xs) (pN (tA xs))).map Int.ofNat))
omit hl in
theorem GD(xs:List Int):IsSl (S2 xs) (pN (tA xs)) ((nZ (tA xs)).fl.flatMap ti):=fe fun h=>by
 have:=nj (tA xs);omega
omit hl in
theorem wa(xs:List Int):IsSl (oTB xs) (Gu (oA xs) (pN (tA xs))).length (ints ((Gu (oA xs) (pN (tA xs))).map Int.ofNat)):=fe fun h=>by
 rw[List.length_eq_zero_iff.1 h];rfl
theorem aff:ae pE 7 [la] []=some (.tup [.agg [C3,C4,S2 xs],.agg (lq (Ew xs)),baT,oTB xs],[]):=by
 have hL:=fun fr lh sh=>aEE xs la hl fr lh sh
 have hz:=hl.froz
 have h6:=fun(f:Nat→Int)=>Ph f 60
 have H: ∀f:Nat→Int,IsSl (bA 60 (ints (atR f 60))) (atR f 60).length (ints (atR f 60)):=fun f=>by
  rw[Ph];exact fe fun h=>by cases h
 obtain⟨v,e1,hv⟩:=amN (atR (bJ xs) 60) _ (H _)
 have e2:=anb _ _ (H fun i=>bJ xs (60+i))
 have F:=GD xs
 have e3:=amO _ _ (H fun i=>bJ xs (120+i)) C3 C4 (S2 xs) _ _ F (by have:=nj (tA xs);omega) ⟨rfl,rfl,F.froz1⟩
 have e4:=ane
 have I:v=S2 xs:=hv
 subst I
 have e3:ae pE 27 [.agg [C3,C4,S2 xs],bA 60 (ints (atR (fun i=>bJ xs (120+i)) 60))] []=some (oTB xs,[]):=e3
 have e2:ae pE 25 [bA 60 (ints (atR (fun i=>bJ xs (60+i)) 60))] []=some (.agg (lq (Ew xs)),[]):=e2
 have z1:froz1 C3=true:=rfl
 have z2:froz1 C4=true:=rfl
 have z3:=F.froz1
 have z4:=(wa xs).froz1
 have z5:froz1 baT=true:=rfl
 have z6:froz (oTB xs)=true:=(wa xs).froz
 have k3:froz (S2 xs)=true:=F.froz
 have r:(lq (Ew xs)).length=14:=rfl
 have zG:(lq (Ew xs)).all froz1=true:=by
  unfold lq aY S1 Kj
  repeat' split
  all_goals rfl
 have J:lq (Ew xs)=(lq (Ew xs)).take 14:=(List.take_length (l:=lq (Ew xs))).symm
 have O:=mR [T.i IntKind.i64 0,T.i IntKind.i64 0,T.i IntKind.i64 0,T.i IntKind.i64 0,T.i IntKind.i64 0,T.i IntKind.i64 0,T.i IntKind.i64 0,T.nilsl,T.nilsl,T.nilsl,T.nilsl,T.nilsl,T.nilsl,T.i IntKind.i64 0] (lq (Ew xs)) (by rw[r];rfl)
 generalize oTB xs=oT at*
 generalize S2 xs=fT at*
 generalize C3=zT at*
 generalize C4=aT at*
 generalize baT=bT at*
 generalize lq (Ew xs)=cs at*
 have U:cs.take 14=cs:=J.symm
 have V:=fun m lh sh keep=>Bc (m:=m) (lh:=lh) (sh:=sh) (keep:=keep) zG
 rw[au fn7 (by simp[c7])]
 simp(maxDischargeDepth:=6) only[qA,seval,c7]
 generalize hD:DC pE 44 (.loop C6) _=D
 obtain⟨f2,l2,s2,rfl,⟨rfl,hA,hB,hC,o2,o3⟩,W⟩:=yq MZ hD (hL _ _ _ wW wW wW wW wW)
 have q2:aa f2 2= .ptr .L 2 1 0:=by rw[W 2 xW];simp only[qA,seval]
 have q3:aa f2 3= .ptr .L 3 1 0:=by rw[W 3 xW];simp only[qA,seval]
 have X:ab l2 2=⟨1,.cells [.nilsl,.nilsl,.nilsl] 0 true⟩:=by rw[o2];simp only[qA,seval]
 have Y:ab l2 3=⟨1,.cells [T.i IntKind.i64 0,T.i IntKind.i64 0,T.i IntKind.i64 0,T.i IntKind.i64 0,T.i IntKind.i64 0,T.i IntKind.i64 0,T.i IntKind.i64 0,T.nilsl,T.nilsl,T.nilsl,T.nilsl,T.nilsl,T.nilsl,T.i IntKind.i64 0] 0 true⟩:=by rw[o3];simp only[qA,seval]
 obtain⟨gA,wA,vA,Z,zA⟩:=Z8 hA
 obtain⟨gB,wB,vB,oB',zB⟩:=Z8 hB
 obtain⟨gC,wC,vC,oC',zC⟩:=Z8 hC
 clear W hL hA hB hC o2 o3 hD
 generalize bA 60 (ints (atR (bJ xs) 60))=xA at*
 generalize bA 60 (ints (atR (fun i=>bJ xs (60+i)) 60))=xB at*
 generalize bA 60 (ints (atR (fun i=>bJ xs (120+i)) 60))=xC at*
 generalize ints (atR (bJ xs) 60)=cA at*
 generalize ints (atR (fun i=>bJ xs (60+i)) 60)=cB at*
 generalize ints (atR (fun i=>bJ xs (120+i)) 60)=cC at*
 have d39: ∀fr lh ds br (u:List Nat),aa fr 38= .isl .L 27 gB 0 60 1→ab lh 27=⟨gB,.cells cB wB false⟩→aK pE (ae pE) 44 ((u,⟨some 39,.callf 25 [.t 38],none⟩)::ds) br ⟨fr,lh,[]⟩=if meets u br ⟨false,MK lh [] [.isl .L 27 gB 0 60 1],[(.L,27)]⟩=true then ke pE (ae pE) 44 ds (br++ [⟨false,MK lh [] [.isl .L 27 gB 0 60 1],[(.L,27)]⟩]) (ai pE (ae pE) 44 [⟨some 39,.callf 25 [.t 38],none⟩] ⟨fr,lh,[]⟩)else none:=by
  intro fr lh ds br u g1 g2
  refine Pm ajl rfl rfl (by simp only[qA,seval,g1]) (q:=([xB],[(.L,27,⟨gB,.cells cB cB.length false⟩)])) ?_ e2 rfl
  simp(maxDischargeDepth:=6) only[qA,seval,zB,g2]
 have d43: ∀fr lh ds br (u:List Nat),aa fr 41= .agg [zT,aT,fT]→aa fr 42= .isl .L 34 gC 0 60 1→ab lh 34=⟨gC,.cells cC wC false⟩→aK pE (ae pE) 44 ((u,⟨some 43,.callf 27 [.t 41,.t 42],none⟩)::ds) br ⟨fr,lh,[]⟩=if meets u br ⟨false,MK lh [] [.agg [zT,aT,fT],.isl .L 34 gC 0 60 1],if scalar oT=true then []else [(.L,34)]⟩=true then ke pE (ae pE) 44 ds (br++ [⟨false,MK lh [] [.agg [zT,aT,fT],.isl .L 34 gC 0 60 1],if scalar oT=true then []else [(.L,34)]⟩]) (ai pE (ae pE) 44 [⟨some 43,.callf 27 [.t 41,.t 42],none⟩] ⟨fr,lh,[]⟩)else none:=by
  intro fr lh ds br u g1 g2 g3
  refine Pm ajn rfl rfl (by simp only[qA,seval,g1,g2]) (q:=([.agg [zT,aT,fT],xC],[(.L,34,⟨gC,.cells cC cC.length false⟩)])) ?_ e3 rfl
  simp(maxDischargeDepth:=6) only[qA,seval,zC,g3,z1,z2,z3]
 by_cases hs:scalar oT=true
 all_goals simp(maxDischargeDepth:=6) only[qA,bp,Bj,xk,seval,aH,q2,q3,X,Y,vA,vB,vC,Z,oB',oC',zA,zB,zC,e1,e2,e3,e4,d39,d43,aAD,aAE,aAF,aAG,aAH,z1,z2,z3,z4,z5,r,U,O,V,zG,Sk,hs]
end
section
variable(o1 o2:List Lg)(x y:T)(hx:amo o1 x)(hy:amo o2 y)(m1: ∀g∈o1,g.du.length≤6)(m2: ∀g∈o2,g.du.length≤6)(l1:o1.length≤1000000000)(l2:o2.length≤1000000000)
include hx hy m1 m2 l1 l2
end
end Go.Proofs.YtnkgnjecmfkcfaaGreat
namespace Go.Ev
open Go
end Go.Ev
namespace Go.Proofs.YtnkgnjecmfkcfaaGreat
open Go Go.Ev
section
end
theorem Kk: ∀l:List Fl,aB SM l (l.flatMap ti)
 | []=>rfl
 |u::l=>⟨_,_,rfl,rfl,Kk l⟩
theorem aiP(xs:List Int):kN (nZ (tA xs)) C3 C4 (S2 xs):=by
 refine⟨⟨_,.inr ⟨_,rfl⟩, ?_⟩,⟨_,.inr ⟨_,rfl⟩, ?_⟩,⟨_, ?_,Kk _⟩⟩
 ·exact⟨[_,_,_],_,rfl,⟨.nilsl,[],rfl,.inl ⟨rfl,rfl,rfl⟩,rfl⟩,[_,_,_],_,rfl,⟨_,_,rfl,.inr ⟨_,rfl⟩,[_,_],[_,_],rfl,rfl,[_,_],[],rfl,rfl,rfl⟩,[_,_,_],_,rfl,⟨_,_,rfl,.inr ⟨_,rfl⟩,[_,_],[],rfl,rfl,rfl⟩,rfl⟩
 ·exact⟨[_,_],_,rfl,rfl,[_,_],_,rfl,rfl,[_,_],_,rfl,rfl,rfl⟩
 ·rw[pq];exact GD xs
theorem ax4(xs:List Int):TtA (nZ (tA xs)):=by
 have F:=nj (tA xs)
 have hl:=pq (tA xs)
 refine⟨⟨?_, ?_⟩, ?_,by rw[hl];unfold gm;omega, ?_⟩
 ·show∀u∈ZJ,u.sh.length≤gm
  unfold ZJ gm
  simp
 ·show ZJ.length≤gm
  unfold ZJ gm
  simp
 ·show Sd.length≤gm
  unfold Sd gm
  simp
 ·have D: ∀(a:Nat→Int) (m i x:Nat) (r:Int),∀f∈jd a m i x r,f.nu.length=2:=by
   intro a m
   induction m with
   |zero=>intro i x r f hf;simp[jd]at hf
   |succ m ih=>
    intro i x r f hf
    rw[jd]at hf
    rcases List.mem_cons.1 hf with rfl|hf
    ·rfl
    ·exact ih _ _ _ f hf
  intro f hf
  rw[D _ _ _ _ _ f hf]
  unfold gm
  omega
section
variable(d e:List (Int×Bool))(a b:T)(ha:IsSl a d.length (l6 d))(hb:IsSl b e.length (l6 e))(hd:d.length≤1000)(he:e.length≤1000)
include ha hb hd
include he
end
end Go.Proofs.YtnkgnjecmfkcfaaGreat
