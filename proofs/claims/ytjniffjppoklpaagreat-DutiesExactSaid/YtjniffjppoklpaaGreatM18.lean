/- Walks of functions of the program and of the reference, and their plain laws, part 18. Conditions: the theorems' own. -/
import Derived.Test.YtjniffjppoklpaaGreatM17
import Derived.KernelRfl
set_option maxRecDepth 100000
set_option linter.unusedSimpArgs false
set_option linter.unusedVariables false
set_option maxHeartbeats 16000000
namespace Go.Proofs.YtjniffjppoklpaaGreat
open Go Go.Ev
def aaL(sh:List iy)(k bytes g len sz:Nat)(r:List T)(e:iy):Option (T×List iy):=match e.ob with
 | .cells cs 0 false=>if e.g=g∧len*sz≤cs.length∧(len+1)*bytes≤roomy then some (.isl .S k (g+1) 0 (len+1) sz,iR sh k ⟨g+1,.cells (cs.take (len*sz)++r) 0 false⟩)else none
 |_=>none
theorem C0{sh:List iy}{k g r len bytes sz:Nat}{D:List T}{cs:List T}:aaL sh k bytes g len sz D ⟨r,.cells cs 0 false⟩=if r=g∧len*sz≤cs.length∧(len+1)*bytes≤roomy then some (.isl .S k (g+1) 0 (len+1) sz,iR sh k ⟨g+1,.cells (cs.take (len*sz)++D) 0 false⟩)else none:=nr rfl
def amI(sh:List iy)(bytes sz:Nat):T→T→Option (T×List iy)
 | .nilsl,.sl r 1 _=>if bytes≤roomy then some (.isl .S sh.length 1 0 1 sz,iR sh sh.length ⟨1,.cells r 0 false⟩)else none
 | .isl .S k g 0 len _,.sl r 1 _=>aaL sh k bytes g len sz r (iM sh k)
 |_,_=>none
theorem Nh{sh:List iy}{bytes sz:Nat}{r:List T}{ex:Bool}:amI sh bytes sz .nilsl (.sl r 1 ex)=if bytes≤roomy then some (.isl .S sh.length 1 0 1 sz,iR sh sh.length ⟨1,.cells r 0 false⟩)else none:=nr rfl
theorem Ni{sh:List iy}{k g len bytes sz D:Nat}{r:List T}{ex:Bool}:amI sh bytes sz (.isl .S k g 0 len D) (.sl r 1 ex)=aaL sh k bytes g len sz r (iM sh k):=nr rfl
def wm0:iy→Bool
 |⟨_,.cells _ 0 false⟩=>true
 |_=>false
def okP(sh:List iy):T→Bool
 | .isl .S k _ _ _ _=>wm0 (iM sh k)
 |_=>true
theorem afJ{sh:List iy}:okP sh .nilsl=true:=nr rfl
theorem RN{sh:List iy}{k g o n sz:Nat}:okP sh (.isl .S k g o n sz)=wm0 (iM sh k):=nr rfl
theorem Uz{g:Nat}{cs:List T}:wm0 ⟨g,.cells cs 0 false⟩=true:=nr rfl
theorem aaM{E:Env}{r:qT}{n:Nat}{fr:Fr}{lh:iL iy}{sh:List iy}{V:List iz}{K sz bytes:Nat}{s x:iS}(X:K<n)(D:Cf sz (rd fr x)=true)(hs:F9 sz (rd fr s)=true)(O:okP sh (rd fr s)=true):iB E r n (⟨some K,.app sz bytes s x true true,none⟩::V) ⟨fr,lh,sh⟩=
  (amI sh bytes sz (rd fr s) (rd fr x)).bind fun q=>iB E r n V ⟨kJ fr K q.1,lh,q.2⟩:=by
 obtain⟨Y,ex,D,A5,qn⟩:=Cg D
 have H:Y.length=1*sz:=by omega
 rw[qC (by rfl) (show Gz n (some K)from X)]
 unfold Ev.one
 rcases Ga hs with hs|⟨k,g,len,hs⟩
 ·simp only[jK,pN,jq,hs,D,j5,H,if_true,Q.run,Option.bind_some,Nh]
  simp only[Nat.succ_ne_zero,if_false,Nat.one_mul]
  by_cases I:bytes≤roomy
  ·simp only[if_pos I,pn,Q.run,if_true];rfl
  ·simp only[if_neg I,Q.run];rfl
 ·have U4:(St.mk fr lh sh).get .S k=iM sh k:=rfl
  rw[hs,RN]at O
  rw[hs,D,Ni]
  generalize hE:iM sh k=e at*
  obtain⟨Z,ob⟩:=e
  unfold wm0 at O
  split at O
  ·rename_i g2 cs he
   cases he
   rw[C0]
   simp only[jK,pN,jq,hs,D,j5,H,if_true,Q.run,Option.bind_some]
   simp only[Nat.succ_ne_zero,if_false,decide_true,Bool.true_and,decide_eq_true_eq]
   by_cases I:(len+1)*bytes≤roomy
   ·simp only[Q.run,U4,if_true,I,and_true]
    by_cases W:Z=g
    ·subst W
     simp only[if_true,true_and]
     by_cases U:len*sz=cs.length
     ·rw[if_pos U,if_pos (by omega)]
      simp only[Q.run]
      rw[U,List.take_length]
      rfl
     ·rw[if_neg U]
      by_cases NW:len*sz<cs.length
      ·rw[if_pos (by simp[NW]),if_pos (by omega)]
       rfl
      ·rw[if_neg (by simp[NW]),if_neg (by omega)]
       rfl
    ·simp only[Q.run,W,false_and,if_false];rfl
   ·simp only[I,if_false,Q.run,and_false];rfl
  ·cases O
def LgR(g:Lg)(c:List T):Prop:=c=pe g (.sl (nM g.du) g.du.length false)
theorem LgR.len(g:Lg)(c:List T)(h:LgR g c):c.length=7:=by rw[h];rfl
section
variable(N:Nat)(J:Nat→Nat→Bool)(iQ:Nat→Bool)(ok:List (Int×Bool)→Bool)(lg:List (Int×Bool)→Lg)
def wu(r:List (Int×Bool)→Nat→Nat→List Lg)(x:List (Int×Bool))(f h:Nat):List Lg:=(if ok x=true then [lg x]else [])++(ln N J f).flatMap fun g=>r x g h
def k9:Nat→List (Int×Bool)→Nat→Nat→List Lg
 |0,_,_,_=> []
 |n+1,d,f,h=>(if iQ f=true then wu N J ok lg (k9 n) (d++ [((f:Int),false)]) f h else [])++(if h=0 then []else wu N J ok lg (k9 n) (d++ [((f:Int),true)]) f (h-1))
end
structure Vs (s:List iy) (F:T) (d:List (Int×Bool)) (out:List Lg):Prop where
 b0: ∃ov,iM s 0=⟨1,.cells [ov] 0 true⟩∧((ov= .nilsl∧out= []∧s.length≤4)∨ ∃g cs,ov= .isl .S 4 g 0 out.length 7∧iM s 4=⟨g,.cells cs 0 false⟩∧iK LgR out cs∧s.length=5)
 b1: ∃dv,iM s 1=⟨1,.cells [dv] 0 true⟩∧((dv= .nilsl∧d= []∧s.length=3)∨ ∃g st,dv= .isl .S 3 g 0 d.length 2∧iM s 3=⟨g,.cells (nM d++st) 0 false⟩∧4≤s.length)
 b2:iM s 2=⟨1,.cells [F] 0 true⟩
theorem awg{lh:iL iy}{s:List iy}{k g n sz:Nat}{cs:List T}(h:iM s k=⟨g,.cells cs 0 false⟩)(D:n*sz≤cs.length):fzV lh s false (.isl .S k g 0 n sz)=some (.sl (cs.take (n*sz)) n false,[(.S,k,⟨g,.cells cs cs.length false⟩)]):=by
 have r:(St.mk .nil lh s).get .S k=iM s k:=rfl
 unfold fzV iT Ev.fz
 simp only[Bool.false_and,Bool.false_eq_true,if_false,Q.run,r,h,if_true]
 rw[if_pos (by omega)]
 rfl
theorem aaO{sv:T}{ok:List (Int×Bool)→Bool}{lg:List (Int×Bool)→Lg}{d:List (Int×Bool)}(hsv:froz sv=true)(K:(lg d).du=d)(O:1≤d.length)(Dm:be pE 44 [sv,.sl (nM d) d.length false] []=some (if ok d=true then .tup [.agg (pe (lg d) (.sl (nM d) d.length false)),.b true]else .tup [.agg (pe H3 .nilsl),.b false],[]))
  {fr:Fr} {lh:iL iy} {s:List iy} {g:Nat} {st:List T} (h:iM s 3=⟨g,.cells (nM d++st) 0 false⟩):
  jy pE (be pE) 49 ⟨fr,lh,s⟩ 44 [sv,.isl .S 3 g 0 d.length 2]=some (if ok d=true then(.tup [.agg (pe (lg d) (.isl .L 49 ((a6 lh 49).g+1) 0 d.length 2)),.b true],⟨fr,oK lh 49 ⟨(a6 lh 49).g+1,.cells (nM d) 0 false⟩,s⟩)else(.tup [.agg (pe H3 .nilsl),.b false],⟨fr,lh,s⟩)):=by
 have E:=ou d
 have D:=awg (lh:=lh) h (n:=d.length) (sz:=2) (by rw[List.length_append];omega)
 rw[List.take_append_of_le_length (by omega),List.take_of_length_le (by omega)]at D
 rw[Yd arw rfl rfl]
 simp only[rX,Ds,tS hsv,D,Option.bind_some,Dm]
 cases U:ok d
 ·rfl
 ·have H:=MW d
  have r:(nM d).length/d.length=2:=by rw[E];exact Nat.mul_div_cancel_left 2 (by omega)
  simp only[if_true]
  unfold yI pe
  have I:(nM d).length/d.length*d.length=(nM d).length:=by rw[r];omega
  simp only[l6,iY,show¬(100:Nat)<100 by decide,if_false,show 100/100-1=0 by decide,show 100%100=0 by decide,List.getElem?_cons_zero,List.set_cons_zero]
  rw[if_pos ⟨H,I⟩,r]
  rfl
def ki:iA→iA
 | .seq _ (.seq _ (.seq (.block _ (.seq _ (.seq _ (.seq _ (.seq _ t))))) _))=>t
 |c=>c
def Gb:iA→iA→iA
 | .seq a (.seq b (.seq (.block i (.seq c (.seq d (.seq e (.seq f _))))) z)),t=> .seq a (.seq b (.seq (.block i (.seq c (.seq d (.seq e (.seq f t))))) z))
 |c,_=>c
def tl:iA→iA
 | .seq a _=>a
 |c=>c
def sG:iA→iA
 | .seq _ b=>b
 |c=>c
theorem UA:ki jC= .seq (tl (ki jC)) (.seq (.seq (tl (tl (sG (ki jC)))) (sG (tl (sG (ki jC))))) (.seq (tl (sG (sG (ki jC)))) (sG (sG (sG (ki jC)))))):=nr rfl
theorem Nj{lh:iL iy}{s:List iy}{k:Nat}{w v:T}(D:iM s k=⟨1,.cells [w] 0 true⟩)(E:kept v=true)(r:cellsOf v= [v])(H:noTup v=true):Ev.stV lh s (.ptr .S k 1 0) v 1=some (lh,iR s k ⟨1,.cells [v] 0 true⟩):=by
 rw[yR E D,vt,if_pos ⟨rfl,by rw[r];rfl,H,Nat.zero_le _,by simp⟩,r]
 rfl
section
variable(N:Nat)(F:T)(d:List (Int×Bool))(out:List Lg)(f:Nat)(b:Bool)
theorem vs1(PF:d.length≤5)(fr:Fr)(lh:iL iy)(s:List iy)(U:an fr 0= .i .i64 (f:Int))(r:an fr 3= .ptr .S 1 1 0)(D:an fr 11= .b b)(X:Vs s F d out):
  ∃Y V,DC pE 80 (tl (ki jC)) ⟨fr,lh,s⟩=some (.nrm,⟨Y,lh,V⟩)∧Vs V F (d++ [((f:Int),b)]) out:=by
 obtain⟨⟨Z,a0,a1⟩,⟨dv,H,b1⟩,W⟩:=X
 have I:nM (d++ [((f:Int),b)])=nM d++ [.i .i64 (f:Int),.b b]:=by rw[DL];rfl
 have A9:repl [T.i .i64 0,.b false] 1= [.i .i64 0,.b false]:=rfl
 have r1:16≤roomy:=by unfold roomy;omega
 rcases b1 with⟨rfl,rfl,hl⟩|⟨g,st,rfl,b3,hl⟩
 ·have K: ∀e,iM (iR s 3 e) 1=⟨1,.cells [.nilsl] 0 true⟩:=fun e=>by rw[lD,if_neg (by decide)];exact H
  have XK: ∀e,Ev.stV lh (iR s 3 e) (.ptr .S 1 1 0) (.isl .S 3 1 0 1 2) 1=some (lh,iR (iR s 3 e) 1 ⟨1,.cells [.isl .S 3 1 0 1 2] 0 true⟩):=fun e=>Nj (K e) rfl rfl rfl
  have Uv: ∀e,(iR s 3 e).length=4:=fun e=>by rw[←hl,qN,List.length_append,List.length_singleton,hl]
  have UB: ∀e E,(iR (iR s 3 e) 1 E).length=4:=fun e E=>by rw[jQ _ _ _ (by rw[Uv];decide),Uv]
  simp(maxDischargeDepth:=6) only[qA,jA,seval,iN,ki,tl,jC,U,r,D,H,A9,aaM,ju,lI,afJ,Nh,r1,qN,hl,XK]
  rcases a1 with⟨rfl,rfl,_⟩|⟨_,_,_,_,_,h5⟩
  ·exact⟨_,_,rfl,⟨⟨_,by rw[lD,if_neg (by decide),lD,if_neg (by decide)];exact a0,.inl ⟨rfl,rfl,by rw[UB];decide⟩⟩,⟨.isl .S 3 1 0 1 2,by rw[lD,if_pos rfl],.inr ⟨1,[],rfl,by rw[lD,if_neg (by decide),lD,if_pos rfl];rfl,by rw[UB];decide⟩⟩,by rw[lD,if_neg (by decide),lD,if_neg (by decide)];exact W⟩⟩
  ·omega
 ·have ls:=ou d
  have r2:(d.length+1)*16≤roomy:=by unfold roomy;omega
  have O:d.length*2≤(nM d++st).length:=by rw[List.length_append];omega
  have Ky:(nM d++st).take (d.length*2)=nM d:=by rw[List.take_append_of_le_length (by omega),List.take_of_length_le (by omega)]
  have K: ∀e,iM (iR s 3 e) 1=⟨1,.cells [.isl .S 3 g 0 d.length 2] 0 true⟩:=fun e=>by rw[lD,if_neg (by decide)];exact H
  have XK: ∀e,Ev.stV lh (iR s 3 e) (.ptr .S 1 1 0) (.isl .S 3 (g+1) 0 (d.length+1) 2) 1=some (lh,iR (iR s 3 e) 1 ⟨1,.cells [.isl .S 3 (g+1) 0 (d.length+1) 2] 0 true⟩):=fun e=>Nj (K e) rfl rfl rfl
  simp(maxDischargeDepth:=6) only[qA,jA,seval,iN,ki,tl,jC,U,r,D,H,b3,A9,aaM,ju,k8,RN,Uz,Ni,C0,r2,O,Ky,XK]
  have UB: ∀e E,(iR (iR s 3 e) 1 E).length=s.length:=fun e E=>by rw[jQ _ _ _ (by rw[jQ _ _ _ (by omega)];omega),jQ _ _ _ (by omega)]
  refine⟨_,_,rfl,⟨⟨Z,by rw[lD,if_neg (by decide),lD,if_neg (by decide)];exact a0, ?_⟩,⟨_,by rw[lD,if_pos rfl],.inr ⟨g+1,[], ?_, ?_,by rw[UB];exact hl⟩⟩,by rw[lD,if_neg (by decide),lD,if_neg (by decide)];exact W⟩⟩
  ·rcases a1 with⟨h1,h2,r⟩|⟨g2,cs,h1,h2,r,h4⟩
   ·exact .inl ⟨h1,h2,by rw[UB];exact r⟩
   ·exact .inr ⟨g2,cs,h1,by rw[lD,if_neg (by decide),lD,if_neg (by decide)];exact h2,r,by rw[UB];exact h4⟩
  ·rw[List.length_append];rfl
  ·rw[lD,if_neg (by decide),lD,if_pos rfl,I,List.append_nil]
theorem vs2(sv:T)(ok:List (Int×Bool)→Bool)(lg:List (Int×Bool)→Lg)(x:List (Int×Bool))(V:(lg x).du=x)(H:1≤x.length)(hsv:froz sv=true)(PR:cellsOf sv= [sv])(Dm:be pE 44 [sv,.sl (nM x) x.length false] []=some (if ok x=true then .tup [.agg (pe (lg x) (.sl (nM x) x.length false)),.b true]else .tup [.agg (pe H3 .nilsl),.b false],[]))
  (fr:Fr) (lh:iL iy) (s:List iy) (I:an fr 3= .ptr .S 1 1 0) (K:an fr 4= .vp [sv]) (W:Vs s F x out):
  ∃r D,DC pE 80 (tl (tl (sG (ki jC)))) ⟨fr,lh,s⟩=some (.nrm,⟨r,D,s⟩)∧an r 14= .b (ok x)∧(ok x=true→an r 13= .ptr .L 13 ((a6 lh 13).g+1) 0∧a6 D 13=⟨(a6 lh 13).g+1,.cells (pe (lg x) (.isl .L 49 ((a6 lh 49).g+1) 0 x.length 2)) 0 true⟩∧a6 D 49=⟨(a6 lh 49).g+1,.cells (nM x) 0 false⟩):=by
 obtain⟨⟨Y,a0,a1⟩,⟨Z,O,X⟩,b2⟩:=W
 rcases X with⟨rfl,rfl,hl⟩|⟨g,st,rfl,b3,hl⟩
 ·simp at H
 ·have E:=fun fr lh=>aaO hsv V H Dm (fr:=fr) (lh:=lh) b3
  have A9:repl [T.nilsl,.i .i64 0,.i .i64 0,.s [],.s [],.i .i64 0,.i .i64 0] 1= [T.nilsl,.i .i64 0,.i .i64 0,.s [],.s [],.i .i64 0,.i .i64 0]:=rfl
  unfold pe at E ⊢
  cases U:ok x
  ·simp(maxDischargeDepth:=6) only[qA,jA,seval,iN,ki,tl,sG,jC,I,K,O,E,U,PR]
   exact⟨_,_,rfl,by simp only[qA,seval],False.elim⟩
  ·simp(maxDischargeDepth:=6) only[qA,jA,seval,iN,ki,tl,sG,jC,I,K,O,E,U,PR]
   refine⟨_,_,rfl,by simp only[qA,seval],fun _=>⟨by simp only[qA,seval],by simp only[qA,seval],by simp only[qA,seval]⟩⟩
theorem vs3(o:Bool)(l:Lg)(h1:1≤l.du.length)(D E:Nat)(hb:out.length≤1000000000)(fr:Fr)(lh:iL iy)(s:List iy)(K:an fr 5= .ptr .S 0 1 0)(U:an fr 14= .b o)(nD:o=true→an fr 13= .ptr .L 13 D 0∧a6 lh 13=⟨D,.cells (pe l (.isl .L 49 E 0 l.du.length 2)) 0 true⟩∧a6 lh 49=⟨E,.cells (nM l.du) 0 false⟩)(x:List (Int×Bool))(hx:1≤x.length)(X:Vs s F x out):
  ∃O l' Y,DC pE 80 (sG (tl (sG (ki jC)))) ⟨fr,lh,s⟩=some (.nrm,⟨O,l',Y⟩)∧Vs Y F x (out++if o=true then [l]else []):=by
 cases o
 ·obtain⟨O,e⟩: ∃O,DC pE 80 (sG (tl (sG (ki jC)))) ⟨fr,lh,s⟩=some (.nrm,⟨O,lh,s⟩):=by
   simp(maxDischargeDepth:=6) only[qA,jA,seval,iN,ki,tl,sG,jC,U]
   exact⟨_,rfl⟩
  exact⟨_,_,_,e,by simpa using X⟩
 ·obtain⟨Z,V,k3⟩:=nD rfl
  obtain⟨⟨ov,a0,a1⟩,⟨dv,b0,b1⟩,b2⟩:=X
  rcases b1 with⟨rfl,rfl,hl⟩|⟨g,st,rfl,b3,hl⟩
  ·simp at hx
  have A9:repl [T.nilsl,.i .i64 0,.i .i64 0,.s [],.s [],.i .i64 0,.i .i64 0] 1= [T.nilsl,.i .i64 0,.i .i64 0,.s [],.s [],.i .i64 0,.i .i64 0]:=rfl
  have PF:=ou l.du
  have H:l.du.length*2≤(nM l.du).length:=by omega
  have Ky:(nM l.du).take (l.du.length*2)=nM l.du:=List.take_of_length_le (by omega)
  have r1:88≤roomy:=by unfold roomy;omega
  unfold pe at V
  rcases a1 with⟨rfl,rfl,hl3⟩|⟨g2,cs,rfl,a2,a3,a4⟩
  ·have Uv:s.length=4:=by omega
   have W: ∀e,iM (iR s 4 e) 0=⟨1,.cells [.nilsl] 0 true⟩:=fun e=>by rw[lD,if_neg (by decide)];exact a0
   have XK: ∀(lh:iL iy) e,Ev.stV lh (iR s 4 e) (.ptr .S 0 1 0) (.isl .S 4 1 0 1 7) 1=some (lh,iR (iR s 4 e) 0 ⟨1,.cells [.isl .S 4 1 0 1 7] 0 true⟩):=fun lh e=>Nj (W e) rfl rfl rfl
   simp(maxDischargeDepth:=6) only[qA,jA,yU,seval,iN,ki,tl,sG,jC,U,K,Z,V,k3,a0,A9,H,Ky,lC,ju,lI,mF,r1,Uv,XK]
   have r: ∀e I,(iR (iR s 4 e) 0 I).length=5:=fun e I=>by
    have K:(iR s 4 e).length=5:=by rw[←Uv,qN,List.length_append,List.length_singleton,Uv]
    rw[jQ _ _ _ (by omega),K]
   exact⟨_,_,_,rfl,⟨⟨.isl .S 4 1 0 1 7,by rw[lD,if_pos rfl],.inr ⟨1,_,rfl,by rw[lD,if_neg (by decide),lD,if_pos rfl];rfl,iK.one rfl,r _ _⟩⟩,⟨_,by rw[lD,if_neg (by decide),lD,if_neg (by decide)];exact b0,.inr ⟨g,st,rfl,by rw[lD,if_neg (by decide),lD,if_neg (by decide)];exact b3,by rw[r];decide⟩⟩,by rw[lD,if_neg (by decide),lD,if_neg (by decide)];exact b2⟩⟩
  ·have ls:=a3.len LgR.len
   have r2:(out.length+1)*88≤roomy:=by unfold roomy;omega
   have CE:out.length*7=cs.length:=by omega
   have W: ∀e,iM (iR s 4 e) 0=⟨1,.cells [.isl .S 4 g2 0 out.length 7] 0 true⟩:=fun e=>by rw[lD,if_neg (by decide)];exact a0
   have XK: ∀(lh:iL iy) e,Ev.stV lh (iR s 4 e) (.ptr .S 0 1 0) (.isl .S 4 (g2+1) 0 (out.length+1) 7) 1=some (lh,iR (iR s 4 e) 0 ⟨1,.cells [.isl .S 4 (g2+1) 0 (out.length+1) 7] 0 true⟩):=fun lh e=>Nj (W e) rfl rfl rfl
   simp(maxDischargeDepth:=6) only[qA,jA,yU,seval,iN,ki,tl,sG,jC,U,K,Z,V,k3,a0,a2,A9,H,Ky,lC,ju,k8,mG,kE,r2,CE,XK]
   have r: ∀e I,(iR (iR s 4 e) 0 I).length=5:=fun e I=>by rw[jQ _ _ _ (by rw[jQ _ _ _ (by omega)];omega),jQ _ _ _ (by omega),a4]
   exact⟨_,_,_,rfl,⟨⟨.isl .S 4 (g2+1) 0 (out.length+1) 7,by rw[lD,if_pos rfl],.inr ⟨g2+1,_,by rw[List.length_append,List.length_singleton],by rw[lD,if_neg (by decide),lD,if_pos rfl];rfl,iK.append a3 (iK.one rfl),r _ _⟩⟩,⟨_,by rw[lD,if_neg (by decide),lD,if_neg (by decide)];exact b0,.inr ⟨g,st,rfl,by rw[lD,if_neg (by decide),lD,if_neg (by decide)];exact b3,by rw[r];decide⟩⟩,by rw[lD,if_neg (by decide),lD,if_neg (by decide)];exact b2⟩⟩
theorem vs4(J:Nat→Nat→Bool)(hN:N≤1000)(lW nT sv:T)(hF:F= .fn 43 [] [.vp [lW],.ptr .S 1 1 0,.vp [sv],.ptr .S 0 1 0,.vp [nT],.ptr .S 2 1 0])(r:List (Int×Bool)→Nat→Nat→List Lg)(x:List (Int×Bool))(left:Nat)(hx:x.length<6∨ ∀g,r x g left= [])
  (mI: ∃X q,(∀kk,ng nT (.i kk (f:Int)) 1=some (.vp (X::q)))∧iJ X (ln N J f).length (ints ((ln N J f).map Int.ofNat))∧(ln N J f).length≤1000∧ ∀g∈ln N J f,g<N)
  (NY:1≤x.length∧x.length≤6) (IH:x.length<6→ ∀g s out,g<N→Vs s F x out→out.length+(r x g left).length≤1000000000→ ∃E,be pE 43 [.i .i64 (g:Int),.i .i64 (left:Int),.vp [lW],.ptr .S 1 1 0,.vp [sv],.ptr .S 0 1 0,.vp [nT],.ptr .S 2 1 0] s=some (.tup [],E)∧Vs E F x (out++r x g left))
  (hb:out.length+((ln N J f).flatMap fun g=>r x g left).length≤1000000000) (fr:Fr) (lh:iL iy) (s:List iy) (h0:an fr 0= .i .i64 (f:Int)) (h3:an fr 3= .ptr .S 1 1 0) (h6:an fr 6= .vp [nT]) (h7:an fr 7= .ptr .S 2 1 0) (H:an fr 12= .i .i64 (left:Int)) (hV:Vs s F x out):
  ∃O l' E,DC pE 80 (tl (sG (sG (ki jC)))) ⟨fr,lh,s⟩=some (.nrm,⟨O,l',E⟩)∧Vs E F x (out++(ln N J f).flatMap fun g=>r x g left):=by
 obtain⟨dv,b0,b1⟩:=hV.b1
 rcases b1 with⟨rfl,rfl,hl⟩|⟨g,st,rfl,b3,hl⟩
 ·simp at NY
 have lV:lenI (T.isl .S 3 g 0 x.length 2)=some (.i .i64 (x.length:Int)):=rfl
 by_cases U:x.length<6
 ·have I:(x.length:Int)<6:=by omega
  obtain⟨X,q,Y,V,hg1,hg2⟩:=mI
  have aC3:=V.lenI
  simp(maxDischargeDepth:=6) only[qA,jA,seval,iN,ki,tl,sG,jC,h0,h3,h6,b0,lV,I,Y,aC3]
  generalize hD:DC pE 80 (.loop Bt) _=D
  have awh: ∀(fr:Fr) (lh:iL iy),an fr 7= .ptr .S 2 1 0→an fr 12= .i .i64 (left:Int)→an fr 63=X→an fr 64= .i .i64 ((ln N J f).length:Int)→an fr 65= .i .i64 0→Lp pE 80 Bt fr lh s (.ext 2) fun O l E=>Vs E F x (out++(ln N J f).flatMap fun g=>r x g left):=by
   intro fr lh h7 H Dc Gc Dl
   generalize ln N J f=gs at*
   refine kO Lf (fun k O l E=>an O 65= .i .i64 (k:Int)∧Vs E F x (out++(gs.take k).flatMap fun g=>r x g left)) gs.length ⟨Dl,by simpa using hV⟩ ?_ ?_
   ·rintro k O l E Z pr ⟨K,W⟩
    have iU:(k:Int)<gs.length:=by omega
    have hw:=iX (k:=k) (by omega)
    have Y:=fun kk=>V.ia (sz:=1) (k:=k) (kk:=kk) (by rw[kb,List.length_map];omega) Z
    have hd:(ints (gs.map Int.ofNat)).drop (k*1)= .i .i64 (gs[k]:Int)::(ints (gs.map Int.ofNat)).drop (k+1):=by
     rw[Nat.mul_one,List.drop_eq_getElem_cons (by simpa[ints]using Z)]
     simp[ints]
    rw[hd]at Y
    have wo:(gs.take (k+1)).flatMap (fun g=>r x g left)=(gs.take k).flatMap (fun g=>r x g left)++r x gs[k] left:=by
     rw[List.take_succ_eq_append_getElem Z,List.flatMap_append]
     simp
    have hle:(out++(gs.take k).flatMap fun g=>r x g left).length+(r x gs[k] left).length≤1000000000:=by
     have h1:(gs.flatMap fun g=>r x g left).length=((gs.take (k+1)).flatMap fun g=>r x g left).length+((gs.drop (k+1)).flatMap fun g=>r x g left).length:=by
      rw[←List.length_append,←List.flatMap_append,List.take_append_drop]
     rw[wo,List.length_append]at h1
     rw[List.length_append]
     omega
    obtain⟨s2,e2,DQ⟩:=IH U gs[k] E _ (hg2 _ (List.getElem_mem Z)) W hle
    have uE:=W.b2
    rw[List.append_assoc,←wo]at DQ
    subst hF
    simp(maxDischargeDepth:=6) only[qA,jA,kP,seval,gd,iN,Bt,pr,h7,H,Dc,Gc,K,iU,hw,Y,uE,e2,arv]
    exact DQ
   ·rintro O l E pr ⟨K,W⟩
    rw[List.take_length]at W
    simp only[qA,seval,gd,Bt,pr,Gc,K,Int.lt_irrefl]
    exact W
  obtain⟨f3,l3,s3,rfl,hV3,Na⟩:=G6 Lf hD (awh _ _ (by simp only[qA,seval,h7]) (by simp only[qA,seval,H]) (by simp only[qA,seval]) (by simp only[qA,seval]) (by simp only[qA,seval]))
  simp(maxDischargeDepth:=6) only[qA,seval]
  exact⟨_,_,_,rfl,hV3⟩
 ·have I: ¬(x.length:Int)<6:=by omega
  have nw:((ln N J f).flatMap fun g=>r x g left)= []:=by
   rcases hx with h|h
   ·exact absurd h U
   ·simp[h]
  rw[nw,List.append_nil]
  simp(maxDischargeDepth:=6) only[qA,jA,seval,iN,ki,tl,sG,jC,h3,b0,lV,I]
  exact⟨_,_,_,rfl,hV⟩
theorem vs5(k:Int×Bool)(PF:d.length≤6)(fr:Fr)(lh:iL iy)(s:List iy)(r:an fr 3= .ptr .S 1 1 0)(I:Vs s F (d++ [k]) out):
  ∃K O H,DC pE 80 (sG (sG (sG (ki jC)))) ⟨fr,lh,s⟩=some (.nrm,⟨K,O,H⟩)∧Vs H F d out:=by
 obtain⟨⟨U,a0,a1⟩,⟨Z,D,V⟩,W⟩:=I
 rcases V with⟨rfl,h,hl⟩|⟨g,st,rfl,b3,hl⟩
 ·simp at h
 rw[List.length_append,List.length_singleton]at D
 have X:lenI (T.isl .S 3 g 0 (d.length+1) 2)=some (.i .i64 ((d.length+1:Nat):Int)):=rfl
 have E:wb (T.isl .S 3 g 0 (d.length+1) 2)=some (d.length+1):=rfl
 have Y:wr .i64 (((d.length+1:Nat):Int)-1)=(d.length:Int):=by rw[jE (by omega)];omega
 have EO:BS 2 (.isl .S 3 g 0 (d.length+1) 2) 0 d.length=some (.isl .S 3 g 0 d.length 2):=by
  unfold BS
  simp only
  rw[if_pos ⟨Nat.zero_le _,by omega,trivial⟩]
  by_cases h:0=d.length
  ·rw[if_pos h,←h];rfl
  ·rw[if_neg h];rfl
 have XK: ∀(lh:iL iy),Ev.stV lh s (.ptr .S 1 1 0) (.isl .S 3 g 0 d.length 2) 1=some (lh,iR s 1 ⟨1,.cells [.isl .S 3 g 0 d.length 2] 0 true⟩):=fun lh=>Nj D rfl rfl rfl
 have Uv: ∀e,(iR s 1 e).length=s.length:=fun e=>jQ _ _ _ (by omega)
 simp(maxDischargeDepth:=6) only[qA,jA,seval,iN,ki,tl,sG,jC,r,D,X,E,Y,EO,XK]
 refine⟨_,_,_,rfl,⟨⟨U,by rw[lD,if_neg (by decide)];exact a0, ?_⟩,⟨_,by rw[lD,if_pos rfl],.inr ⟨g,.i .i64 k.1:: .b k.2::st,rfl, ?_,by rw[Uv];exact hl⟩⟩,by rw[lD,if_neg (by decide)];exact W⟩⟩
 ·rcases a1 with⟨h1,h2,r⟩|⟨g2,cs,h1,h2,r,h4⟩
  ·exact .inl ⟨h1,h2,by rw[Uv];exact r⟩
  ·exact .inr ⟨g2,cs,h1,by rw[lD,if_neg (by decide)];exact h2,r,by rw[Uv];exact h4⟩
 ·rw[lD,if_neg (by decide),b3,DL,List.append_assoc];rfl
end
theorem Nk{E:Env}{n:Nat}{a:iA}{fr:Fr}{lh:iL iy}{sh:List iy}{D:Option (Out×St)}(r:DC E n a ⟨fr,lh,sh⟩=D){P:Fr→iL iy→List iy→Prop}(h: ∃f l s,DC E n a ⟨fr,lh,sh⟩=some (.nrm,⟨f,l,s⟩)∧P f l s):
  ∃f l s,D=some (.nrm,⟨f,l,s⟩)∧P f l s∧DC E n a ⟨fr,lh,sh⟩=some (.nrm,⟨f,l,s⟩):=by
 obtain⟨f,l,s,e,p⟩:=h
 exact⟨f,l,s,r.symm.trans e,p,e⟩
section
variable(N:Nat)(J:Nat→Nat→Bool)(iQ:Nat→Bool)(ok:List (Int×Bool)→Bool)(lg:List (Int×Bool)→Lg)(hN:N≤1000)(lW nT sv F:T)
 (hF:F= .fn 43 [] [.vp [lW],.ptr .S 1 1 0,.vp [sv],.ptr .S 0 1 0,.vp [nT],.ptr .S 2 1 0])
 (lN: ∀f,f<N→ ∃q,∀kk,ng lW (.i kk (f:Int)) 1=some (.vp (.b (iQ f)::q)))
 (mI: ∀f,f<N→ ∃gT q,(∀kk,ng nT (.i kk (f:Int)) 1=some (.vp (gT::q)))∧iJ gT (ln N J f).length (ints ((ln N J f).map Int.ofNat))∧(ln N J f).length≤1000∧ ∀g∈ln N J f,g<N)
 (hsv:froz sv=true) (PR:cellsOf sv= [sv]) (PS: ∀x,(lg x).du=x)
 (Dm: ∀x,1≤x.length→x.length≤6→(∀k∈x,yy N k.1=true)→be pE 44 [sv,.sl (nM x) x.length false] []=some (if ok x=true then .tup [.agg (pe (lg x) (.sl (nM x) x.length false)),.b true]else .tup [.agg (pe H3 .nilsl),.b false],[]))
include hN hF lN mI hsv PR PS Dm
def amK(N:Nat)(J:Nat→Nat→Bool)(iQ:Nat→Bool)(ok:List (Int×Bool)→Bool)(lg:List (Int×Bool)→Lg)(lW nT sv F:T)(n:Nat):Prop:=
 ∀(d:List (Int×Bool)) (f h:Nat) (s:List iy) (out:List Lg),d.length+n=6→d.length<6→(∀k∈d,yy N k.1=true)→f<N→h≤6→Vs s F d out→out.length+(k9 N J iQ ok lg n d f h).length≤1000000000→
  ∃r,be pE 43 [.i .i64 (f:Int),.i .i64 (h:Int),.vp [lW],.ptr .S 1 1 0,.vp [sv],.ptr .S 0 1 0,.vp [nT],.ptr .S 2 1 0] s=some (.tup [],r)∧Vs r F d (out++k9 N J iQ ok lg n d f h)
theorem awi(n:Nat)(IH:amK N J iQ ok lg lW nT sv F n)(d:List (Int×Bool))(f left:Nat)(b:Bool)(out:List Lg)(hd:d.length+n=5)(W: ∀k∈d,yy N k.1=true)(hf:f<N)(hh:left≤6)(O:out.length+(wu N J ok lg (k9 N J iQ ok lg n) (d++ [((f:Int),b)]) f left).length≤1000000000)
  (fr:Fr) (lh:iL iy) (s:List iy) (h0:an fr 0= .i .i64 (f:Int)) (U:an fr 3= .ptr .S 1 1 0) (h4:an fr 4= .vp [sv]) (h5:an fr 5= .ptr .S 0 1 0) (X:an fr 6= .vp [nT]) (h7:an fr 7= .ptr .S 2 1 0) (Y:an fr 11= .b b) (Z:an fr 12= .i .i64 (left:Int)) (hV:Vs s F d out):
  ∃f' l' s',DC pE 80 (ki jC) ⟨fr,lh,s⟩=some (.nrm,⟨f',l',s'⟩)∧Vs s' F d (out++wu N J ok lg (k9 N J iQ ok lg n) (d++ [((f:Int),b)]) f left):=by
 have _:=lN
 have hxl:(d++ [((f:Int),b)]).length=d.length+1:=by rw[List.length_append];rfl
 have H: ∀k∈d++ [((f:Int),b)],yy N k.1=true:=fun k hk=>by
  rcases List.mem_append.1 hk with hk|hk
  ·exact W k hk
  ·rw[List.mem_singleton.1 hk];unfold yy;simpa using hf
 generalize hx:d++ [((f:Int),b)]=x at*
 unfold wu at O ⊢
 rw[List.length_append]at O
 obtain⟨f1,s1,e1,D⟩:=vs1 F d out f b (by omega) fr lh s h0 U Y hV
 rw[hx]at D
 have V:=fun j E=>lH e1 j E
 obtain⟨f2,l2,e2,k14,k13⟩:=vs2 F out sv ok lg x (PS x) (by omega) hsv PR (Dm x (by omega) (by omega) H) f1 lh s1 ((V 3 (by decide)).trans U) ((V 4 (by decide)).trans h4) D
 have p2:=fun j E=>lH e2 j E
 obtain⟨f3,l3,s3,e3,hV3⟩:=vs3 F out (ok x) (lg x) (by rw[PS];omega) _ _ (by omega) f2 l2 s1 ((p2 5 (by decide)).trans ((V 5 (by decide)).trans h5)) k14 (by rw[PS];exact k13) x (by omega) D
 have p3:=fun j E=>lH e3 j E
 have r: ∀j v,(jU (tl (ki jC))).contains j=false→(jU (tl (tl (sG (ki jC))))).contains j=false→(jU (sG (tl (sG (ki jC))))).contains j=false→an fr j=v→an f3 j=v:=fun j v a1 a2 a3 e=>(p3 j a3).trans ((p2 j a2).trans ((V j a1).trans e))
 obtain⟨f4,l4,s4,e4,I⟩:=vs4 N F (out++if ok x=true then [lg x]else []) f J hN lW nT sv hF (k9 N J iQ ok lg n) x left (by
   by_cases h:x.length<6
   ·exact .inl h
   ·have:n=0:=by omega
    subst this
    exact .inr fun g=>rfl) (mI f hf) ⟨by omega,by omega⟩ (fun X g s out hg hV O=>IH x g left s out (by omega) X H hg hh hV O) (by rw[List.length_append];omega) f3 l3 s3 (r 0 _ (by decide) (by decide) (by decide) h0) (r 3 _ (by decide) (by decide) (by decide) U) (r 6 _ (by decide) (by decide) (by decide) X) (r 7 _ (by decide) (by decide) (by decide) h7) (r 12 _ (by decide) (by decide) (by decide) Z) hV3
 have p4:=fun j E=>lH e4 j E
 rw[←hx]at I
 obtain⟨f5,l5,s5,e5,K⟩:=vs5 F d _ ((f:Int),b) (by omega) f4 l4 s4 ((p4 3 (by decide)).trans (r 3 _ (by decide) (by decide) (by decide) U)) I
 rw[hx,List.append_assoc]at K
 refine⟨f5,l5,s5, ?_,K⟩
 rw[UA,wN,e1,np,wN,wN,e2,np,e3,np,wN,e4,np,e5]
theorem awj(n:Nat)(IH:amK N J iQ ok lg lW nT sv F n)(d:List (Int×Bool))(f h:Nat)(out:List Lg)(hd:d.length+(n+1)=6)(hdv: ∀k∈d,yy N k.1=true)(hf:f<N)(hh:h≤6)(V:out.length+(k9 N J iQ ok lg (n+1) d f h).length≤1000000000)
  (fr:Fr) (lh:iL iy) (s:List iy) (W:an fr 0= .i .i64 (f:Int)) (h1:an fr 1= .i .i64 (h:Int)) (h2:an fr 2= .vp [lW]) (h3:an fr 3= .ptr .S 1 1 0) (h4:an fr 4= .vp [sv]) (h5:an fr 5= .ptr .S 0 1 0) (h6:an fr 6= .vp [nT]) (h7:an fr 7= .ptr .S 2 1 0) (pH:an fr 17= .sl [.b false,.b true] 2 true) (mK:an fr 18= .i .i64 2) (zd:an fr 19= .i .i64 0) (hV:Vs s F d out):
  Lp pE 80 jC fr lh s (.ext 0) fun Y l' H=>Vs H F d (out++k9 N J iQ ok lg (n+1) d f h):=by
 obtain⟨q,Z⟩:=lN f hf
 have ht:=fun b left out=>awi N J iQ ok lg hN lW nT sv F hF lN mI hsv PR PS Dm n IH d f left b out (by omega) hdv hf
 have hwt:jC=Gb jC (ki jC):=nr rfl
 have hwr: ∀j,(jU (ki jC)).contains j=false→ ∀(fr jB:Fr) lh s l' H,DC pE 80 (ki jC) ⟨fr,lh,s⟩=some (.nrm,⟨jB,l',H⟩)→an jB j=an fr j:=fun j hj fr jB lh s l' H e=>lH e j hj
 have awk:=hwr 19 (by decide)
 refine kO Lh (fun k Y l H=>an Y 19= .i .i64 (k:Int)∧Vs H F d (out++if k=0 then []else if k=1 then(if iQ f=true then wu N J ok lg (k9 N J iQ ok lg n) (d++ [((f:Int),false)]) f h else [])else k9 N J iQ ok lg (n+1) d f h)) 2 ⟨zd,by simpa using hV⟩ ?_ ?_
 ·rintro k Y l H hk r ⟨E,I⟩
  have hc:k=0∨k=1:=by omega
  rcases hc with rfl|rfl
  ·have K:an Y 19= .i .i64 0:=E
   have Qw: ¬(h:Int)<0:=by omega
   rw[if_pos rfl,List.append_nil]at I
   rw[if_neg (by decide),if_pos rfl]
   rw[k9,List.length_append]at V
   rw[hwt]
   have hx0: ∀kk,ng (.sl [.b false,.b true] 2 true) (.i kk 0) 1=some (.vp [.b false,.b true]):=fun _=>rfl
   cases hi:iQ f
   ·rw[hi]at Z
    generalize ki jC=X at*
    simp(maxDischargeDepth:=6) only[qA,jA,seval,gd,iN,jC,Gb,r,W,h1,h2,pH,mK,K,Z,Qw,hx0]
    exact I
   ·rw[hi]at Z
    rw[hi,if_pos rfl]at V
    have O:=ht false h out hh (by omega)
    generalize ki jC=X at*
    simp(maxDischargeDepth:=6) only[qA,jA,seval,gd,iN,jC,Gb,r,W,h1,h2,pH,mK,K,Z,Qw,hx0]
    generalize hD:DC pE 80 X _=D
    obtain⟨f2,l2,s2,rfl,DQ,e2⟩:=Nk hD (O _ _ _ (by simp only[qA,seval,r,W]) (by simp only[qA,seval,r,h3]) (by simp only[qA,seval,r,h4]) (by simp only[qA,seval,r,h5]) (by simp only[qA,seval,r,h6]) (by simp only[qA,seval,r,h7]) (by simp only[qA,seval]) (by simp only[qA,seval]) I)
    have g2:an f2 19= .i .i64 0:=by rw[awk _ _ _ _ _ _ e2];simp only[qA,seval,K]
    simp(maxDischargeDepth:=6) only[qA,seval,gd,g2]
    exact DQ
  ·have U:an Y 19= .i .i64 1:=E
   rw[if_neg (by decide),if_pos rfl]at I
   rw[if_neg (by decide),if_neg (by decide)]
   rw[hwt]
   have NY: ∀kk,ng (.sl [.b false,.b true] 2 true) (.i kk 1) 1=some (.vp [.b true]):=fun _=>rfl
   rw[k9]at V ⊢
   generalize hA:(if iQ f=true then wu N J ok lg (k9 N J iQ ok lg n) (d++ [((f:Int),false)]) f h else [])=A at*
   rw[List.length_append]at V
   by_cases hz:h=0
   ·subst hz
    have h10:an fr 1= .i .i64 0:=h1
    generalize ki jC=X at*
    simp(maxDischargeDepth:=6) only[qA,jA,seval,gd,iN,jC,Gb,r,W,h10,h2,pH,mK,U,Z,NY]
    exact I
   ·obtain⟨m,rfl⟩: ∃m,h=m+1:=⟨h-1,by omega⟩
    rw[if_neg hz]at V ⊢
    rw[Nat.add_sub_cancel]at V ⊢
    have hwp:wr .i64 (((m+1:Nat):Int)-1)=(m:Int):=by rw[jE (by omega)];omega
    have Qw: ¬(m:Int)<0:=by omega
    have O:=ht true m (out++A) (by omega) (by rw[List.length_append];omega)
    generalize ki jC=X at*
    simp(maxDischargeDepth:=6) only[qA,jA,seval,gd,iN,jC,Gb,r,W,h1,h2,pH,mK,U,Z,Qw,NY,hwp]
    generalize hD:DC pE 80 X _=D
    obtain⟨f2,l2,s2,rfl,DQ,e2⟩:=Nk hD (O _ _ _ (by simp only[qA,seval,r,W]) (by simp only[qA,seval,r,h3]) (by simp only[qA,seval,r,h4]) (by simp only[qA,seval,r,h5]) (by simp only[qA,seval,r,h6]) (by simp only[qA,seval,r,h7]) (by simp only[qA,seval]) (by simp only[qA,seval]) I)
    have g2:an f2 19= .i .i64 1:=by rw[awk _ _ _ _ _ _ e2];simp only[qA,seval,U]
    rw[List.append_assoc]at DQ
    simp(maxDischargeDepth:=6) only[qA,seval,gd,g2]
    exact DQ
 ·rintro Y l H r ⟨E,I⟩
  simp only[qA,seval,gd,jC,r,mK,E,Int.lt_irrefl]
  simpa using I
theorem Nl: ∀n,amK N J iQ ok lg lW nT sv F n
 |0=>fun d f h s out H r=>by omega
 |n+1=>by
  have IH:=Nl n
  intro d f h s out H r E hf I K O
  have U:=fun fr lh=>awj N J iQ ok lg hN lW nT sv F hF lN mI hsv PR PS Dm n IH d f h out H E hf I O fr lh s
  have A9:repl [T.b false] 2= [.b false,.b false]:=rfl
  rw[iD aru (by simp[c43])]
  simp(maxDischargeDepth:=6) only[qA,seval,c43,A9]
  generalize V:DC pE 80 (.loop jC) _=D
  obtain⟨X,Y,W,rfl,DQ,Z⟩:=G6 Lh V (U _ _ (by simp only[qA,seval]) (by simp only[qA,seval]) (by simp only[qA,seval]) (by simp only[qA,seval]) (by simp only[qA,seval]) (by simp only[qA,seval]) (by simp only[qA,seval]) (by simp only[qA,seval]) (by simp only[qA,seval]) (by simp only[qA,seval]) (by simp only[qA,seval]) K)
  refine⟨W, ?_,DQ⟩
  simp(maxDischargeDepth:=6) only[qA,seval]
  rfl
end
theorem aC7{lh:iL iy}{s:List iy}{lW sv nT:T}{g8 g3 g9:Nat}(r:a6 lh 8=⟨g8,.cells [lW] 0 true⟩)(D:a6 lh 3=⟨g3,.cells [sv] 0 true⟩)(E:a6 lh 9=⟨g9,.cells [nT] 0 true⟩)(H:froz1 lW=true)(I:froz1 sv=true)(K:froz1 nT=true)(O:iM s 2=⟨1,.cells [.nilfn] 0 true⟩):
  Ev.stV lh s (.ptr .S 2 1 0) (.fn 43 [] [.ptr .L 8 g8 0,.ptr .S 1 1 0,.ptr .L 3 g3 0,.ptr .S 0 1 0,.ptr .L 9 g9 0,.ptr .S 2 1 0]) 1=some (oK (oK (oK lh 8 ⟨g8,.cells [lW] 1 true⟩) 3 ⟨g3,.cells [sv] 1 true⟩) 9 ⟨g9,.cells [nT] 1 true⟩,iR s 2 ⟨1,.cells [.fn 43 [] [.vp [lW],.ptr .S 1 1 0,.vp [sv],.ptr .S 0 1 0,.vp [nT],.ptr .S 2 1 0]] 0 true⟩):=by
 have U:(St.mk .nil lh s).get .L 8=⟨g8,.cells [lW] 0 true⟩:=r
 have V:(St.mk .nil lh s).get .L 3=⟨g3,.cells [sv] 0 true⟩:=D
 have W:(St.mk .nil lh s).get .L 9=⟨g9,.cells [nT] 0 true⟩:=E
 have X:(St.mk .nil lh s).get .S 2=⟨1,.cells [.nilfn] 0 true⟩:=O
 have Y: ∀n,Ev.fz false (n+1) lW= .ret (lW,[]):=fun n=>qD H
 have Z: ∀n,Ev.fz false (n+1) sv= .ret (sv,[]):=fun n=>qD I
 have q3: ∀n,Ev.fz false (n+1) nT= .ret (nT,[]):=fun n=>qD K
 have p8: ∀n,(Ev.fz true (n+2) (.ptr .L 8 g8 0)).run (St.mk .nil lh s).get s.length=some (.vp [lW],[(.L,8,⟨g8,.cells [lW] 1 true⟩)]):=fun n=>by
  unfold Ev.fz
  simp only[Bool.true_and,show(Sp.L==Sp.S)=false from rfl,Bool.false_eq_true,if_false,Q.run,U,if_true,List.drop_zero,jm,Y,Q.bind]
  rfl
 have p3: ∀n,(Ev.fz true (n+2) (.ptr .L 3 g3 0)).run (St.mk .nil lh s).get s.length=some (.vp [sv],[(.L,3,⟨g3,.cells [sv] 1 true⟩)]):=fun n=>by
  unfold Ev.fz
  simp only[Bool.true_and,show(Sp.L==Sp.S)=false from rfl,Bool.false_eq_true,if_false,Q.run,V,if_true,List.drop_zero,jm,Z,Q.bind]
  rfl
 have p9: ∀n,(Ev.fz true (n+2) (.ptr .L 9 g9 0)).run (St.mk .nil lh s).get s.length=some (.vp [nT],[(.L,9,⟨g9,.cells [nT] 1 true⟩)]):=fun n=>by
  unfold Ev.fz
  simp only[Bool.true_and,show(Sp.L==Sp.S)=false from rfl,Bool.false_eq_true,if_false,Q.run,W,if_true,List.drop_zero,jm,q3,Q.bind]
  rfl
 have pS: ∀n k,(Ev.fz true (n+1) (.ptr .S k 1 0)).run (St.mk .nil lh s).get s.length=some (.ptr .S k 1 0,[]):=fun n k=>rfl
 have pf:(Ev.fz true 8 (.fn 43 [] [.ptr .L 8 g8 0,.ptr .S 1 1 0,.ptr .L 3 g3 0,.ptr .S 0 1 0,.ptr .L 9 g9 0,.ptr .S 2 1 0])).run (St.mk .nil lh s).get s.length=some (.fn 43 [] [.vp [lW],.ptr .S 1 1 0,.vp [sv],.ptr .S 0 1 0,.vp [nT],.ptr .S 2 1 0],[(.L,8,⟨g8,.cells [lW] 1 true⟩),(.L,3,⟨g3,.cells [sv] 1 true⟩),(.L,9,⟨g9,.cells [nT] 1 true⟩)]):=by
  rw[Yb]
  simp only[jm,jq,p8,p3,p9,pS,Q.run,Option.bind_some,Q.bind]
  rfl
 unfold Ev.stV uR
 rw[if_neg (by exact Bool.false_ne_true)]
 simp only[Q.run,X,if_true]
 rw[if_pos (by decide)]
 simp only[Bool.true_and,show(Sp.S==Sp.L)=false from rfl,show(Sp.S==Sp.S)=true from rfl,Bool.false_eq_true,if_false]
 unfold iT
 rw[jq,pf]
 simp only[Option.bind_some]
 rw[if_neg (by exact Bool.false_ne_true)]
 rfl
theorem ai2{m:Nat}{lh:iL iy}{s:List iy}{k g n sz:Nat}{cs:List T}(h:iM s k=⟨g,.cells cs 0 false⟩)(r:cs.length=n*sz):fzW m lh s false (.isl .S k g 0 n sz)=some (.sl cs n false,[(.S,k,⟨g,.cells cs cs.length false⟩)]):=by
 have D:(St.mk .nil lh s).get .S k=iM s k:=rfl
 unfold fzW Ev.fz
 simp only[Bool.false_and,Bool.false_eq_true,if_false,Q.run,D,h,if_true]
 rw[if_pos (by omega),List.drop_zero,←r,List.take_length]
 rfl
def aaP(out:List Lg)(v:T):Prop:= ∃cs,iJ v out.length cs∧iK LgR out cs
theorem JX(out:List Lg): ∃v,aaP out v:=by
 obtain⟨cs,h⟩: ∃cs,iK LgR out cs:=by
  induction out with
  |nil=>exact⟨[],rfl⟩
  |cons g out ih=>
   obtain⟨cs,h⟩:=ih
   exact⟨_,_,_,rfl,rfl,h⟩
 exact⟨.sl cs out.length false,cs,.inr ⟨_,rfl⟩,h⟩
section
variable(zT aT fT a7 a8 a9 a10 iH iG:T)(c:Ct)(rE fc:List T)(l:List Fl)(hf:iJ fT l.length fc)(hr:iK T4 l fc)(hN:l.length≤1000)
 (ok:List (Int×Bool)→Bool) (lg:List (Int×Bool)→Lg) (PS: ∀x,(lg x).du=x)
 (Dm: ∀x,1≤x.length→x.length≤6→(∀k∈x,yy l.length k.1=true)→be pE 44 [.vp (zT::aT::fT::(jb c a7 a8 a9 a10 iH iG++rE)),.sl (nM x) x.length false] []=some (if ok x=true then .tup [.agg (pe (lg x) (.sl (nM x) x.length false)),.b true]else .tup [.agg (pe H3 .nilsl),.b false],[]))
include hf hr hN PS Dm
def ph(N:Nat)(J:Nat→Nat→Bool)(iQ:Nat→Bool)(ok:List (Int×Bool)→Bool)(lg:List (Int×Bool)→Lg)(H:Nat):List Lg:=(List.range N).flatMap fun f=>k9 N J iQ ok lg 6 [] f H
theorem aC8(iQ:Nat→Bool)(lW nT F:T)(hF:F= .fn 43 [] [.vp [lW],.ptr .S 1 1 0,.vp [.vp (zT::aT::fT::(jb c a7 a8 a9 a10 iH iG++rE))],.ptr .S 0 1 0,.vp [nT],.ptr .S 2 1 0])
  (lN: ∀f,f<l.length→ ∃q,∀kk,ng lW (.i kk (f:Int)) 1=some (.vp (.b (iQ f)::q)))
  (mI: ∀f,f<l.length→ ∃Z q,(∀kk,ng nT (.i kk (f:Int)) 1=some (.vp (Z::q)))∧iJ Z (ln l.length (jn c l) f).length (ints ((ln l.length (jn c l) f).map Int.ofNat))∧(ln l.length (jn c l) f).length≤1000∧ ∀g∈ln l.length (jn c l) f,g<l.length)
  (H:Nat) (hH:H≤6) (hb:(ph l.length (jn c l) iQ ok lg H).length≤1000000000) (fr:Fr) (lh:iL iy) (s:List iy) (h2:an fr 2= .i .i64 (H:Int)) (O:an fr 12= .ptr .S 2 1 0) (E:an fr 30= .i .i64 (l.length:Int)) (U:an fr 31= .i .i64 0) (hV:Vs s F [] []):
  Lp pE 43 Bm fr lh s (.ext 0) fun I V D=>Vs D F [] (ph l.length (jn c l) iQ ok lg H):=by
 have _:=hf
 have _:=hr
 have W:=Nl l.length (jn c l) iQ ok lg hN lW nT (.vp (zT::aT::fT::(jb c a7 a8 a9 a10 iH iG++rE))) F hF lN mI rfl rfl PS Dm 6
 refine kO KU (fun k I V D=>an I 31= .i .i64 (k:Int)∧Vs D F [] ((List.range k).flatMap fun f=>k9 l.length (jn c l) iQ ok lg 6 [] f H)) l.length ⟨U,by simpa using hV⟩ ?_ ?_
 ·rintro k I V D hk X ⟨r,K⟩
  have iU:(k:Int)<l.length:=by omega
  have hw:=iX (k:=k) (by omega)
  have wo:(List.range (k+1)).flatMap (fun f=>k9 l.length (jn c l) iQ ok lg 6 [] f H)=(List.range k).flatMap (fun f=>k9 l.length (jn c l) iQ ok lg 6 [] f H)++k9 l.length (jn c l) iQ ok lg 6 [] k H:=by
   rw[List.range_succ,List.flatMap_append];simp
  have Y:((List.range k).flatMap fun f=>k9 l.length (jn c l) iQ ok lg 6 [] f H).length+(k9 l.length (jn c l) iQ ok lg 6 [] k H).length≤1000000000:=by
   have h1:List.range l.length=List.range (k+1)++(List.range l.length).drop (k+1):=by
    rw[←List.take_append_drop (k+1) (List.range l.length),List.take_range,Nat.min_eq_left (by omega)]
    simp
   unfold ph at hb
   rw[h1,List.flatMap_append,wo,List.length_append,List.length_append]at hb
   omega
  obtain⟨s2,e2,DQ⟩:=W [] k H D _ rfl (by decide) (by simp) hk hH K Y
  have uE:=K.b2
  rw[←wo]at DQ
  subst hF
  simp(maxDischargeDepth:=6) only[qA,jA,kP,seval,gd,iN,Bm,X,h2,O,E,r,iU,hw,uE,e2,arv]
  exact DQ
 ·rintro I V D X ⟨r,K⟩
  simp only[qA,seval,gd,Bm,X,E,r,Int.lt_irrefl]
  exact K
theorem amN(ops:List Int)(I:T)(K:iJ I ops.length (ints ops))(V:ops.length≤1000)(W: ∀x∈ops,0≤x∧x<(l.length:Int))(H:Nat)(X:H≤6)(hb:(ph l.length (jn c l) (nk ops) ok lg H).length≤1000000000):
  ∃v s,be pE 25 [.vp (zT::aT::fT::(jb c a7 a8 a9 a10 iH iG++rE)),I,.i .i64 (H:Int)] []=some (if 20000<aaB l.length H (nk ops) (ln l.length (jn c l))∨2000<(ph l.length (jn c l) (nk ops) ok lg H).length then .tup [.nilsl,.i .i64 10]else .tup [v,.i .i64 0],s)∧aaP (ph l.length (jn c l) (nk ops) ok lg H) v:=by
 have E:=hf.lenI
 have Y:=K.froz
 have Z:=K.froz1
 obtain⟨s0,e0⟩:=RD zT aT fT a7 a8 a9 a10 iH iG c rE fc l hf hr hN ops I K V W H X
 have e1:=F4 zT aT fT (jb c a7 a8 a9 a10 iH iG++rE) l.length E hN ops I K V W
 obtain⟨s1,e2⟩:=F7 zT aT fT a7 a8 a9 a10 iH iG c rE fc l hf hr hN
 have lN:=JP l.length ops
 have mI:=PM l.length (jn c l) hN
 have z1:froz1 (.sl (sC (nl l.length ops)) l.length false)=true:=rfl
 have z2:froz1 (KA l.length (jn c l))=true:=rfl
 have z3:froz (KA l.length (jn c l))=true:=rfl
 have z4:froz (.sl (sC (nl l.length ops)) l.length false)=true:=rfl
 have z5:cellsOf (.sl (sC (nl l.length ops)) l.length false)= [.sl (sC (nl l.length ops)) l.length false]:=rfl
 have z6:noTup (.sl (sC (nl l.length ops)) l.length false)=true:=rfl
 have z7:cellsOf (KA l.length (jn c l))= [KA l.length (jn c l)]:=rfl
 have z8:noTup (KA l.length (jn c l))=true:=rfl
 generalize hI:T.sl (sC (nl l.length ops)) l.length false=lW at*
 generalize hX:KA l.length (jn c l)=nT at*
 rw[iD aq8 (by simp[c25])]
 by_cases Da:20000<aaB l.length H (nk ops) (ln l.length (jn c l))
 ·obtain⟨v,hv⟩:=JX (ph l.length (jn c l) (nk ops) ok lg H)
  refine⟨v, ?_⟩
  rw[if_pos (.inl Da)]
  simp(maxDischargeDepth:=6) only[qA,jA,seval,iN,c25,e0,ajA,Y,Z,Da]
  exact⟨_,rfl,hv⟩
 ·have O:=fun lh h8 h3 h9=>aC7 (lh:=lh) (s:= [⟨1,.cells [.nilsl] 0 true⟩,⟨1,.cells [.nilsl] 0 true⟩,⟨1,.cells [.nilfn] 0 true⟩]) (lW:=lW) (sv:= .vp (zT::aT::fT::(jb c a7 a8 a9 a10 iH iG++rE))) (nT:=nT) (g8:=1) (g3:=1) (g9:=1) h8 h3 h9 z1 rfl z2 rfl
  simp(maxDischargeDepth:=6) only[qA,jw,oW,jA,seval,iN,c25,E,e0,e1,e2,ajA,aAf,aq4,aAh,az7,Y,Z,Da,z1,z2,z3,z4,z5,z6,z7,z8,O]
  generalize hD:DC pE 43 (.loop Bm) _=D
  obtain⟨f2,l2,s2,rfl,DQ,xQ⟩:=G6 KU hD (aC8 zT aT fT a7 a8 a9 a10 iH iG c rE fc l hf hr hN ok lg PS Dm (nk ops) lW nT _ rfl lN mI H X hb _ _ _ (by simp only[qA,seval]) (by simp only[qA,seval]) (by simp only[qA,seval]) (by simp only[qA,seval]) ⟨⟨.nilsl,rfl,.inl ⟨rfl,rfl,by simp⟩⟩,⟨.nilsl,rfl,.inl ⟨rfl,rfl,rfl⟩⟩,rfl⟩)
  have r:an f2 10= .ptr .S 0 1 0:=by rw[xQ 10 (by decide)];simp only[qA,seval]
  generalize ph l.length (jn c l) (nk ops) ok lg H=out at*
  obtain⟨ov,a0,a1⟩:=DQ.b0
  rcases a1 with⟨rfl,rfl,_⟩|⟨g,cs,rfl,b1,b2,b3⟩
  ·refine⟨.nilsl, ?_⟩
   simp(maxDischargeDepth:=6) only[qA,jA,seval,iN,r,a0]
   exact⟨_,rfl,[],.inl ⟨rfl,rfl,rfl⟩,rfl⟩
  ·have E:lenI (T.isl .S 4 g 0 out.length 7)=some (.i .i64 (out.length:Int)):=rfl
   have ls:=b2.len LgR.len
   have U:=fun m lh=>ai2 (m:=m) (lh:=lh) b1 ls
   refine⟨.sl cs out.length false, ?_⟩
   by_cases h2:2000<out.length
   ·have N0:(2000:Int)<(out.length:Int):=by omega
    simp(maxDischargeDepth:=6) only[qA,jA,seval,iN,r,a0,E,h2,N0,or_true]
    exact⟨_,rfl,cs,.inr ⟨_,rfl⟩,b2⟩
   ·have N0: ¬(2000:Int)<(out.length:Int):=by omega
    simp(maxDischargeDepth:=6) only[qA,jA,seval,iN,r,a0,E,h2,N0,U,or_self]
    exact⟨_,rfl,cs,.inr ⟨_,rfl⟩,b2⟩
end
end Go.Proofs.YtjniffjppoklpaaGreat
