/- Walks of functions of the program and of the reference, and their plain laws, part 18. Conditions: the theorems' own. -/
import Derived.Test.YtcpceiclnbmgiaaGreatM17
import Derived.KernelRfl
set_option maxRecDepth 100000
set_option linter.unusedSimpArgs false
set_option linter.unusedVariables false
set_option maxHeartbeats 16000000
namespace Go.Proofs.YtcpceiclnbmgiaaGreat
open Go Go.Ev
def Yq(sh:List b8)(k bytes g len sz:Nat)(i:List T)(e:b8):Option (T×List b8):=match e.ob with
 | .cells cs 0 false=>if e.g=g∧len*sz≤cs.length∧(len+1)*bytes≤roomy then some (.isl .S k (g+1) 0 (len+1) sz,iH sh k ⟨g+1,.cells (cs.take (len*sz)++i) 0 false⟩)else none
 |_=>none
theorem BV{sh:List b8}{k g i len bytes sz:Nat}{r:List T}{cs:List T}:Yq sh k bytes g len sz r ⟨i,.cells cs 0 false⟩=if i=g∧len*sz≤cs.length∧(len+1)*bytes≤roomy then some (.isl .S k (g+1) 0 (len+1) sz,iH sh k ⟨g+1,.cells (cs.take (len*sz)++r) 0 false⟩)else none:=nr rfl
def ajT(sh:List b8)(bytes sz:Nat):T→T→Option (T×List b8)
 | .nilsl,.sl i 1 _=>if bytes≤roomy then some (.isl .S sh.length 1 0 1 sz,iH sh sh.length ⟨1,.cells i 0 false⟩)else none
 | .isl .S k g 0 len _,.sl i 1 _=>Yq sh k bytes g len sz i (iz sh k)
 |_,_=>none
theorem Ls{sh:List b8}{bytes sz:Nat}{i:List T}{ex:Bool}:ajT sh bytes sz .nilsl (.sl i 1 ex)=if bytes≤roomy then some (.isl .S sh.length 1 0 1 sz,iH sh sh.length ⟨1,.cells i 0 false⟩)else none:=nr rfl
theorem Lt{sh:List b8}{k g len bytes sz r:Nat}{i:List T}{ex:Bool}:ajT sh bytes sz (.isl .S k g 0 len r) (.sl i 1 ex)=Yq sh k bytes g len sz i (iz sh k):=nr rfl
def wm0:b8→Bool
 |⟨_,.cells _ 0 false⟩=>true
 |_=>false
def okP(sh:List b8):T→Bool
 | .isl .S k _ _ _ _=>wm0 (iz sh k)
 |_=>true
theorem ada{sh:List b8}:okP sh .nilsl=true:=nr rfl
theorem PV{sh:List b8}{k g o n sz:Nat}:okP sh (.isl .S k g o n sz)=wm0 (iz sh k):=nr rfl
theorem SJ{g:Nat}{cs:List T}:wm0 ⟨g,.cells cs 0 false⟩=true:=nr rfl
theorem Yr{E:Env}{call:qa}{n:Nat}{fr:Fr}{lh:iq b8}{sh:List b8}{I:List dy}{r sz bytes:Nat}{s x:iF}(O:r<n)(hx:Bc sz (rd fr x)=true)(hs:ED sz (rd fr s)=true)(D:okP sh (rd fr s)=true):eb E call n (⟨some r,.app sz bytes s x true true,none⟩::I) ⟨fr,lh,sh⟩=
  (ajT sh bytes sz (rd fr s) (rd fr x)).bind fun q=>eb E call n I ⟨kg fr r q.1,lh,q.2⟩:=by
 obtain⟨U,ex,hx,X,Y⟩:=Bd hx
 have Ys:U.length=1*sz:=by omega
 rw[pL (by rfl) (show Fe n (some r)from O)]
 unfold Ev.one
 rcases EF hs with hs|⟨k,g,len,hs⟩
 ·simp only[jk,qM,jh,hs,hx,jL,Ys,if_true,Q.run,Option.bind_some,Ls]
  simp only[Nat.succ_ne_zero,if_false,Nat.one_mul]
  by_cases i:bytes≤roomy
  ·simp only[if_pos i,oc,Q.run,if_true];rfl
  ·simp only[if_neg i,Q.run];rfl
 ·have Pk:(St.mk fr lh sh).get .S k=iz sh k:=rfl
  rw[hs,PV]at D
  rw[hs,hx,Lt]
  generalize Z:iz sh k=e at*
  obtain⟨V,ob⟩:=e
  unfold wm0 at D
  split at D
  ·rename_i g2 cs W
   cases W
   rw[BV]
   simp only[jk,qM,jh,hs,hx,jL,Ys,if_true,Q.run,Option.bind_some]
   simp only[Nat.succ_ne_zero,if_false,decide_true,Bool.true_and,decide_eq_true_eq]
   by_cases i:(len+1)*bytes≤roomy
   ·simp only[Q.run,Pk,if_true,i,and_true]
    by_cases K:V=g
    ·subst K
     simp only[if_true,true_and]
     by_cases H:len*sz=cs.length
     ·rw[if_pos H,if_pos (by omega)]
      simp only[Q.run]
      rw[H,List.take_length]
      rfl
     ·rw[if_neg H]
      by_cases Cm:len*sz<cs.length
      ·rw[if_pos (by simp[Cm]),if_pos (by omega)]
       rfl
      ·rw[if_neg (by simp[Cm]),if_neg (by omega)]
       rfl
    ·simp only[Q.run,K,false_and,if_false];rfl
   ·simp only[i,if_false,Q.run,and_false];rfl
  ·cases D
def Z3(g:Lg)(c:List T):Prop:=c=td g (.sl (oD g.du) g.du.length false)
theorem Z3.len(g:Lg)(c:List T)(h:Z3 g c):c.length=7:=by rw[h];rfl
section
variable(N:Nat)(J:Nat→Nat→Bool)(iC:Nat→Bool)(ok:List (Int×Bool)→Bool)(lg:List (Int×Bool)→Lg)
def uG(i:List (Int×Bool)→Nat→Nat→List Lg)(x:List (Int×Bool))(f h:Nat):List Lg:=(if ok x=true then [lg x]else [])++(qy N J f).flatMap fun g=>i x g h
def lZ:Nat→List (Int×Bool)→Nat→Nat→List Lg
 |0,_,_,_=> []
 |n+1,d,f,h=>(if iC f=true then uG N J ok lg (lZ n) (d++ [((f:Int),false)]) f h else [])++(if h=0 then []else uG N J ok lg (lZ n) (d++ [((f:Int),true)]) f (h-1))
end
structure Vs (s:List b8) (F:T) (d:List (Int×Bool)) (out:List Lg):Prop where
 b0: ∃ov,iz s 0=⟨1,.cells [ov] 0 true⟩∧((ov= .nilsl∧out= []∧s.length≤4)∨ ∃g cs,ov= .isl .S 4 g 0 out.length 7∧iz s 4=⟨g,.cells cs 0 false⟩∧iA Z3 out cs∧s.length=5)
 b1: ∃dv,iz s 1=⟨1,.cells [dv] 0 true⟩∧((dv= .nilsl∧d= []∧s.length=3)∨ ∃g st,dv= .isl .S 3 g 0 d.length 2∧iz s 3=⟨g,.cells (oD d++st) 0 false⟩∧4≤s.length)
 b2:iz s 2=⟨1,.cells [F] 0 true⟩
theorem atM{lh:iq b8}{s:List b8}{k g n sz:Nat}{cs:List T}(h:iz s k=⟨g,.cells cs 0 false⟩)(r:n*sz≤cs.length):fzV lh s false (.isl .S k g 0 n sz)=some (.sl (cs.take (n*sz)) n false,[(.S,k,⟨g,.cells cs cs.length false⟩)]):=by
 have i:(St.mk .nil lh s).get .S k=iz s k:=rfl
 unfold fzV iG Ev.fz
 simp only[Bool.false_and,Bool.false_eq_true,if_false,Q.run,i,h,if_true]
 rw[if_pos (by omega)]
 rfl
theorem Yt{sv:T}{ok:List (Int×Bool)→Bool}{lg:List (Int×Bool)→Lg}{d:List (Int×Bool)}(hsv:froz sv=true)(I:(lg d).du=d)(K:1≤d.length)(Cg:be pE 59 [sv,.sl (oD d) d.length false] []=some (if ok d=true then .tup [.agg (td (lg d) (.sl (oD d) d.length false)),.b true]else .tup [.agg (td lg0 .nilsl),.b false],[]))
  {fr:Fr} {lh:iq b8} {s:List b8} {g:Nat} {st:List T} (h:iz s 3=⟨g,.cells (oD d++st) 0 false⟩):
  je pE (be pE) 49 ⟨fr,lh,s⟩ 59 [sv,.isl .S 3 g 0 d.length 2]=some (if ok d=true then(.tup [.agg (td (lg d) (.isl .L 49 ((b7 lh 49).g+1) 0 d.length 2)),.b true],⟨fr,nN lh 49 ⟨(b7 lh 49).g+1,.cells (oD d) 0 false⟩,s⟩)else(.tup [.agg (td lg0 .nilsl),.b false],⟨fr,lh,s⟩)):=by
 have r:=zI d
 have i:=atM (lh:=lh) h (n:=d.length) (sz:=2) (by rw[List.length_append];omega)
 rw[List.take_append_of_le_length (by omega),List.take_of_length_le (by omega)]at i
 rw[VP ap0 rfl rfl]
 simp only[qV,Cy,sQ hsv,i,Option.bind_some,Cg]
 cases O:ok d
 ·rfl
 ·have D:=Ll d
  have PK:(oD d).length/d.length=2:=by rw[r];exact Nat.mul_div_cancel_left 2 (by omega)
  simp only[if_true]
  unfold xl td
  have H:(oD d).length/d.length*d.length=(oD d).length:=by rw[PK];omega
  simp only[lA,iI,show¬(100:Nat)<100 by decide,if_false,show 100/100-1=0 by decide,show 100%100=0 by decide,List.getElem?_cons_zero,List.set_cons_zero]
  rw[if_pos ⟨D,H⟩,PK]
  rfl
def jW:dE→dE
 | .seq _ (.seq _ (.seq (.block _ (.seq _ (.seq _ (.seq _ (.seq _ t))))) _))=>t
 |c=>c
def EG:dE→dE→dE
 | .seq a (.seq b (.seq (.block i (.seq c (.seq d (.seq e (.seq f _))))) z)),t=> .seq a (.seq b (.seq (.block i (.seq c (.seq d (.seq e (.seq f t))))) z))
 |c,_=>c
def Ch:dE→dE
 | .seq a _=>a
 |c=>c
def zO:dE→dE
 | .seq _ b=>b
 |c=>c
theorem SK:jW jj= .seq (Ch (jW jj)) (.seq (.seq (Ch (Ch (zO (jW jj)))) (zO (Ch (zO (jW jj))))) (.seq (Ch (zO (zO (jW jj)))) (zO (zO (zO (jW jj)))))):=nr rfl
theorem Lu{lh:iq b8}{s:List b8}{k:Nat}{w v:T}(i:iz s k=⟨1,.cells [w] 0 true⟩)(hk:kept v=true)(hc:cellsOf v= [v])(r:noTup v=true):Ev.stV lh s (.ptr .S k 1 0) v 1=some (lh,iH s k ⟨1,.cells [v] 0 true⟩):=by
 rw[nP hk i,kU,if_pos ⟨rfl,by rw[hc];rfl,r,Nat.zero_le _,by simp⟩,hc]
 rfl
section
variable(N:Nat)(F:T)(d:List (Int×Bool))(out:List Lg)(f:Nat)(b:Bool)
theorem vs1(Y:d.length≤5)(fr:Fr)(lh:iq b8)(s:List b8)(V:an fr 0= .i .i64 (f:Int))(r:an fr 3= .ptr .S 1 1 0)(D:an fr 11= .b b)(Z:Vs s F d out):
  ∃f' W,DC pE 80 (Ch (jW jj)) ⟨fr,lh,s⟩=some (.nrm,⟨f',lh,W⟩)∧Vs W F (d++ [((f:Int),b)]) out:=by
 obtain⟨⟨ov,a0,a1⟩,⟨dv,I,b1⟩,X⟩:=Z
 have K:oD (d++ [((f:Int),b)])=oD d++ [.i .i64 (f:Int),.b b]:=by rw[Ig];rfl
 have TB:repl [T.i .i64 0,.b false] 1= [.i .i64 0,.b false]:=rfl
 have r1:16≤roomy:=by unfold roomy;omega
 rcases b1 with⟨rfl,rfl,hl⟩|⟨g,st,rfl,b3,hl⟩
 ·have O: ∀e,iz (iH s 3 e) 1=⟨1,.cells [.nilsl] 0 true⟩:=fun e=>by rw[lz,if_neg (by decide)];exact I
  have Vl: ∀e,Ev.stV lh (iH s 3 e) (.ptr .S 1 1 0) (.isl .S 3 1 0 1 2) 1=some (lh,iH (iH s 3 e) 1 ⟨1,.cells [.isl .S 3 1 0 1 2] 0 true⟩):=fun e=>Lu (O e) rfl rfl rfl
  have SC: ∀e,(iH s 3 e).length=4:=fun e=>by rw[←hl,re,List.length_append,List.length_singleton,hl]
  have SL: ∀e H,(iH (iH s 3 e) 1 H).length=4:=fun e H=>by rw[jM _ _ _ (by rw[SC];decide),SC]
  simp(maxDischargeDepth:=6) only[qA,jl,seval,iE,jW,Ch,jj,V,r,D,I,TB,Yr,iK,jx,ada,Ls,r1,re,hl,Vl]
  rcases a1 with⟨rfl,rfl,_⟩|⟨_,_,_,_,_,h5⟩
  ·exact⟨_,_,rfl,⟨⟨_,by rw[lz,if_neg (by decide),lz,if_neg (by decide)];exact a0,.inl ⟨rfl,rfl,by rw[SL];decide⟩⟩,⟨.isl .S 3 1 0 1 2,by rw[lz,if_pos rfl],.inr ⟨1,[],rfl,by rw[lz,if_neg (by decide),lz,if_pos rfl];rfl,by rw[SL];decide⟩⟩,by rw[lz,if_neg (by decide),lz,if_neg (by decide)];exact X⟩⟩
  ·omega
 ·have mJ:=zI d
  have r2:(d.length+1)*16≤roomy:=by unfold roomy;omega
  have U:d.length*2≤(oD d++st).length:=by rw[List.length_append];omega
  have I6:(oD d++st).take (d.length*2)=oD d:=by rw[List.take_append_of_le_length (by omega),List.take_of_length_le (by omega)]
  have O: ∀e,iz (iH s 3 e) 1=⟨1,.cells [.isl .S 3 g 0 d.length 2] 0 true⟩:=fun e=>by rw[lz,if_neg (by decide)];exact I
  have Vl: ∀e,Ev.stV lh (iH s 3 e) (.ptr .S 1 1 0) (.isl .S 3 (g+1) 0 (d.length+1) 2) 1=some (lh,iH (iH s 3 e) 1 ⟨1,.cells [.isl .S 3 (g+1) 0 (d.length+1) 2] 0 true⟩):=fun e=>Lu (O e) rfl rfl rfl
  simp(maxDischargeDepth:=6) only[qA,jl,seval,iE,jW,Ch,jj,V,r,D,I,b3,TB,Yr,iK,ju,PV,SJ,Lt,BV,r2,U,I6,Vl]
  have SL: ∀e H,(iH (iH s 3 e) 1 H).length=s.length:=fun e H=>by rw[jM _ _ _ (by rw[jM _ _ _ (by omega)];omega),jM _ _ _ (by omega)]
  refine⟨_,_,rfl,⟨⟨ov,by rw[lz,if_neg (by decide),lz,if_neg (by decide)];exact a0, ?_⟩,⟨_,by rw[lz,if_pos rfl],.inr ⟨g+1,[], ?_, ?_,by rw[SL];exact hl⟩⟩,by rw[lz,if_neg (by decide),lz,if_neg (by decide)];exact X⟩⟩
  ·rcases a1 with⟨h1,h2,r⟩|⟨g2,cs,h1,h2,r,h4⟩
   ·exact .inl ⟨h1,h2,by rw[SL];exact r⟩
   ·exact .inr ⟨g2,cs,h1,by rw[lz,if_neg (by decide),lz,if_neg (by decide)];exact h2,r,by rw[SL];exact h4⟩
  ·rw[List.length_append];rfl
  ·rw[lz,if_neg (by decide),lz,if_pos rfl,K,List.append_nil]
theorem vs2(sv:T)(ok:List (Int×Bool)→Bool)(lg:List (Int×Bool)→Lg)(x:List (Int×Bool))(hx:(lg x).du=x)(H:1≤x.length)(hsv:froz sv=true)(NL:cellsOf sv= [sv])(Cg:be pE 59 [sv,.sl (oD x) x.length false] []=some (if ok x=true then .tup [.agg (td (lg x) (.sl (oD x) x.length false)),.b true]else .tup [.agg (td lg0 .nilsl),.b false],[]))
  (fr:Fr) (lh:iq b8) (s:List b8) (I:an fr 3= .ptr .S 1 1 0) (K:an fr 4= .vp [sv]) (V:Vs s F x out):
  ∃r D,DC pE 80 (Ch (Ch (zO (jW jj)))) ⟨fr,lh,s⟩=some (.nrm,⟨r,D,s⟩)∧an r 14= .b (ok x)∧(ok x=true→an r 13= .ptr .L 13 ((b7 lh 13).g+1) 0∧b7 D 13=⟨(b7 lh 13).g+1,.cells (td (lg x) (.isl .L 49 ((b7 lh 49).g+1) 0 x.length 2)) 0 true⟩∧b7 D 49=⟨(b7 lh 49).g+1,.cells (oD x) 0 false⟩):=by
 obtain⟨⟨X,a0,a1⟩,⟨Y,O,W⟩,Z⟩:=V
 rcases W with⟨rfl,rfl,hl⟩|⟨g,st,rfl,b3,hl⟩
 ·simp at H
 ·have hc:=fun fr lh=>Yt hsv hx H Cg (fr:=fr) (lh:=lh) b3
  have TB:repl [T.nilsl,.i .i64 0,.i .i64 0,.s [],.s [],.i .i64 0,.i .i64 0] 1= [T.nilsl,.i .i64 0,.i .i64 0,.s [],.s [],.i .i64 0,.i .i64 0]:=rfl
  unfold td at hc ⊢
  cases U:ok x
  ·simp(maxDischargeDepth:=6) only[qA,jl,seval,iE,jW,Ch,zO,jj,I,K,O,hc,U,NL]
   exact⟨_,_,rfl,by simp only[qA,seval],False.elim⟩
  ·simp(maxDischargeDepth:=6) only[qA,jl,seval,iE,jW,Ch,zO,jj,I,K,O,hc,U,NL]
   refine⟨_,_,rfl,by simp only[qA,seval],fun _=>⟨by simp only[qA,seval],by simp only[qA,seval],by simp only[qA,seval]⟩⟩
theorem vs3(o:Bool)(l:Lg)(h1:1≤l.du.length)(TC D:Nat)(hb:out.length≤1000000000)(fr:Fr)(lh:iq b8)(s:List b8)(K:an fr 5= .ptr .S 0 1 0)(U:an fr 14= .b o)(qf:o=true→an fr 13= .ptr .L 13 TC 0∧b7 lh 13=⟨TC,.cells (td l (.isl .L 49 D 0 l.du.length 2)) 0 true⟩∧b7 lh 49=⟨D,.cells (oD l.du) 0 false⟩)(x:List (Int×Bool))(hx:1≤x.length)(Y:Vs s F x out):
  ∃O l' Z,DC pE 80 (zO (Ch (zO (jW jj)))) ⟨fr,lh,s⟩=some (.nrm,⟨O,l',Z⟩)∧Vs Z F x (out++if o=true then [l]else []):=by
 cases o
 ·obtain⟨O,e⟩: ∃O,DC pE 80 (zO (Ch (zO (jW jj)))) ⟨fr,lh,s⟩=some (.nrm,⟨O,lh,s⟩):=by
   simp(maxDischargeDepth:=6) only[qA,jl,seval,iE,jW,Ch,zO,jj,U]
   exact⟨_,rfl⟩
  exact⟨_,_,_,e,by simpa using Y⟩
 ·obtain⟨k1,V,k3⟩:=qf rfl
  obtain⟨⟨ov,a0,a1⟩,⟨dv,b0,b1⟩,b2⟩:=Y
  rcases b1 with⟨rfl,rfl,hl⟩|⟨g,st,rfl,b3,hl⟩
  ·simp at hx
  have TB:repl [T.nilsl,.i .i64 0,.i .i64 0,.s [],.s [],.i .i64 0,.i .i64 0] 1= [T.nilsl,.i .i64 0,.i .i64 0,.s [],.s [],.i .i64 0,.i .i64 0]:=rfl
  have hdl:=zI l.du
  have H:l.du.length*2≤(oD l.du).length:=by omega
  have I6:(oD l.du).take (l.du.length*2)=oD l.du:=List.take_of_length_le (by omega)
  have r1:88≤roomy:=by unfold roomy;omega
  unfold td at V
  rcases a1 with⟨rfl,rfl,hl3⟩|⟨g2,cs,rfl,a2,a3,a4⟩
  ·have SC:s.length=4:=by omega
   have W: ∀e,iz (iH s 4 e) 0=⟨1,.cells [.nilsl] 0 true⟩:=fun e=>by rw[lz,if_neg (by decide)];exact a0
   have Vl: ∀(lh:iq b8) e,Ev.stV lh (iH s 4 e) (.ptr .S 0 1 0) (.isl .S 4 1 0 1 7) 1=some (lh,iH (iH s 4 e) 0 ⟨1,.cells [.isl .S 4 1 0 1 7] 0 true⟩):=fun lh e=>Lu (W e) rfl rfl rfl
   simp(maxDischargeDepth:=6) only[qA,jl,Ee,seval,iE,jW,Ch,zO,jj,U,K,k1,V,k3,a0,TB,H,I6,jV,iK,jx,jR,r1,SC,Vl]
   have r: ∀e I,(iH (iH s 4 e) 0 I).length=5:=fun e I=>by
    have K:(iH s 4 e).length=5:=by rw[←SC,re,List.length_append,List.length_singleton,SC]
    rw[jM _ _ _ (by omega),K]
   exact⟨_,_,_,rfl,⟨⟨.isl .S 4 1 0 1 7,by rw[lz,if_pos rfl],.inr ⟨1,_,rfl,by rw[lz,if_neg (by decide),lz,if_pos rfl];rfl,iA.one rfl,r _ _⟩⟩,⟨_,by rw[lz,if_neg (by decide),lz,if_neg (by decide)];exact b0,.inr ⟨g,st,rfl,by rw[lz,if_neg (by decide),lz,if_neg (by decide)];exact b3,by rw[r];decide⟩⟩,by rw[lz,if_neg (by decide),lz,if_neg (by decide)];exact b2⟩⟩
  ·have mJ:=a3.len Z3.len
   have r2:(out.length+1)*88≤roomy:=by unfold roomy;omega
   have X:out.length*7=cs.length:=by omega
   have W: ∀e,iz (iH s 4 e) 0=⟨1,.cells [.isl .S 4 g2 0 out.length 7] 0 true⟩:=fun e=>by rw[lz,if_neg (by decide)];exact a0
   have Vl: ∀(lh:iq b8) e,Ev.stV lh (iH s 4 e) (.ptr .S 0 1 0) (.isl .S 4 (g2+1) 0 (out.length+1) 7) 1=some (lh,iH (iH s 4 e) 0 ⟨1,.cells [.isl .S 4 (g2+1) 0 (out.length+1) 7] 0 true⟩):=fun lh e=>Lu (W e) rfl rfl rfl
   simp(maxDischargeDepth:=6) only[qA,jl,Ee,seval,iE,jW,Ch,zO,jj,U,K,k1,V,k3,a0,a2,TB,H,I6,jV,iK,ju,jS,jc,r2,X,Vl]
   have r: ∀e I,(iH (iH s 4 e) 0 I).length=5:=fun e I=>by rw[jM _ _ _ (by rw[jM _ _ _ (by omega)];omega),jM _ _ _ (by omega),a4]
   exact⟨_,_,_,rfl,⟨⟨.isl .S 4 (g2+1) 0 (out.length+1) 7,by rw[lz,if_pos rfl],.inr ⟨g2+1,_,by rw[List.length_append,List.length_singleton],by rw[lz,if_neg (by decide),lz,if_pos rfl];rfl,iA.append a3 (iA.one rfl),r _ _⟩⟩,⟨_,by rw[lz,if_neg (by decide),lz,if_neg (by decide)];exact b0,.inr ⟨g,st,rfl,by rw[lz,if_neg (by decide),lz,if_neg (by decide)];exact b3,by rw[r];decide⟩⟩,by rw[lz,if_neg (by decide),lz,if_neg (by decide)];exact b2⟩⟩
theorem vs4(J:Nat→Nat→Bool)(hN:N≤1000)(lM nT sv:T)(hF:F= .fn 58 [] [.vp [lM],.ptr .S 1 1 0,.vp [sv],.ptr .S 0 1 0,.vp [nT],.ptr .S 2 1 0])(r:List (Int×Bool)→Nat→Nat→List Lg)(x:List (Int×Bool))(left:Nat)(hx:x.length<6∨ ∀g,r x g left= [])
  (qG: ∃X q,(∀kk,lY nT (.i kk (f:Int)) 1=some (.vp (X::q)))∧IsSl X (qy N J f).length (ints ((qy N J f).map Int.ofNat))∧(qy N J f).length≤1000∧ ∀g∈qy N J f,g<N)
  (DG:1≤x.length∧x.length≤6) (IH:x.length<6→ ∀g s out,g<N→Vs s F x out→out.length+(r x g left).length≤1000000000→ ∃H,be pE 58 [.i .i64 (g:Int),.i .i64 (left:Int),.vp [lM],.ptr .S 1 1 0,.vp [sv],.ptr .S 0 1 0,.vp [nT],.ptr .S 2 1 0] s=some (.tup [],H)∧Vs H F x (out++r x g left))
  (hb:out.length+((qy N J f).flatMap fun g=>r x g left).length≤1000000000) (fr:Fr) (lh:iq b8) (s:List b8) (h0:an fr 0= .i .i64 (f:Int)) (h3:an fr 3= .ptr .S 1 1 0) (h6:an fr 6= .vp [nT]) (Z:an fr 7= .ptr .S 2 1 0) (I:an fr 12= .i .i64 (left:Int)) (hV:Vs s F x out):
  ∃U l' H,DC pE 80 (Ch (zO (zO (jW jj)))) ⟨fr,lh,s⟩=some (.nrm,⟨U,l',H⟩)∧Vs H F x (out++(qy N J f).flatMap fun g=>r x g left):=by
 obtain⟨dv,b0,b1⟩:=hV.b1
 rcases b1 with⟨rfl,rfl,hl⟩|⟨g,st,rfl,b3,hl⟩
 ·simp at DG
 have mf:lenI (T.isl .S 3 g 0 x.length 2)=some (.i .i64 (x.length:Int)):=rfl
 by_cases V:x.length<6
 ·have K:(x.length:Int)<6:=by omega
  obtain⟨X,q,Y,W,hg1,hg2⟩:=qG
  have aAk:=W.lenI
  simp(maxDischargeDepth:=6) only[qA,jl,seval,iE,jW,Ch,zO,jj,h0,h3,h6,b0,mf,K,Y,aAk]
  generalize hD:DC pE 80 (.loop Aw) _=D
  have atP: ∀(fr:Fr) (lh:iq b8),an fr 7= .ptr .S 2 1 0→an fr 12= .i .i64 (left:Int)→an fr 63=X→an fr 64= .i .i64 ((qy N J f).length:Int)→an fr 65= .i .i64 0→Lp pE 80 Aw fr lh s (.ext 2) fun U l H=>Vs H F x (out++(qy N J f).flatMap fun g=>r x g left):=by
   intro fr lh Z I B6 EH Cf
   generalize qy N J f=gs at*
   refine ky JA (fun k U l H=>an U 65= .i .i64 (k:Int)∧Vs H F x (out++(gs.take k).flatMap fun g=>r x g left)) gs.length ⟨Cf,by simpa using hV⟩ ?_ ?_
   ·rintro k U l H hk pr ⟨O,Ik⟩
    have iX:(k:Int)<gs.length:=by omega
    have hw:=iN (k:=k) (by omega)
    have Y:=fun kk=>W.ia (sz:=1) (k:=k) (kk:=kk) (by rw[kO,List.length_map];omega) hk
    have hd:(ints (gs.map Int.ofNat)).drop (k*1)= .i .i64 (gs[k]:Int)::(ints (gs.map Int.ofNat)).drop (k+1):=by
     rw[Nat.mul_one,List.drop_eq_getElem_cons (by simpa[ints]using hk)]
     simp[ints]
    rw[hd]at Y
    have FW:(gs.take (k+1)).flatMap (fun g=>r x g left)=(gs.take k).flatMap (fun g=>r x g left)++r x gs[k] left:=by
     rw[List.take_succ_eq_append_getElem hk,List.flatMap_append]
     simp
    have hle:(out++(gs.take k).flatMap fun g=>r x g left).length+(r x gs[k] left).length≤1000000000:=by
     have h1:(gs.flatMap fun g=>r x g left).length=((gs.take (k+1)).flatMap fun g=>r x g left).length+((gs.drop (k+1)).flatMap fun g=>r x g left).length:=by
      rw[←List.length_append,←List.flatMap_append,List.take_append_drop]
     rw[FW,List.length_append]at h1
     rw[List.length_append]
     omega
    obtain⟨s2,e2,PW⟩:=IH V gs[k] H _ (hg2 _ (List.getElem_mem hk)) Ik hle
    have sx:=Ik.b2
    rw[List.append_assoc,←FW]at PW
    subst hF
    simp(maxDischargeDepth:=6) only[qA,jl,j3,seval,gd,iE,Aw,pr,Z,I,B6,EH,O,iX,hw,Y,sx,e2,apZ]
    exact PW
   ·rintro U l H pr ⟨O,Ik⟩
    rw[List.take_length]at Ik
    simp only[qA,seval,gd,Aw,pr,EH,O,Int.lt_irrefl]
    exact Ik
  obtain⟨f3,l3,s3,rfl,hV3,CN⟩:=Ba JA hD (atP _ _ (by simp only[qA,seval,Z]) (by simp only[qA,seval,I]) (by simp only[qA,seval]) (by simp only[qA,seval]) (by simp only[qA,seval]))
  simp(maxDischargeDepth:=6) only[qA,seval]
  exact⟨_,_,_,rfl,hV3⟩
 ·have K: ¬(x.length:Int)<6:=by omega
  have mR:((qy N J f).flatMap fun g=>r x g left)= []:=by
   rcases hx with h|h
   ·exact absurd h V
   ·simp[h]
  rw[mR,List.append_nil]
  simp(maxDischargeDepth:=6) only[qA,jl,seval,iE,jW,Ch,zO,jj,h3,b0,mf,K]
  exact⟨_,_,_,rfl,hV⟩
theorem vs5(k:Int×Bool)(K:d.length≤6)(fr:Fr)(lh:iq b8)(s:List b8)(r:an fr 3= .ptr .S 1 1 0)(O:Vs s F (d++ [k]) out):
  ∃U V I,DC pE 80 (zO (zO (zO (jW jj)))) ⟨fr,lh,s⟩=some (.nrm,⟨U,V,I⟩)∧Vs I F d out:=by
 obtain⟨⟨W,a0,a1⟩,⟨dv,D,X⟩,Y⟩:=O
 rcases X with⟨rfl,h,hl⟩|⟨g,st,rfl,b3,hl⟩
 ·simp at h
 rw[List.length_append,List.length_singleton]at D
 have Z:lenI (T.isl .S 3 g 0 (d.length+1) 2)=some (.i .i64 ((d.length+1:Nat):Int)):=rfl
 have H:sF (T.isl .S 3 g 0 (d.length+1) 2)=some (d.length+1):=rfl
 have hw:wr .i64 (((d.length+1:Nat):Int)-1)=(d.length:Int):=by rw[js (by omega)];omega
 have Dy:HK 2 (.isl .S 3 g 0 (d.length+1) 2) 0 d.length=some (.isl .S 3 g 0 d.length 2):=by
  unfold HK
  simp only
  rw[if_pos ⟨Nat.zero_le _,by omega,trivial⟩]
  by_cases h:0=d.length
  ·rw[if_pos h,←h];rfl
  ·rw[if_neg h];rfl
 have Vl: ∀(lh:iq b8),Ev.stV lh s (.ptr .S 1 1 0) (.isl .S 3 g 0 d.length 2) 1=some (lh,iH s 1 ⟨1,.cells [.isl .S 3 g 0 d.length 2] 0 true⟩):=fun lh=>Lu D rfl rfl rfl
 have SC: ∀e,(iH s 1 e).length=s.length:=fun e=>jM _ _ _ (by omega)
 simp(maxDischargeDepth:=6) only[qA,jl,seval,iE,jW,Ch,zO,jj,r,D,Z,H,hw,Dy,Vl]
 refine⟨_,_,_,rfl,⟨⟨W,by rw[lz,if_neg (by decide)];exact a0, ?_⟩,⟨_,by rw[lz,if_pos rfl],.inr ⟨g,.i .i64 k.1:: .b k.2::st,rfl, ?_,by rw[SC];exact hl⟩⟩,by rw[lz,if_neg (by decide)];exact Y⟩⟩
 ·rcases a1 with⟨h1,h2,r⟩|⟨g2,cs,h1,h2,r,h4⟩
  ·exact .inl ⟨h1,h2,by rw[SC];exact r⟩
  ·exact .inr ⟨g2,cs,h1,by rw[lz,if_neg (by decide)];exact h2,r,by rw[SC];exact h4⟩
 ·rw[lz,if_neg (by decide),b3,Ig,List.append_assoc];rfl
end
theorem agf{E:Env}{n:Nat}{a:dE}{fr:Fr}{lh:iq b8}{sh:List b8}{D:Option (Out×St)}(i:DC E n a ⟨fr,lh,sh⟩=D){P:Fr→iq b8→List b8→Prop}(h: ∃f l s,DC E n a ⟨fr,lh,sh⟩=some (.nrm,⟨f,l,s⟩)∧P f l s):
  ∃f l s,D=some (.nrm,⟨f,l,s⟩)∧P f l s∧DC E n a ⟨fr,lh,sh⟩=some (.nrm,⟨f,l,s⟩):=by
 obtain⟨f,l,s,e,p⟩:=h
 exact⟨f,l,s,i.symm.trans e,p,e⟩
section
variable(N:Nat)(J:Nat→Nat→Bool)(iC:Nat→Bool)(ok:List (Int×Bool)→Bool)(lg:List (Int×Bool)→Lg)(hN:N≤1000)(lM nT sv F:T)
 (hF:F= .fn 58 [] [.vp [lM],.ptr .S 1 1 0,.vp [sv],.ptr .S 0 1 0,.vp [nT],.ptr .S 2 1 0])
 (my: ∀f,f<N→ ∃q,∀kk,lY lM (.i kk (f:Int)) 1=some (.vp (.b (iC f)::q)))
 (qG: ∀f,f<N→ ∃gT q,(∀kk,lY nT (.i kk (f:Int)) 1=some (.vp (gT::q)))∧IsSl gT (qy N J f).length (ints ((qy N J f).map Int.ofNat))∧(qy N J f).length≤1000∧ ∀g∈qy N J f,g<N)
 (hsv:froz sv=true) (NL:cellsOf sv= [sv]) (Fo: ∀x,(lg x).du=x)
 (Cg: ∀x,1≤x.length→x.length≤6→(∀k∈x,rS N k.1=true)→be pE 59 [sv,.sl (oD x) x.length false] []=some (if ok x=true then .tup [.agg (td (lg x) (.sl (oD x) x.length false)),.b true]else .tup [.agg (td lg0 .nilsl),.b false],[]))
include hN hF my qG hsv NL Fo Cg
def ajV(N:Nat)(J:Nat→Nat→Bool)(iC:Nat→Bool)(ok:List (Int×Bool)→Bool)(lg:List (Int×Bool)→Lg)(lM nT sv F:T)(n:Nat):Prop:=
 ∀(d:List (Int×Bool)) (f h:Nat) (s:List b8) (out:List Lg),d.length+n=6→d.length<6→(∀k∈d,rS N k.1=true)→f<N→h≤6→Vs s F d out→out.length+(lZ N J iC ok lg n d f h).length≤1000000000→
  ∃r,be pE 58 [.i .i64 (f:Int),.i .i64 (h:Int),.vp [lM],.ptr .S 1 1 0,.vp [sv],.ptr .S 0 1 0,.vp [nT],.ptr .S 2 1 0] s=some (.tup [],r)∧Vs r F d (out++lZ N J iC ok lg n d f h)
theorem atQ(n:Nat)(IH:ajV N J iC ok lg lM nT sv F n)(d:List (Int×Bool))(f left:Nat)(b:Bool)(out:List Lg)(hd:d.length+n=5)(PK: ∀k∈d,rS N k.1=true)(hf:f<N)(hh:left≤6)(U:out.length+(uG N J ok lg (lZ N J iC ok lg n) (d++ [((f:Int),b)]) f left).length≤1000000000)
  (fr:Fr) (lh:iq b8) (s:List b8) (h0:an fr 0= .i .i64 (f:Int)) (V:an fr 3= .ptr .S 1 1 0) (h4:an fr 4= .vp [sv]) (h5:an fr 5= .ptr .S 0 1 0) (X:an fr 6= .vp [nT]) (h7:an fr 7= .ptr .S 2 1 0) (Y:an fr 11= .b b) (Z:an fr 12= .i .i64 (left:Int)) (hV:Vs s F d out):
  ∃f' l' s',DC pE 80 (jW jj) ⟨fr,lh,s⟩=some (.nrm,⟨f',l',s'⟩)∧Vs s' F d (out++uG N J ok lg (lZ N J iC ok lg n) (d++ [((f:Int),b)]) f left):=by
 have _:=my
 have hxl:(d++ [((f:Int),b)]).length=d.length+1:=by rw[List.length_append];rfl
 have I: ∀k∈d++ [((f:Int),b)],rS N k.1=true:=fun k hk=>by
  rcases List.mem_append.1 hk with hk|hk
  ·exact PK k hk
  ·rw[List.mem_singleton.1 hk];unfold rS;simpa using hf
 generalize hx:d++ [((f:Int),b)]=x at*
 unfold uG at U ⊢
 rw[List.length_append]at U
 obtain⟨f1,s1,e1,D⟩:=vs1 F d out f b (by omega) fr lh s h0 V Y hV
 rw[hx]at D
 have W:=fun j H=>lS e1 j H
 obtain⟨f2,l2,e2,k14,k13⟩:=vs2 F out sv ok lg x (Fo x) (by omega) hsv NL (Cg x (by omega) (by omega) I) f1 lh s1 ((W 3 (by decide)).trans V) ((W 4 (by decide)).trans h4) D
 have p2:=fun j H=>lS e2 j H
 obtain⟨f3,l3,s3,e3,hV3⟩:=vs3 F out (ok x) (lg x) (by rw[Fo];omega) _ _ (by omega) f2 l2 s1 ((p2 5 (by decide)).trans ((W 5 (by decide)).trans h5)) k14 (by rw[Fo];exact k13) x (by omega) D
 have p3:=fun j H=>lS e3 j H
 have r: ∀j v,(j2 (Ch (jW jj))).contains j=false→(j2 (Ch (Ch (zO (jW jj))))).contains j=false→(j2 (zO (Ch (zO (jW jj))))).contains j=false→an fr j=v→an f3 j=v:=fun j v a1 a2 a3 e=>(p3 j a3).trans ((p2 j a2).trans ((W j a1).trans e))
 obtain⟨f4,l4,s4,e4,K⟩:=vs4 N F (out++if ok x=true then [lg x]else []) f J hN lM nT sv hF (lZ N J iC ok lg n) x left (by
   by_cases h:x.length<6
   ·exact .inl h
   ·have:n=0:=by omega
    subst this
    exact .inr fun g=>rfl) (qG f hf) ⟨by omega,by omega⟩ (fun X g s out hg hV U=>IH x g left s out (by omega) X I hg hh hV U) (by rw[List.length_append];omega) f3 l3 s3 (r 0 _ (by decide) (by decide) (by decide) h0) (r 3 _ (by decide) (by decide) (by decide) V) (r 6 _ (by decide) (by decide) (by decide) X) (r 7 _ (by decide) (by decide) (by decide) h7) (r 12 _ (by decide) (by decide) (by decide) Z) hV3
 have p4:=fun j H=>lS e4 j H
 rw[←hx]at K
 obtain⟨f5,l5,s5,e5,O⟩:=vs5 F d _ ((f:Int),b) (by omega) f4 l4 s4 ((p4 3 (by decide)).trans (r 3 _ (by decide) (by decide) (by decide) V)) K
 rw[hx,List.append_assoc]at O
 refine⟨f5,l5,s5, ?_,O⟩
 rw[SK,AO,e1,nX,AO,AO,e2,nX,e3,nX,AO,e4,nX,e5]
theorem atS(n:Nat)(IH:ajV N J iC ok lg lM nT sv F n)(d:List (Int×Bool))(f h:Nat)(out:List Lg)(hd:d.length+(n+1)=6)(PK: ∀k∈d,rS N k.1=true)(hf:f<N)(hh:h≤6)(V:out.length+(lZ N J iC ok lg (n+1) d f h).length≤1000000000)
  (fr:Fr) (lh:iq b8) (s:List b8) (W:an fr 0= .i .i64 (f:Int)) (h1:an fr 1= .i .i64 (h:Int)) (h2:an fr 2= .vp [lM]) (h3:an fr 3= .ptr .S 1 1 0) (h4:an fr 4= .vp [sv]) (h5:an fr 5= .ptr .S 0 1 0) (h6:an fr 6= .vp [nT]) (h7:an fr 7= .ptr .S 2 1 0) (sr:an fr 17= .sl [.b false,.b true] 2 true) (mq:an fr 18= .i .i64 2) (CI:an fr 19= .i .i64 0) (hV:Vs s F d out):
  Lp pE 80 jj fr lh s (.ext 0) fun Y l' I=>Vs I F d (out++lZ N J iC ok lg (n+1) d f h):=by
 obtain⟨q,Z⟩:=my f hf
 have ht:=fun b left out=>atQ N J iC ok lg hN lM nT sv F hF my qG hsv NL Fo Cg n IH d f left b out (by omega) PK hf
 have hwt:jj=EG jj (jW jj):=nr rfl
 have hwr: ∀j,(j2 (jW jj)).contains j=false→ ∀(fr jO:Fr) lh s l' I,DC pE 80 (jW jj) ⟨fr,lh,s⟩=some (.nrm,⟨jO,l',I⟩)→an jO j=an fr j:=fun j hj fr jO lh s l' I e=>lS e j hj
 have atU:=hwr 19 (by decide)
 refine ky JB (fun k Y l I=>an Y 19= .i .i64 (k:Int)∧Vs I F d (out++if k=0 then []else if k=1 then(if iC f=true then uG N J ok lg (lZ N J iC ok lg n) (d++ [((f:Int),false)]) f h else [])else lZ N J iC ok lg (n+1) d f h)) 2 ⟨CI,by simpa using hV⟩ ?_ ?_
 ·rintro k Y l I hk r ⟨EI,Ik⟩
  have hc:k=0∨k=1:=by omega
  rcases hc with rfl|rfl
  ·have K:an Y 19= .i .i64 0:=EI
   have H: ¬(h:Int)<0:=by omega
   rw[if_pos rfl,List.append_nil]at Ik
   rw[if_neg (by decide),if_pos rfl]
   rw[lZ,List.length_append]at V
   rw[hwt]
   have ZK: ∀kk,lY (.sl [.b false,.b true] 2 true) (.i kk 0) 1=some (.vp [.b false,.b true]):=fun _=>rfl
   cases hi:iC f
   ·rw[hi]at Z
    generalize jW jj=X at*
    simp(maxDischargeDepth:=6) only[qA,jl,seval,gd,iE,jj,EG,r,W,h1,h2,sr,mq,K,Z,H,ZK]
    exact Ik
   ·rw[hi]at Z
    rw[hi,if_pos rfl]at V
    have O:=ht false h out hh (by omega)
    generalize jW jj=X at*
    simp(maxDischargeDepth:=6) only[qA,jl,seval,gd,iE,jj,EG,r,W,h1,h2,sr,mq,K,Z,H,ZK]
    generalize hD:DC pE 80 X _=D
    obtain⟨f2,l2,s2,rfl,PW,e2⟩:=agf hD (O _ _ _ (by simp only[qA,seval,r,W]) (by simp only[qA,seval,r,h3]) (by simp only[qA,seval,r,h4]) (by simp only[qA,seval,r,h5]) (by simp only[qA,seval,r,h6]) (by simp only[qA,seval,r,h7]) (by simp only[qA,seval]) (by simp only[qA,seval]) Ik)
    have g2:an f2 19= .i .i64 0:=by rw[atU _ _ _ _ _ _ e2];simp only[qA,seval,K]
    simp(maxDischargeDepth:=6) only[qA,seval,gd,g2]
    exact PW
  ·have U:an Y 19= .i .i64 1:=EI
   rw[if_neg (by decide),if_pos rfl]at Ik
   rw[if_neg (by decide),if_neg (by decide)]
   rw[hwt]
   have DG: ∀kk,lY (.sl [.b false,.b true] 2 true) (.i kk 1) 1=some (.vp [.b true]):=fun _=>rfl
   rw[lZ]at V ⊢
   generalize hA:(if iC f=true then uG N J ok lg (lZ N J iC ok lg n) (d++ [((f:Int),false)]) f h else [])=A at*
   rw[List.length_append]at V
   by_cases hz:h=0
   ·subst hz
    have h10:an fr 1= .i .i64 0:=h1
    generalize jW jj=X at*
    simp(maxDischargeDepth:=6) only[qA,jl,seval,gd,iE,jj,EG,r,W,h10,h2,sr,mq,U,Z,DG]
    exact Ik
   ·obtain⟨m,rfl⟩: ∃m,h=m+1:=⟨h-1,by omega⟩
    rw[if_neg hz]at V ⊢
    rw[Nat.add_sub_cancel]at V ⊢
    have hwp:wr .i64 (((m+1:Nat):Int)-1)=(m:Int):=by rw[js (by omega)];omega
    have H: ¬(m:Int)<0:=by omega
    have O:=ht true m (out++A) (by omega) (by rw[List.length_append];omega)
    generalize jW jj=X at*
    simp(maxDischargeDepth:=6) only[qA,jl,seval,gd,iE,jj,EG,r,W,h1,h2,sr,mq,U,Z,H,DG,hwp]
    generalize hD:DC pE 80 X _=D
    obtain⟨f2,l2,s2,rfl,PW,e2⟩:=agf hD (O _ _ _ (by simp only[qA,seval,r,W]) (by simp only[qA,seval,r,h3]) (by simp only[qA,seval,r,h4]) (by simp only[qA,seval,r,h5]) (by simp only[qA,seval,r,h6]) (by simp only[qA,seval,r,h7]) (by simp only[qA,seval]) (by simp only[qA,seval]) Ik)
    have g2:an f2 19= .i .i64 1:=by rw[atU _ _ _ _ _ _ e2];simp only[qA,seval,U]
    rw[List.append_assoc]at PW
    simp(maxDischargeDepth:=6) only[qA,seval,gd,g2]
    exact PW
 ·rintro Y l I r ⟨EI,Ik⟩
  simp only[qA,seval,gd,jj,r,mq,EI,Int.lt_irrefl]
  simpa using Ik
theorem Lv: ∀n,ajV N J iC ok lg lM nT sv F n
 |0=>fun d f h s out r i=>by omega
 |n+1=>by
  have IH:=Lv n
  intro d f h s out r i PK hf H I K
  have O:=fun fr lh=>atS N J iC ok lg hN lM nT sv F hF my qG hsv NL Fo Cg n IH d f h out r PK hf H K fr lh s
  have TB:repl [T.b false] 2= [.b false,.b false]:=rfl
  rw[il apY (by simp[c58])]
  simp(maxDischargeDepth:=6) only[qA,seval,c58,TB]
  generalize U:DC pE 80 (.loop jj) _=D
  obtain⟨W,X,V,rfl,PW,Y⟩:=Ba JB U (O _ _ (by simp only[qA,seval]) (by simp only[qA,seval]) (by simp only[qA,seval]) (by simp only[qA,seval]) (by simp only[qA,seval]) (by simp only[qA,seval]) (by simp only[qA,seval]) (by simp only[qA,seval]) (by simp only[qA,seval]) (by simp only[qA,seval]) (by simp only[qA,seval]) I)
  refine⟨V, ?_,PW⟩
  simp(maxDischargeDepth:=6) only[qA,seval]
  rfl
end
theorem aAo{lh:iq b8}{s:List b8}{lM sv nT:T}{g8 g3 g9:Nat}(i:b7 lh 8=⟨g8,.cells [lM] 0 true⟩)(r:b7 lh 3=⟨g3,.cells [sv] 0 true⟩)(D:b7 lh 9=⟨g9,.cells [nT] 0 true⟩)(H:froz1 lM=true)(I:froz1 sv=true)(K:froz1 nT=true)(O:iz s 2=⟨1,.cells [.nilfn] 0 true⟩):
  Ev.stV lh s (.ptr .S 2 1 0) (.fn 58 [] [.ptr .L 8 g8 0,.ptr .S 1 1 0,.ptr .L 3 g3 0,.ptr .S 0 1 0,.ptr .L 9 g9 0,.ptr .S 2 1 0]) 1=some (nN (nN (nN lh 8 ⟨g8,.cells [lM] 1 true⟩) 3 ⟨g3,.cells [sv] 1 true⟩) 9 ⟨g9,.cells [nT] 1 true⟩,iH s 2 ⟨1,.cells [.fn 58 [] [.vp [lM],.ptr .S 1 1 0,.vp [sv],.ptr .S 0 1 0,.vp [nT],.ptr .S 2 1 0]] 0 true⟩):=by
 have U:(St.mk .nil lh s).get .L 8=⟨g8,.cells [lM] 0 true⟩:=i
 have V:(St.mk .nil lh s).get .L 3=⟨g3,.cells [sv] 0 true⟩:=r
 have W:(St.mk .nil lh s).get .L 9=⟨g9,.cells [nT] 0 true⟩:=D
 have X:(St.mk .nil lh s).get .S 2=⟨1,.cells [.nilfn] 0 true⟩:=O
 have Y: ∀n,Ev.fz false (n+1) lM= .ret (lM,[]):=fun n=>pM H
 have Z: ∀n,Ev.fz false (n+1) sv= .ret (sv,[]):=fun n=>pM I
 have q3: ∀n,Ev.fz false (n+1) nT= .ret (nT,[]):=fun n=>pM K
 have p8: ∀n,(Ev.fz true (n+2) (.ptr .L 8 g8 0)).run (St.mk .nil lh s).get s.length=some (.vp [lM],[(.L,8,⟨g8,.cells [lM] 1 true⟩)]):=fun n=>by
  unfold Ev.fz
  simp only[Bool.true_and,show(Sp.L==Sp.S)=false from rfl,Bool.false_eq_true,if_false,Q.run,U,if_true,List.drop_zero,ja,Y,Q.bind]
  rfl
 have p3: ∀n,(Ev.fz true (n+2) (.ptr .L 3 g3 0)).run (St.mk .nil lh s).get s.length=some (.vp [sv],[(.L,3,⟨g3,.cells [sv] 1 true⟩)]):=fun n=>by
  unfold Ev.fz
  simp only[Bool.true_and,show(Sp.L==Sp.S)=false from rfl,Bool.false_eq_true,if_false,Q.run,V,if_true,List.drop_zero,ja,Z,Q.bind]
  rfl
 have p9: ∀n,(Ev.fz true (n+2) (.ptr .L 9 g9 0)).run (St.mk .nil lh s).get s.length=some (.vp [nT],[(.L,9,⟨g9,.cells [nT] 1 true⟩)]):=fun n=>by
  unfold Ev.fz
  simp only[Bool.true_and,show(Sp.L==Sp.S)=false from rfl,Bool.false_eq_true,if_false,Q.run,W,if_true,List.drop_zero,ja,q3,Q.bind]
  rfl
 have pS: ∀n k,(Ev.fz true (n+1) (.ptr .S k 1 0)).run (St.mk .nil lh s).get s.length=some (.ptr .S k 1 0,[]):=fun n k=>rfl
 have pf:(Ev.fz true 8 (.fn 58 [] [.ptr .L 8 g8 0,.ptr .S 1 1 0,.ptr .L 3 g3 0,.ptr .S 0 1 0,.ptr .L 9 g9 0,.ptr .S 2 1 0])).run (St.mk .nil lh s).get s.length=some (.fn 58 [] [.vp [lM],.ptr .S 1 1 0,.vp [sv],.ptr .S 0 1 0,.vp [nT],.ptr .S 2 1 0],[(.L,8,⟨g8,.cells [lM] 1 true⟩),(.L,3,⟨g3,.cells [sv] 1 true⟩),(.L,9,⟨g9,.cells [nT] 1 true⟩)]):=by
  rw[VN]
  simp only[ja,jh,p8,p3,p9,pS,Q.run,Option.bind_some,Q.bind]
  rfl
 unfold Ev.stV sd
 rw[if_neg (by exact Bool.false_ne_true)]
 simp only[Q.run,X,if_true]
 rw[if_pos (by decide)]
 simp only[Bool.true_and,show(Sp.S==Sp.L)=false from rfl,show(Sp.S==Sp.S)=true from rfl,Bool.false_eq_true,if_false]
 unfold iG
 rw[jh,pf]
 simp only[Option.bind_some]
 rw[if_neg (by exact Bool.false_ne_true)]
 rfl
theorem EJ{m:Nat}{lh:iq b8}{s:List b8}{k g n sz:Nat}{cs:List T}(h:iz s k=⟨g,.cells cs 0 false⟩)(i:cs.length=n*sz):fzW m lh s false (.isl .S k g 0 n sz)=some (.sl cs n false,[(.S,k,⟨g,.cells cs cs.length false⟩)]):=by
 have r:(St.mk .nil lh s).get .S k=iz s k:=rfl
 unfold fzW Ev.fz
 simp only[Bool.false_and,Bool.false_eq_true,if_false,Q.run,r,h,if_true]
 rw[if_pos (by omega),List.drop_zero,←i,List.take_length]
 rfl
def Lw(out:List Lg)(v:T):Prop:= ∃cs,IsSl v out.length cs∧iA Z3 out cs
theorem Il(out:List Lg): ∃v,Lw out v:=by
 obtain⟨cs,h⟩: ∃cs,iA Z3 out cs:=by
  induction out with
  |nil=>exact⟨[],rfl⟩
  |cons g out ih=>
   obtain⟨cs,h⟩:=ih
   exact⟨_,_,_,rfl,rfl,h⟩
 exact⟨.sl cs out.length false,cs,.inr ⟨_,rfl⟩,h⟩
section
variable(zT aT fT a7 a8 a9 iv iy iw:T)(c:Ct)(su fc:List T)(l:List Fl)(hf:IsSl fT l.length fc)(hr:iA Si l fc)(hN:l.length≤1000)
 (ok:List (Int×Bool)→Bool) (lg:List (Int×Bool)→Lg) (Fo: ∀x,(lg x).du=x)
 (Cg: ∀x,1≤x.length→x.length≤6→(∀k∈x,rS l.length k.1=true)→be pE 59 [.vp (zT::aT::fT::(jB c a7 a8 a9 iv iy iw++su)),.sl (oD x) x.length false] []=some (if ok x=true then .tup [.agg (td (lg x) (.sl (oD x) x.length false)),.b true]else .tup [.agg (td lg0 .nilsl),.b false],[]))
include hf hr hN Fo Cg
def pU(N:Nat)(J:Nat→Nat→Bool)(iC:Nat→Bool)(ok:List (Int×Bool)→Bool)(lg:List (Int×Bool)→Lg)(H:Nat):List Lg:=(List.range N).flatMap fun f=>lZ N J iC ok lg 6 [] f H
theorem aAp(iC:Nat→Bool)(lM nT F:T)(hF:F= .fn 58 [] [.vp [lM],.ptr .S 1 1 0,.vp [.vp (zT::aT::fT::(jB c a7 a8 a9 iv iy iw++su))],.ptr .S 0 1 0,.vp [nT],.ptr .S 2 1 0])
  (my: ∀f,f<l.length→ ∃q,∀kk,lY lM (.i kk (f:Int)) 1=some (.vp (.b (iC f)::q)))
  (qG: ∀f,f<l.length→ ∃Z q,(∀kk,lY nT (.i kk (f:Int)) 1=some (.vp (Z::q)))∧IsSl Z (qy l.length (jn c l) f).length (ints ((qy l.length (jn c l) f).map Int.ofNat))∧(qy l.length (jn c l) f).length≤1000∧ ∀g∈qy l.length (jn c l) f,g<l.length)
  (H:Nat) (hH:H≤6) (hb:(pU l.length (jn c l) iC ok lg H).length≤1000000000) (fr:Fr) (lh:iq b8) (s:List b8) (h2:an fr 2= .i .i64 (H:Int)) (O:an fr 12= .ptr .S 2 1 0) (I:an fr 30= .i .i64 (l.length:Int)) (U:an fr 31= .i .i64 0) (hV:Vs s F [] []):
  Lp pE 43 Ai fr lh s (.ext 0) fun K V D=>Vs D F [] (pU l.length (jn c l) iC ok lg H):=by
 have _:=hf
 have _:=hr
 have W:=Lv l.length (jn c l) iC ok lg hN lM nT (.vp (zT::aT::fT::(jB c a7 a8 a9 iv iy iw++su))) F hF my qG rfl rfl Fo Cg 6
 refine ky Jf (fun k K V D=>an K 31= .i .i64 (k:Int)∧Vs D F [] ((List.range k).flatMap fun f=>lZ l.length (jn c l) iC ok lg 6 [] f H)) l.length ⟨U,by simpa using hV⟩ ?_ ?_
 ·rintro k K V D hk X ⟨r,Ik⟩
  have iX:(k:Int)<l.length:=by omega
  have hw:=iN (k:=k) (by omega)
  have FW:(List.range (k+1)).flatMap (fun f=>lZ l.length (jn c l) iC ok lg 6 [] f H)=(List.range k).flatMap (fun f=>lZ l.length (jn c l) iC ok lg 6 [] f H)++lZ l.length (jn c l) iC ok lg 6 [] k H:=by
   rw[List.range_succ,List.flatMap_append];simp
  have Y:((List.range k).flatMap fun f=>lZ l.length (jn c l) iC ok lg 6 [] f H).length+(lZ l.length (jn c l) iC ok lg 6 [] k H).length≤1000000000:=by
   have h1:List.range l.length=List.range (k+1)++(List.range l.length).drop (k+1):=by
    rw[←List.take_append_drop (k+1) (List.range l.length),List.take_range,Nat.min_eq_left (by omega)]
    simp
   unfold pU at hb
   rw[h1,List.flatMap_append,FW,List.length_append,List.length_append]at hb
   omega
  obtain⟨s2,e2,PW⟩:=W [] k H D _ rfl (by decide) (by simp) hk hH Ik Y
  have sx:=Ik.b2
  rw[←FW]at PW
  subst hF
  simp(maxDischargeDepth:=6) only[qA,jl,j3,seval,gd,iE,Ai,X,h2,O,I,r,iX,hw,sx,e2,apZ]
  exact PW
 ·rintro K V D X ⟨r,Ik⟩
  simp only[qA,seval,gd,Ai,X,I,r,Int.lt_irrefl]
  exact Ik
theorem ajY(ops:List Int)(O:T)(U:IsSl O ops.length (ints ops))(X:ops.length≤1000)(Y: ∀x∈ops,0≤x∧x<(l.length:Int))(H:Nat)(Z:H≤6)(hb:(pU l.length (jn c l) (nG ops) ok lg H).length≤1000000000):
  ∃v s,be pE 25 [.vp (zT::aT::fT::(jB c a7 a8 a9 iv iy iw++su)),O,.i .i64 (H:Int)] []=some (if 20000<Yh l.length H (nG ops) (qy l.length (jn c l))∨2000<(pU l.length (jn c l) (nG ops) ok lg H).length then .tup [.nilsl,.i .i64 10]else .tup [v,.i .i64 0],s)∧Lw (pU l.length (jn c l) (nG ops) ok lg H) v:=by
 have I:=hf.lenI
 have K:=U.froz
 have Lr:=U.froz1
 obtain⟨s0,e0⟩:=ac4 zT aT fT a7 a8 a9 iv iy iw c su fc l hf hr hN ops O U X Y H Z
 have e1:=Ey zT aT fT (jB c a7 a8 a9 iv iy iw++su) l.length I hN ops O U X Y
 obtain⟨s1,e2⟩:=Lq zT aT fT a7 a8 a9 iv iy iw c su fc l hf hr hN
 have my:=Yi l.length ops
 have qG:=Yj l.length (jn c l) hN
 have z1:froz1 (.sl (xV (inB l.length ops)) l.length false)=true:=rfl
 have z2:froz1 (SF l.length (jn c l))=true:=rfl
 have z3:froz (SF l.length (jn c l))=true:=rfl
 have z4:froz (.sl (xV (inB l.length ops)) l.length false)=true:=rfl
 have z5:cellsOf (.sl (xV (inB l.length ops)) l.length false)= [.sl (xV (inB l.length ops)) l.length false]:=rfl
 have z6:noTup (.sl (xV (inB l.length ops)) l.length false)=true:=rfl
 have z7:cellsOf (SF l.length (jn c l))= [SF l.length (jn c l)]:=rfl
 have z8:noTup (SF l.length (jn c l))=true:=rfl
 generalize hI:T.sl (xV (inB l.length ops)) l.length false=lM at*
 generalize hX:SF l.length (jn c l)=nT at*
 rw[il apA (by simp[c25])]
 by_cases B4:20000<Yh l.length H (nG ops) (qy l.length (jn c l))
 ·obtain⟨v,hv⟩:=Il (pU l.length (jn c l) (nG ops) ok lg H)
  refine⟨v, ?_⟩
  rw[if_pos (.inl B4)]
  simp(maxDischargeDepth:=6) only[qA,jl,seval,iE,c25,e0,apX,K,Lr,B4]
  exact⟨_,rfl,hv⟩
 ·have V:=fun lh h8 h3 h9=>aAo (lh:=lh) (s:= [⟨1,.cells [.nilsl] 0 true⟩,⟨1,.cells [.nilsl] 0 true⟩,⟨1,.cells [.nilfn] 0 true⟩]) (lM:=lM) (sv:= .vp (zT::aT::fT::(jB c a7 a8 a9 iv iy iw++su))) (nT:=nT) (g8:=1) (g3:=1) (g9:=1) h8 h3 h9 z1 rfl z2 rfl
  simp(maxDischargeDepth:=6) only[qA,jI,sW,jl,seval,iE,c25,I,e0,e1,e2,apX,axS,axV,axU,axX,K,Lr,B4,z1,z2,z3,z4,z5,z6,z7,z8,V]
  generalize hD:DC pE 43 (.loop Ai) _=D
  obtain⟨f2,l2,s2,rfl,PW,mM⟩:=Ba Jf hD (aAp zT aT fT a7 a8 a9 iv iy iw c su fc l hf hr hN ok lg Fo Cg (nG ops) lM nT _ rfl my qG H Z hb _ _ _ (by simp only[qA,seval]) (by simp only[qA,seval]) (by simp only[qA,seval]) (by simp only[qA,seval]) ⟨⟨.nilsl,rfl,.inl ⟨rfl,rfl,by simp⟩⟩,⟨.nilsl,rfl,.inl ⟨rfl,rfl,rfl⟩⟩,rfl⟩)
  have r:an f2 10= .ptr .S 0 1 0:=by rw[mM 10 (by decide)];simp only[qA,seval]
  generalize pU l.length (jn c l) (nG ops) ok lg H=out at*
  obtain⟨ov,a0,a1⟩:=PW.b0
  rcases a1 with⟨rfl,rfl,_⟩|⟨g,cs,rfl,b1,b2,b3⟩
  ·refine⟨.nilsl, ?_⟩
   simp(maxDischargeDepth:=6) only[qA,jl,seval,iE,r,a0]
   exact⟨_,rfl,[],.inl ⟨rfl,rfl,rfl⟩,rfl⟩
  ·have I:lenI (T.isl .S 4 g 0 out.length 7)=some (.i .i64 (out.length:Int)):=rfl
   have mJ:=b2.len Z3.len
   have W:=fun m lh=>EJ (m:=m) (lh:=lh) b1 mJ
   refine⟨.sl cs out.length false, ?_⟩
   by_cases h2:2000<out.length
   ·have OV:(2000:Int)<(out.length:Int):=by omega
    simp(maxDischargeDepth:=6) only[qA,jl,seval,iE,r,a0,I,h2,OV,or_true]
    exact⟨_,rfl,cs,.inr ⟨_,rfl⟩,b2⟩
   ·have OV: ¬(2000:Int)<(out.length:Int):=by omega
    simp(maxDischargeDepth:=6) only[qA,jl,seval,iE,r,a0,I,h2,OV,W,or_self]
    exact⟨_,rfl,cs,.inr ⟨_,rfl⟩,b2⟩
end
end Go.Proofs.YtcpceiclnbmgiaaGreat
