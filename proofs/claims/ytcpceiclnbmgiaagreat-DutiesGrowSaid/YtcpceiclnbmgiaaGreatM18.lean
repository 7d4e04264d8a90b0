/- Walks of functions of the program and of the reference, and their plain laws, part 18. Conditions: the theorems' own. -/
import Derived.Test.YtcpceiclnbmgiaaGreatM17
import Derived.KernelRfl
set_option maxRecDepth 100000
set_option linter.unusedSimpArgs false
set_option linter.unusedVariables false
set_option maxHeartbeats 16000000
namespace Go.Proofs.YtcpceiclnbmgiaaGreat
open Go Go.Ev
def XD(sh:List b8)(k bytes g len sz:Nat)(ps:List T)(e:b8):Option (T×List b8):=match e.ob with
 | .cells cs 0 false=>if e.g=g∧len*sz≤cs.length∧(len+1)*bytes≤roomy then some (.isl .S k (g+1) 0 (len+1) sz,iu sh k ⟨g+1,.cells (cs.take (len*sz)++ps) 0 false⟩)else none
 |_=>none
theorem Bk{sh:List b8}{k g i len bytes sz:Nat}{ps:List T}{cs:List T}:XD sh k bytes g len sz ps ⟨i,.cells cs 0 false⟩=if i=g∧len*sz≤cs.length∧(len+1)*bytes≤roomy then some (.isl .S k (g+1) 0 (len+1) sz,iu sh k ⟨g+1,.cells (cs.take (len*sz)++ps) 0 false⟩)else none:=nr rfl
def ai2(sh:List b8)(bytes sz:Nat):T→T→Option (T×List b8)
 | .nilsl,.sl ps 1 _=>if bytes≤roomy then some (.isl .S sh.length 1 0 1 sz,iu sh sh.length ⟨1,.cells ps 0 false⟩)else none
 | .isl .S k g 0 len _,.sl ps 1 _=>XD sh k bytes g len sz ps (gY sh k)
 |_,_=>none
theorem KE{sh:List b8}{bytes sz:Nat}{ps:List T}{ex:Bool}:ai2 sh bytes sz .nilsl (.sl ps 1 ex)=if bytes≤roomy then some (.isl .S sh.length 1 0 1 sz,iu sh sh.length ⟨1,.cells ps 0 false⟩)else none:=nr rfl
theorem KF{sh:List b8}{k g len bytes sz i:Nat}{ps:List T}{ex:Bool}:ai2 sh bytes sz (.isl .S k g 0 len i) (.sl ps 1 ex)=XD sh k bytes g len sz ps (gY sh k):=nr rfl
def wm0:b8→Bool
 |⟨_,.cells _ 0 false⟩=>true
 |_=>false
def okP(sh:List b8):T→Bool
 | .isl .S k _ _ _ _=>wm0 (gY sh k)
 |_=>true
theorem acf{sh:List b8}:okP sh .nilsl=true:=nr rfl
theorem Pa{sh:List b8}{k g o n sz:Nat}:okP sh (.isl .S k g o n sz)=wm0 (gY sh k):=nr rfl
theorem RP{g:Nat}{cs:List T}:wm0 ⟨g,.cells cs 0 false⟩=true:=nr rfl
theorem XE{E:Env}{call:pw}{n:Nat}{fr:Fr}{lh:gW b8}{sh:List b8}{I:List dy}{r sz bytes:Nat}{s x:im}(O:r<n)(hx:Az sz (rd fr x)=true)(hs:DW sz (rd fr s)=true)(D:okP sh (rd fr s)=true):dE E call n (⟨some r,.app sz bytes s x true true,none⟩::I) ⟨fr,lh,sh⟩=
  (ai2 sh bytes sz (rd fr s) (rd fr x)).bind fun q=>dE E call n I ⟨jV fr r q.1,lh,q.2⟩:=by
 obtain⟨ps,ex,hx,W,X⟩:=AA hx
 have XF:ps.length=1*sz:=by omega
 rw[pg (by rfl) (show Eu n (some r)from O)]
 unfold Ev.one
 rcases DX hs with hs|⟨k,g,len,hs⟩
 ·simp only[iX,oh,iS,hs,hx,jm,XF,if_true,Q.run,Option.bind_some,KE]
  simp only[Nat.succ_ne_zero,if_false,Nat.one_mul]
  by_cases i:bytes≤roomy
  ·simp only[if_pos i,nH,Q.run,if_true];rfl
  ·simp only[if_neg i,Q.run];rfl
 ·have Ot:(St.mk fr lh sh).get .S k=gY sh k:=rfl
  rw[hs,Pa]at D
  rw[hs,hx,KF]
  generalize Y:gY sh k=e at*
  obtain⟨U,ob⟩:=e
  unfold wm0 at D
  split at D
  ·rename_i Z cs V
   cases V
   rw[Bk]
   simp only[iX,oh,iS,hs,hx,jm,XF,if_true,Q.run,Option.bind_some]
   simp only[Nat.succ_ne_zero,if_false,decide_true,Bool.true_and,decide_eq_true_eq]
   by_cases i:(len+1)*bytes≤roomy
   ·simp only[Q.run,Ot,if_true,i,and_true]
    by_cases K:U=g
    ·subst K
     simp only[if_true,true_and]
     by_cases H:len*sz=cs.length
     ·rw[if_pos H,if_pos (by omega)]
      simp only[Q.run]
      rw[H,List.take_length]
      rfl
     ·rw[if_neg H]
      by_cases Ll:len*sz<cs.length
      ·rw[if_pos (by simp[Ll]),if_pos (by omega)]
       rfl
      ·rw[if_neg (by simp[Ll]),if_neg (by omega)]
       rfl
    ·simp only[Q.run,K,false_and,if_false];rfl
   ·simp only[i,if_false,Q.run,and_false];rfl
  ·cases D
def SG(g:Lg)(c:List T):Prop:=c=og g (.sl (px g.du) g.du.length false)
theorem SG.len(g:Lg)(c:List T)(h:SG g c):c.length=7:=by rw[h];rfl
section
variable(N:Nat)(J:Nat→Nat→Bool)(il:Nat→Bool)(ok:List (Int×Bool)→Bool)(lg:List (Int×Bool)→Lg)
def tD(i:List (Int×Bool)→Nat→Nat→List Lg)(x:List (Int×Bool))(f h:Nat):List Lg:=(if ok x=true then [lg x]else [])++(p5 N J f).flatMap fun g=>i x g h
def lz:Nat→List (Int×Bool)→Nat→Nat→List Lg
 |0,_,_,_=> []
 |n+1,d,f,h=>(if il f=true then tD N J ok lg (lz n) (d++ [((f:Int),false)]) f h else [])++(if h=0 then []else tD N J ok lg (lz n) (d++ [((f:Int),true)]) f (h-1))
end
structure Vs (s:List b8) (F:T) (d:List (Int×Bool)) (out:List Lg):Prop where
 b0: ∃ov,gY s 0=⟨1,.cells [ov] 0 true⟩∧((ov= .nilsl∧out= []∧s.length≤4)∨ ∃g cs,ov= .isl .S 4 g 0 out.length 7∧gY s 4=⟨g,.cells cs 0 false⟩∧hZ SG out cs∧s.length=5)
 b1: ∃dv,gY s 1=⟨1,.cells [dv] 0 true⟩∧((dv= .nilsl∧d= []∧s.length=3)∨ ∃g st,dv= .isl .S 3 g 0 d.length 2∧gY s 3=⟨g,.cells (px d++st) 0 false⟩∧4≤s.length)
 b2:gY s 2=⟨1,.cells [F] 0 true⟩
theorem asT{lh:gW b8}{s:List b8}{k g n sz:Nat}{cs:List T}(h:gY s k=⟨g,.cells cs 0 false⟩)(r:n*sz≤cs.length):fzV lh s false (.isl .S k g 0 n sz)=some (.sl (cs.take (n*sz)) n false,[(.S,k,⟨g,.cells cs cs.length false⟩)]):=by
 have i:(St.mk .nil lh s).get .S k=gY s k:=rfl
 unfold fzV iq Ev.fz
 simp only[Bool.false_and,Bool.false_eq_true,if_false,Q.run,i,h,if_true]
 rw[if_pos (by omega)]
 rfl
theorem XG{sv:T}{ok:List (Int×Bool)→Bool}{lg:List (Int×Bool)→Lg}{d:List (Int×Bool)}(hsv:froz sv=true)(I:(lg d).du=d)(K:1≤d.length)(BF:be pE 59 [sv,.sl (px d) d.length false] []=some (if ok d=true then .tup [.agg (og (lg d) (.sl (px d) d.length false)),.b true]else .tup [.agg (og lg0 .nilsl),.b false],[]))
  {fr:Fr} {lh:gW b8} {s:List b8} {g:Nat} {st:List T} (h:gY s 3=⟨g,.cells (px d++st) 0 false⟩):
  iR pE (be pE) 49 ⟨fr,lh,s⟩ 59 [sv,.isl .S 3 g 0 d.length 2]=some (if ok d=true then(.tup [.agg (og (lg d) (.isl .L 49 ((b7 lh 49).g+1) 0 d.length 2)),.b true],⟨fr,nj lh 49 ⟨(b7 lh 49).g+1,.cells (px d) 0 false⟩,s⟩)else(.tup [.agg (og lg0 .nilsl),.b false],⟨fr,lh,s⟩)):=by
 have r:=yI d
 have i:=asT (lh:=lh) h (n:=d.length) (sz:=2) (by rw[List.length_append];omega)
 rw[List.take_append_of_le_length (by omega),List.take_of_length_le (by omega)]at i
 rw[UY ao3 rfl rfl]
 simp only[qt,BP,si hsv,i,Option.bind_some,BF]
 cases O:ok d
 ·rfl
 ·have D:=Ky d
  have Xj:(px d).length/d.length=2:=by rw[r];exact Nat.mul_div_cancel_left 2 (by omega)
  simp only[if_true]
  unfold wq og
  have H:(px d).length/d.length*d.length=(px d).length:=by rw[Xj];omega
  simp only[kO,iv,show¬(100:Nat)<100 by decide,if_false,show 100/100-1=0 by decide,show 100%100=0 by decide,List.getElem?_cons_zero,List.set_cons_zero]
  rw[if_pos ⟨D,H⟩,Xj]
  rfl
def jI:fx→fx
 | .seq _ (.seq _ (.seq (.block _ (.seq _ (.seq _ (.seq _ (.seq _ t))))) _))=>t
 |c=>c
def DY:fx→fx→fx
 | .seq a (.seq b (.seq (.block i (.seq c (.seq d (.seq e (.seq f _))))) z)),t=> .seq a (.seq b (.seq (.block i (.seq c (.seq d (.seq e (.seq f t))))) z))
 |c,_=>c
def BG:fx→fx
 | .seq a _=>a
 |c=>c
def yO:fx→fx
 | .seq _ b=>b
 |c=>c
theorem RQ:jI iW= .seq (BG (jI iW)) (.seq (.seq (BG (BG (yO (jI iW)))) (yO (BG (yO (jI iW))))) (.seq (BG (yO (yO (jI iW)))) (yO (yO (yO (jI iW)))))):=nr rfl
theorem KG{lh:gW b8}{s:List b8}{k:Nat}{w v:T}(i:gY s k=⟨1,.cells [w] 0 true⟩)(hk:kept v=true)(hc:cellsOf v= [v])(r:noTup v=true):Ev.stV lh s (.ptr .S k 1 0) v 1=some (lh,iu s k ⟨1,.cells [v] 0 true⟩):=by
 rw[nl hk i,kz,if_pos ⟨rfl,by rw[hc];rfl,r,Nat.zero_le _,by simp⟩,hc]
 rfl
section
variable(N:Nat)(F:T)(d:List (Int×Bool))(out:List Lg)(f:Nat)(b:Bool)
theorem vs1(Y:d.length≤5)(fr:Fr)(lh:gW b8)(s:List b8)(V:an fr 0= .i .i64 (f:Int))(r:an fr 3= .ptr .S 1 1 0)(D:an fr 11= .b b)(Z:Vs s F d out):
  ∃f' W,DC pE 80 (BG (jI iW)) ⟨fr,lh,s⟩=some (.nrm,⟨f',lh,W⟩)∧Vs W F (d++ [((f:Int),b)]) out:=by
 obtain⟨⟨ov,a0,a1⟩,⟨dv,I,b1⟩,X⟩:=Z
 have K:px (d++ [((f:Int),b)])=px d++ [.i .i64 (f:Int),.b b]:=by rw[OX];rfl
 have SF:repl [T.i .i64 0,.b false] 1= [.i .i64 0,.b false]:=rfl
 have r1:16≤roomy:=by unfold roomy;omega
 rcases b1 with⟨rfl,rfl,hl⟩|⟨g,st,rfl,b3,hl⟩
 ·have O: ∀e,gY (iu s 3 e) 1=⟨1,.cells [.nilsl] 0 true⟩:=fun e=>by rw[kN,if_neg (by decide)];exact I
  have Uu: ∀e,Ev.stV lh (iu s 3 e) (.ptr .S 1 1 0) (.isl .S 3 1 0 1 2) 1=some (lh,iu (iu s 3 e) 1 ⟨1,.cells [.isl .S 3 1 0 1 2] 0 true⟩):=fun e=>KG (O e) rfl rfl rfl
  have RI: ∀e,(iu s 3 e).length=4:=fun e=>by rw[←hl,qE,List.length_append,List.length_singleton,hl]
  have RR: ∀e H,(iu (iu s 3 e) 1 H).length=4:=fun e H=>by rw[jz _ _ _ (by rw[RI];decide),RI]
  simp(maxDischargeDepth:=6) only[qA,iY,seval,ig,jI,BG,iW,V,r,D,I,SF,XE,iz,jk,acf,KE,r1,qE,hl,Uu]
  rcases a1 with⟨rfl,rfl,_⟩|⟨_,_,_,_,_,h5⟩
  ·exact⟨_,_,rfl,⟨⟨_,by rw[kN,if_neg (by decide),kN,if_neg (by decide)];exact a0,.inl ⟨rfl,rfl,by rw[RR];decide⟩⟩,⟨.isl .S 3 1 0 1 2,by rw[kN,if_pos rfl],.inr ⟨1,[],rfl,by rw[kN,if_neg (by decide),kN,if_pos rfl];rfl,by rw[RR];decide⟩⟩,by rw[kN,if_neg (by decide),kN,if_neg (by decide)];exact X⟩⟩
  ·omega
 ·have lX:=yI d
  have r2:(d.length+1)*16≤roomy:=by unfold roomy;omega
  have U:d.length*2≤(px d++st).length:=by rw[List.length_append];omega
  have O4:(px d++st).take (d.length*2)=px d:=by rw[List.take_append_of_le_length (by omega),List.take_of_length_le (by omega)]
  have O: ∀e,gY (iu s 3 e) 1=⟨1,.cells [.isl .S 3 g 0 d.length 2] 0 true⟩:=fun e=>by rw[kN,if_neg (by decide)];exact I
  have Uu: ∀e,Ev.stV lh (iu s 3 e) (.ptr .S 1 1 0) (.isl .S 3 (g+1) 0 (d.length+1) 2) 1=some (lh,iu (iu s 3 e) 1 ⟨1,.cells [.isl .S 3 (g+1) 0 (d.length+1) 2] 0 true⟩):=fun e=>KG (O e) rfl rfl rfl
  simp(maxDischargeDepth:=6) only[qA,iY,seval,ig,jI,BG,iW,V,r,D,I,b3,SF,XE,iz,jf,Pa,RP,KF,Bk,r2,U,O4,Uu]
  have RR: ∀e H,(iu (iu s 3 e) 1 H).length=s.length:=fun e H=>by rw[jz _ _ _ (by rw[jz _ _ _ (by omega)];omega),jz _ _ _ (by omega)]
  refine⟨_,_,rfl,⟨⟨ov,by rw[kN,if_neg (by decide),kN,if_neg (by decide)];exact a0, ?_⟩,⟨_,by rw[kN,if_pos rfl],.inr ⟨g+1,[], ?_, ?_,by rw[RR];exact hl⟩⟩,by rw[kN,if_neg (by decide),kN,if_neg (by decide)];exact X⟩⟩
  ·rcases a1 with⟨h1,h2,r⟩|⟨g2,cs,h1,h2,r,h4⟩
   ·exact .inl ⟨h1,h2,by rw[RR];exact r⟩
   ·exact .inr ⟨g2,cs,h1,by rw[kN,if_neg (by decide),kN,if_neg (by decide)];exact h2,r,by rw[RR];exact h4⟩
  ·rw[List.length_append];rfl
  ·rw[kN,if_neg (by decide),kN,if_pos rfl,K,List.append_nil]
theorem vs2(sv:T)(ok:List (Int×Bool)→Bool)(lg:List (Int×Bool)→Lg)(x:List (Int×Bool))(hx:(lg x).du=x)(H:1≤x.length)(hsv:froz sv=true)(MN:cellsOf sv= [sv])(BF:be pE 59 [sv,.sl (px x) x.length false] []=some (if ok x=true then .tup [.agg (og (lg x) (.sl (px x) x.length false)),.b true]else .tup [.agg (og lg0 .nilsl),.b false],[]))
  (fr:Fr) (lh:gW b8) (s:List b8) (I:an fr 3= .ptr .S 1 1 0) (K:an fr 4= .vp [sv]) (V:Vs s F x out):
  ∃r D,DC pE 80 (BG (BG (yO (jI iW)))) ⟨fr,lh,s⟩=some (.nrm,⟨r,D,s⟩)∧an r 14= .b (ok x)∧(ok x=true→an r 13= .ptr .L 13 ((b7 lh 13).g+1) 0∧b7 D 13=⟨(b7 lh 13).g+1,.cells (og (lg x) (.isl .L 49 ((b7 lh 49).g+1) 0 x.length 2)) 0 true⟩∧b7 D 49=⟨(b7 lh 49).g+1,.cells (px x) 0 false⟩):=by
 obtain⟨⟨X,a0,a1⟩,⟨Y,O,W⟩,Z⟩:=V
 rcases W with⟨rfl,rfl,hl⟩|⟨g,st,rfl,b3,hl⟩
 ·simp at H
 ·have hc:=fun fr lh=>XG hsv hx H BF (fr:=fr) (lh:=lh) b3
  have SF:repl [T.nilsl,.i .i64 0,.i .i64 0,.s [],.s [],.i .i64 0,.i .i64 0] 1= [T.nilsl,.i .i64 0,.i .i64 0,.s [],.s [],.i .i64 0,.i .i64 0]:=rfl
  unfold og at hc ⊢
  cases U:ok x
  ·simp(maxDischargeDepth:=6) only[qA,iY,seval,ig,jI,BG,yO,iW,I,K,O,hc,U,MN]
   exact⟨_,_,rfl,by simp only[qA,seval],False.elim⟩
  ·simp(maxDischargeDepth:=6) only[qA,iY,seval,ig,jI,BG,yO,iW,I,K,O,hc,U,MN]
   refine⟨_,_,rfl,by simp only[qA,seval],fun _=>⟨by simp only[qA,seval],by simp only[qA,seval],by simp only[qA,seval]⟩⟩
theorem vs3(o:Bool)(l:Lg)(h1:1≤l.du.length)(D H:Nat)(hb:out.length≤1000000000)(fr:Fr)(lh:gW b8)(s:List b8)(O:an fr 5= .ptr .S 0 1 0)(V:an fr 14= .b o)(sM:o=true→an fr 13= .ptr .L 13 D 0∧b7 lh 13=⟨D,.cells (og l (.isl .L 49 H 0 l.du.length 2)) 0 true⟩∧b7 lh 49=⟨H,.cells (px l.du) 0 false⟩)(x:List (Int×Bool))(hx:1≤x.length)(Z:Vs s F x out):
  ∃U l' s',DC pE 80 (yO (BG (yO (jI iW)))) ⟨fr,lh,s⟩=some (.nrm,⟨U,l',s'⟩)∧Vs s' F x (out++if o=true then [l]else []):=by
 cases o
 ·obtain⟨U,e⟩: ∃U,DC pE 80 (yO (BG (yO (jI iW)))) ⟨fr,lh,s⟩=some (.nrm,⟨U,lh,s⟩):=by
   simp(maxDischargeDepth:=6) only[qA,iY,seval,ig,jI,BG,yO,iW,V]
   exact⟨_,rfl⟩
  exact⟨_,_,_,e,by simpa using Z⟩
 ·obtain⟨k1,W,k3⟩:=sM rfl
  obtain⟨⟨ov,a0,a1⟩,⟨dv,b0,b1⟩,b2⟩:=Z
  rcases b1 with⟨rfl,rfl,hl⟩|⟨g,st,rfl,b3,hl⟩
  ·simp at hx
  have SF:repl [T.nilsl,.i .i64 0,.i .i64 0,.s [],.s [],.i .i64 0,.i .i64 0] 1= [T.nilsl,.i .i64 0,.i .i64 0,.s [],.s [],.i .i64 0,.i .i64 0]:=rfl
  have hdl:=yI l.du
  have I:l.du.length*2≤(px l.du).length:=by omega
  have O4:(px l.du).take (l.du.length*2)=px l.du:=List.take_of_length_le (by omega)
  have r1:88≤roomy:=by unfold roomy;omega
  unfold og at W
  rcases a1 with⟨rfl,rfl,hl3⟩|⟨g2,cs,rfl,a2,a3,a4⟩
  ·have RI:s.length=4:=by omega
   have X: ∀e,gY (iu s 4 e) 0=⟨1,.cells [.nilsl] 0 true⟩:=fun e=>by rw[kN,if_neg (by decide)];exact a0
   have Uu: ∀(lh:gW b8) e,Ev.stV lh (iu s 4 e) (.ptr .S 0 1 0) (.isl .S 4 1 0 1 7) 1=some (lh,iu (iu s 4 e) 0 ⟨1,.cells [.isl .S 4 1 0 1 7] 0 true⟩):=fun lh e=>KG (X e) rfl rfl rfl
   simp(maxDischargeDepth:=6) only[qA,iY,EW,seval,ig,jI,BG,yO,iW,V,O,k1,W,k3,a0,SF,I,O4,jH,iz,jk,jC,r1,RI,Uu]
   have r: ∀e K,(iu (iu s 4 e) 0 K).length=5:=fun e K=>by
    have O:(iu s 4 e).length=5:=by rw[←RI,qE,List.length_append,List.length_singleton,RI]
    rw[jz _ _ _ (by omega),O]
   exact⟨_,_,_,rfl,⟨⟨.isl .S 4 1 0 1 7,by rw[kN,if_pos rfl],.inr ⟨1,_,rfl,by rw[kN,if_neg (by decide),kN,if_pos rfl];rfl,hZ.one rfl,r _ _⟩⟩,⟨_,by rw[kN,if_neg (by decide),kN,if_neg (by decide)];exact b0,.inr ⟨g,st,rfl,by rw[kN,if_neg (by decide),kN,if_neg (by decide)];exact b3,by rw[r];decide⟩⟩,by rw[kN,if_neg (by decide),kN,if_neg (by decide)];exact b2⟩⟩
  ·have lX:=a3.len SG.len
   have r2:(out.length+1)*88≤roomy:=by unfold roomy;omega
   have Y:out.length*7=cs.length:=by omega
   have X: ∀e,gY (iu s 4 e) 0=⟨1,.cells [.isl .S 4 g2 0 out.length 7] 0 true⟩:=fun e=>by rw[kN,if_neg (by decide)];exact a0
   have Uu: ∀(lh:gW b8) e,Ev.stV lh (iu s 4 e) (.ptr .S 0 1 0) (.isl .S 4 (g2+1) 0 (out.length+1) 7) 1=some (lh,iu (iu s 4 e) 0 ⟨1,.cells [.isl .S 4 (g2+1) 0 (out.length+1) 7] 0 true⟩):=fun lh e=>KG (X e) rfl rfl rfl
   simp(maxDischargeDepth:=6) only[qA,iY,EW,seval,ig,jI,BG,yO,iW,V,O,k1,W,k3,a0,a2,SF,I,O4,jH,iz,jf,jD,iO,r2,Y,Uu]
   have r: ∀e K,(iu (iu s 4 e) 0 K).length=5:=fun e K=>by rw[jz _ _ _ (by rw[jz _ _ _ (by omega)];omega),jz _ _ _ (by omega),a4]
   exact⟨_,_,_,rfl,⟨⟨.isl .S 4 (g2+1) 0 (out.length+1) 7,by rw[kN,if_pos rfl],.inr ⟨g2+1,_,by rw[List.length_append,List.length_singleton],by rw[kN,if_neg (by decide),kN,if_pos rfl];rfl,hZ.append a3 (hZ.one rfl),r _ _⟩⟩,⟨_,by rw[kN,if_neg (by decide),kN,if_neg (by decide)];exact b0,.inr ⟨g,st,rfl,by rw[kN,if_neg (by decide),kN,if_neg (by decide)];exact b3,by rw[r];decide⟩⟩,by rw[kN,if_neg (by decide),kN,if_neg (by decide)];exact b2⟩⟩
theorem vs4(J:Nat→Nat→Bool)(hN:N≤1000)(lp nT sv:T)(hF:F= .fn 58 [] [.vp [lp],.ptr .S 1 1 0,.vp [sv],.ptr .S 0 1 0,.vp [nT],.ptr .S 2 1 0])(r:List (Int×Bool)→Nat→Nat→List Lg)(x:List (Int×Bool))(left:Nat)(hx:x.length<6∨ ∀g,r x g left= [])
  (qc: ∃X q,(∀kk,lH nT (.i kk (f:Int)) 1=some (.vp (X::q)))∧IsSl X (p5 N J f).length (ints ((p5 N J f).map Int.ofNat))∧(p5 N J f).length≤1000∧ ∀g∈p5 N J f,g<N)
  (EL:1≤x.length∧x.length≤6) (IH:x.length<6→ ∀g s out,g<N→Vs s F x out→out.length+(r x g left).length≤1000000000→ ∃H,be pE 58 [.i .i64 (g:Int),.i .i64 (left:Int),.vp [lp],.ptr .S 1 1 0,.vp [sv],.ptr .S 0 1 0,.vp [nT],.ptr .S 2 1 0] s=some (.tup [],H)∧Vs H F x (out++r x g left))
  (hb:out.length+((p5 N J f).flatMap fun g=>r x g left).length≤1000000000) (fr:Fr) (lh:gW b8) (s:List b8) (h0:an fr 0= .i .i64 (f:Int)) (h3:an fr 3= .ptr .S 1 1 0) (h6:an fr 6= .vp [nT]) (Z:an fr 7= .ptr .S 2 1 0) (I:an fr 12= .i .i64 (left:Int)) (hV:Vs s F x out):
  ∃U l' H,DC pE 80 (BG (yO (yO (jI iW)))) ⟨fr,lh,s⟩=some (.nrm,⟨U,l',H⟩)∧Vs H F x (out++(p5 N J f).flatMap fun g=>r x g left):=by
 obtain⟨dv,b0,b1⟩:=hV.b1
 rcases b1 with⟨rfl,rfl,hl⟩|⟨g,st,rfl,b3,hl⟩
 ·simp at EL
 have m9:lenI (T.isl .S 3 g 0 x.length 2)=some (.i .i64 (x.length:Int)):=rfl
 by_cases V:x.length<6
 ·have K:(x.length:Int)<6:=by omega
  obtain⟨X,q,Y,W,hg1,hg2⟩:=qc
  have ay0:=W.lenI
  simp(maxDischargeDepth:=6) only[qA,iY,seval,ig,jI,BG,yO,iW,h0,h3,h6,b0,m9,K,Y,ay0]
  generalize hD:DC pE 80 (.loop zL) _=D
  have asW: ∀(fr:Fr) (lh:gW b8),an fr 7= .ptr .S 2 1 0→an fr 12= .i .i64 (left:Int)→an fr 63=X→an fr 64= .i .i64 ((p5 N J f).length:Int)→an fr 65= .i .i64 0→Lp pE 80 zL fr lh s (.ext 2) fun U l H=>Vs H F x (out++(p5 N J f).flatMap fun g=>r x g left):=by
   intro fr lh Z I Bw DZ BE
   generalize p5 N J f=gs at*
   refine kK IQ (fun k U l H=>an U 65= .i .i64 (k:Int)∧Vs H F x (out++(gs.take k).flatMap fun g=>r x g left)) gs.length ⟨BE,by simpa using hV⟩ ?_ ?_
   ·rintro k U l H hk pr ⟨O,HC⟩
    have iP:(k:Int)<gs.length:=by omega
    have hw:=iJ (k:=k) (by omega)
    have Y:=fun kk=>W.ia (sz:=1) (k:=k) (kk:=kk) (by rw[kH,List.length_map];omega) hk
    have hd:(ints (gs.map Int.ofNat)).drop (k*1)= .i .i64 (gs[k]:Int)::(ints (gs.map Int.ofNat)).drop (k+1):=by
     rw[Nat.mul_one,List.drop_eq_getElem_cons (by simpa[ints]using hk)]
     simp[ints]
    rw[hd]at Y
    have E6:(gs.take (k+1)).flatMap (fun g=>r x g left)=(gs.take k).flatMap (fun g=>r x g left)++r x gs[k] left:=by
     rw[List.take_succ_eq_append_getElem hk,List.flatMap_append]
     simp
    have hle:(out++(gs.take k).flatMap fun g=>r x g left).length+(r x gs[k] left).length≤1000000000:=by
     have h1:(gs.flatMap fun g=>r x g left).length=((gs.take (k+1)).flatMap fun g=>r x g left).length+((gs.drop (k+1)).flatMap fun g=>r x g left).length:=by
      rw[←List.length_append,←List.flatMap_append,List.take_append_drop]
     rw[E6,List.length_append]at h1
     rw[List.length_append]
     omega
    obtain⟨s2,e2,Pb⟩:=IH V gs[k] H _ (hg2 _ (List.getElem_mem hk)) HC hle
    have sL:=HC.b2
    rw[List.append_assoc,←E6]at Pb
    subst hF
    simp(maxDischargeDepth:=6) only[qA,iY,jO,seval,gd,ig,zL,pr,Z,I,Bw,DZ,O,iP,hw,Y,sL,e2,ao2]
    exact Pb
   ·rintro U l H pr ⟨O,HC⟩
    rw[List.take_length]at HC
    simp only[qA,seval,gd,zL,pr,DZ,O,Int.lt_irrefl]
    exact HC
  obtain⟨f3,l3,s3,rfl,hV3,pr3⟩:=E7 IQ hD (asW _ _ (by simp only[qA,seval,Z]) (by simp only[qA,seval,I]) (by simp only[qA,seval]) (by simp only[qA,seval]) (by simp only[qA,seval]))
  simp(maxDischargeDepth:=6) only[qA,seval]
  exact⟨_,_,_,rfl,hV3⟩
 ·have K: ¬(x.length:Int)<6:=by omega
  have my:((p5 N J f).flatMap fun g=>r x g left)= []:=by
   rcases hx with h|h
   ·exact absurd h V
   ·simp[h]
  rw[my,List.append_nil]
  simp(maxDischargeDepth:=6) only[qA,iY,seval,ig,jI,BG,yO,iW,h3,b0,m9,K]
  exact⟨_,_,_,rfl,hV⟩
theorem vs5(k:Int×Bool)(K:d.length≤6)(fr:Fr)(lh:gW b8)(s:List b8)(r:an fr 3= .ptr .S 1 1 0)(O:Vs s F (d++ [k]) out):
  ∃U V I,DC pE 80 (yO (yO (yO (jI iW)))) ⟨fr,lh,s⟩=some (.nrm,⟨U,V,I⟩)∧Vs I F d out:=by
 obtain⟨⟨W,a0,a1⟩,⟨dv,D,X⟩,Y⟩:=O
 rcases X with⟨rfl,h,hl⟩|⟨g,st,rfl,b3,hl⟩
 ·simp at h
 rw[List.length_append,List.length_singleton]at D
 have Z:lenI (T.isl .S 3 g 0 (d.length+1) 2)=some (.i .i64 ((d.length+1:Nat):Int)):=rfl
 have H:rz (T.isl .S 3 g 0 (d.length+1) 2)=some (d.length+1):=rfl
 have hw:wr .i64 (((d.length+1:Nat):Int)-1)=(d.length:Int):=by rw[jj (by omega)];omega
 have tS:Ad 2 (.isl .S 3 g 0 (d.length+1) 2) 0 d.length=some (.isl .S 3 g 0 d.length 2):=by
  unfold Ad
  simp only
  rw[if_pos ⟨Nat.zero_le _,by omega,trivial⟩]
  by_cases h:0=d.length
  ·rw[if_pos h,←h];rfl
  ·rw[if_neg h];rfl
 have Uu: ∀(lh:gW b8),Ev.stV lh s (.ptr .S 1 1 0) (.isl .S 3 g 0 d.length 2) 1=some (lh,iu s 1 ⟨1,.cells [.isl .S 3 g 0 d.length 2] 0 true⟩):=fun lh=>KG D rfl rfl rfl
 have RI: ∀e,(iu s 1 e).length=s.length:=fun e=>jz _ _ _ (by omega)
 simp(maxDischargeDepth:=6) only[qA,iY,seval,ig,jI,BG,yO,iW,r,D,Z,H,hw,tS,Uu]
 refine⟨_,_,_,rfl,⟨⟨W,by rw[kN,if_neg (by decide)];exact a0, ?_⟩,⟨_,by rw[kN,if_pos rfl],.inr ⟨g,.i .i64 k.1:: .b k.2::st,rfl, ?_,by rw[RI];exact hl⟩⟩,by rw[kN,if_neg (by decide)];exact Y⟩⟩
 ·rcases a1 with⟨h1,h2,r⟩|⟨g2,cs,h1,h2,r,h4⟩
  ·exact .inl ⟨h1,h2,by rw[RI];exact r⟩
  ·exact .inr ⟨g2,cs,h1,by rw[kN,if_neg (by decide)];exact h2,r,by rw[RI];exact h4⟩
 ·rw[kN,if_neg (by decide),b3,OX,List.append_assoc];rfl
end
theorem afk{E:Env}{n:Nat}{a:fx}{fr:Fr}{lh:gW b8}{sh:List b8}{D:Option (Out×St)}(i:DC E n a ⟨fr,lh,sh⟩=D){P:Fr→gW b8→List b8→Prop}(h: ∃f l s,DC E n a ⟨fr,lh,sh⟩=some (.nrm,⟨f,l,s⟩)∧P f l s):
  ∃f l s,D=some (.nrm,⟨f,l,s⟩)∧P f l s∧DC E n a ⟨fr,lh,sh⟩=some (.nrm,⟨f,l,s⟩):=by
 obtain⟨f,l,s,e,p⟩:=h
 exact⟨f,l,s,i.symm.trans e,p,e⟩
section
variable(N:Nat)(J:Nat→Nat→Bool)(il:Nat→Bool)(ok:List (Int×Bool)→Bool)(lg:List (Int×Bool)→Lg)(hN:N≤1000)(lp nT sv F:T)
 (hF:F= .fn 58 [] [.vp [lp],.ptr .S 1 1 0,.vp [sv],.ptr .S 0 1 0,.vp [nT],.ptr .S 2 1 0])
 (mj: ∀f,f<N→ ∃q,∀kk,lH lp (.i kk (f:Int)) 1=some (.vp (.b (il f)::q)))
 (qc: ∀f,f<N→ ∃gT q,(∀kk,lH nT (.i kk (f:Int)) 1=some (.vp (gT::q)))∧IsSl gT (p5 N J f).length (ints ((p5 N J f).map Int.ofNat))∧(p5 N J f).length≤1000∧ ∀g∈p5 N J f,g<N)
 (hsv:froz sv=true) (MN:cellsOf sv= [sv]) (MO: ∀x,(lg x).du=x)
 (BF: ∀x,1≤x.length→x.length≤6→(∀k∈x,Lq N k.1=true)→be pE 59 [sv,.sl (px x) x.length false] []=some (if ok x=true then .tup [.agg (og (lg x) (.sl (px x) x.length false)),.b true]else .tup [.agg (og lg0 .nilsl),.b false],[]))
include hN hF mj qc hsv MN MO BF
def ai4(N:Nat)(J:Nat→Nat→Bool)(il:Nat→Bool)(ok:List (Int×Bool)→Bool)(lg:List (Int×Bool)→Lg)(lp nT sv F:T)(n:Nat):Prop:=
 ∀(d:List (Int×Bool)) (f h:Nat) (s:List b8) (out:List Lg),d.length+n=6→d.length<6→(∀k∈d,Lq N k.1=true)→f<N→h≤6→Vs s F d out→out.length+(lz N J il ok lg n d f h).length≤1000000000→
  ∃r,be pE 58 [.i .i64 (f:Int),.i .i64 (h:Int),.vp [lp],.ptr .S 1 1 0,.vp [sv],.ptr .S 0 1 0,.vp [nT],.ptr .S 2 1 0] s=some (.tup [],r)∧Vs r F d (out++lz N J il ok lg n d f h)
theorem asY(n:Nat)(IH:ai4 N J il ok lg lp nT sv F n)(d:List (Int×Bool))(f left:Nat)(b:Bool)(out:List Lg)(hd:d.length+n=5)(Xj: ∀k∈d,Lq N k.1=true)(hf:f<N)(hh:left≤6)(U:out.length+(tD N J ok lg (lz N J il ok lg n) (d++ [((f:Int),b)]) f left).length≤1000000000)
  (fr:Fr) (lh:gW b8) (s:List b8) (h0:an fr 0= .i .i64 (f:Int)) (V:an fr 3= .ptr .S 1 1 0) (h4:an fr 4= .vp [sv]) (h5:an fr 5= .ptr .S 0 1 0) (X:an fr 6= .vp [nT]) (h7:an fr 7= .ptr .S 2 1 0) (Y:an fr 11= .b b) (Z:an fr 12= .i .i64 (left:Int)) (hV:Vs s F d out):
  ∃f' l' s',DC pE 80 (jI iW) ⟨fr,lh,s⟩=some (.nrm,⟨f',l',s'⟩)∧Vs s' F d (out++tD N J ok lg (lz N J il ok lg n) (d++ [((f:Int),b)]) f left):=by
 have _:=mj
 have hxl:(d++ [((f:Int),b)]).length=d.length+1:=by rw[List.length_append];rfl
 have I: ∀k∈d++ [((f:Int),b)],Lq N k.1=true:=fun k hk=>by
  rcases List.mem_append.1 hk with hk|hk
  ·exact Xj k hk
  ·rw[List.mem_singleton.1 hk];unfold Lq;simpa using hf
 generalize hx:d++ [((f:Int),b)]=x at*
 unfold tD at U ⊢
 rw[List.length_append]at U
 obtain⟨f1,s1,e1,D⟩:=vs1 F d out f b (by omega) fr lh s h0 V Y hV
 rw[hx]at D
 have W:=fun j H=>lB e1 j H
 obtain⟨f2,l2,e2,k14,k13⟩:=vs2 F out sv ok lg x (MO x) (by omega) hsv MN (BF x (by omega) (by omega) I) f1 lh s1 ((W 3 (by decide)).trans V) ((W 4 (by decide)).trans h4) D
 have p2:=fun j H=>lB e2 j H
 obtain⟨f3,l3,s3,e3,hV3⟩:=vs3 F out (ok x) (lg x) (by rw[MO];omega) _ _ (by omega) f2 l2 s1 ((p2 5 (by decide)).trans ((W 5 (by decide)).trans h5)) k14 (by rw[MO];exact k13) x (by omega) D
 have p3:=fun j H=>lB e3 j H
 have r: ∀j v,(jU (BG (jI iW))).contains j=false→(jU (BG (BG (yO (jI iW))))).contains j=false→(jU (yO (BG (yO (jI iW))))).contains j=false→an fr j=v→an f3 j=v:=fun j v a1 a2 a3 e=>(p3 j a3).trans ((p2 j a2).trans ((W j a1).trans e))
 obtain⟨f4,l4,s4,e4,K⟩:=vs4 N F (out++if ok x=true then [lg x]else []) f J hN lp nT sv hF (lz N J il ok lg n) x left (by
   by_cases h:x.length<6
   ·exact .inl h
   ·have:n=0:=by omega
    subst this
    exact .inr fun g=>rfl) (qc f hf) ⟨by omega,by omega⟩ (fun X g s out hg hV U=>IH x g left s out (by omega) X I hg hh hV U) (by rw[List.length_append];omega) f3 l3 s3 (r 0 _ (by decide) (by decide) (by decide) h0) (r 3 _ (by decide) (by decide) (by decide) V) (r 6 _ (by decide) (by decide) (by decide) X) (r 7 _ (by decide) (by decide) (by decide) h7) (r 12 _ (by decide) (by decide) (by decide) Z) hV3
 have p4:=fun j H=>lB e4 j H
 rw[←hx]at K
 obtain⟨f5,l5,s5,e5,O⟩:=vs5 F d _ ((f:Int),b) (by omega) f4 l4 s4 ((p4 3 (by decide)).trans (r 3 _ (by decide) (by decide) (by decide) V)) K
 rw[hx,List.append_assoc]at O
 refine⟨f5,l5,s5, ?_,O⟩
 rw[RQ,Ac,e1,nw,Ac,Ac,e2,nw,e3,nw,Ac,e4,nw,e5]
theorem asZ(n:Nat)(IH:ai4 N J il ok lg lp nT sv F n)(d:List (Int×Bool))(f h:Nat)(out:List Lg)(hd:d.length+(n+1)=6)(Xj: ∀k∈d,Lq N k.1=true)(hf:f<N)(hh:h≤6)(W:out.length+(lz N J il ok lg (n+1) d f h).length≤1000000000)
  (fr:Fr) (lh:gW b8) (s:List b8) (Y:an fr 0= .i .i64 (f:Int)) (h1:an fr 1= .i .i64 (h:Int)) (h2:an fr 2= .vp [lp]) (h3:an fr 3= .ptr .S 1 1 0) (h4:an fr 4= .vp [sv]) (h5:an fr 5= .ptr .S 0 1 0) (h6:an fr 6= .vp [nT]) (h7:an fr 7= .ptr .S 2 1 0) (zl:an fr 17= .sl [.b false,.b true] 2 true) (mM:an fr 18= .i .i64 2) (Ij:an fr 19= .i .i64 0) (hV:Vs s F d out):
  Lp pE 80 iW fr lh s (.ext 0) fun Z l' K=>Vs K F d (out++lz N J il ok lg (n+1) d f h):=by
 obtain⟨q,iU⟩:=mj f hf
 have ht:=fun b left out=>asY N J il ok lg hN lp nT sv F hF mj qc hsv MN MO BF n IH d f left b out (by omega) Xj hf
 have hwt:iW=DY iW (jI iW):=nr rfl
 have hwr: ∀j,(jU (jI iW)).contains j=false→ ∀(fr jA:Fr) lh s l' K,DC pE 80 (jI iW) ⟨fr,lh,s⟩=some (.nrm,⟨jA,l',K⟩)→an jA j=an fr j:=fun j hj fr jA lh s l' K e=>lB e j hj
 have as0:=hwr 19 (by decide)
 refine kK IS (fun k Z l K=>an Z 19= .i .i64 (k:Int)∧Vs K F d (out++if k=0 then []else if k=1 then(if il f=true then tD N J ok lg (lz N J il ok lg n) (d++ [((f:Int),false)]) f h else [])else lz N J il ok lg (n+1) d f h)) 2 ⟨Ij,by simpa using hV⟩ ?_ ?_
 ·rintro k Z l K hk r ⟨H,HC⟩
  have hc:k=0∨k=1:=by omega
  rcases hc with rfl|rfl
  ·have O:an Z 19= .i .i64 0:=H
   have I: ¬(h:Int)<0:=by omega
   rw[if_pos rfl,List.append_nil]at HC
   rw[if_neg (by decide),if_pos rfl]
   rw[lz,List.length_append]at W
   rw[hwt]
   have YZ: ∀kk,lH (.sl [.b false,.b true] 2 true) (.i kk 0) 1=some (.vp [.b false,.b true]):=fun _=>rfl
   cases hi:il f
   ·rw[hi]at iU
    generalize jI iW=X at*
    simp(maxDischargeDepth:=6) only[qA,iY,seval,gd,ig,iW,DY,r,Y,h1,h2,zl,mM,O,iU,I,YZ]
    exact HC
   ·rw[hi]at iU
    rw[hi,if_pos rfl]at W
    have U:=ht false h out hh (by omega)
    generalize jI iW=X at*
    simp(maxDischargeDepth:=6) only[qA,iY,seval,gd,ig,iW,DY,r,Y,h1,h2,zl,mM,O,iU,I,YZ]
    generalize hD:DC pE 80 X _=D
    obtain⟨f2,l2,s2,rfl,Pb,e2⟩:=afk hD (U _ _ _ (by simp only[qA,seval,r,Y]) (by simp only[qA,seval,r,h3]) (by simp only[qA,seval,r,h4]) (by simp only[qA,seval,r,h5]) (by simp only[qA,seval,r,h6]) (by simp only[qA,seval,r,h7]) (by simp only[qA,seval]) (by simp only[qA,seval]) HC)
    have g2:an f2 19= .i .i64 0:=by rw[as0 _ _ _ _ _ _ e2];simp only[qA,seval,O]
    simp(maxDischargeDepth:=6) only[qA,seval,gd,g2]
    exact Pb
  ·have V:an Z 19= .i .i64 1:=H
   rw[if_neg (by decide),if_pos rfl]at HC
   rw[if_neg (by decide),if_neg (by decide)]
   rw[hwt]
   have EL: ∀kk,lH (.sl [.b false,.b true] 2 true) (.i kk 1) 1=some (.vp [.b true]):=fun _=>rfl
   rw[lz]at W ⊢
   generalize hA:(if il f=true then tD N J ok lg (lz N J il ok lg n) (d++ [((f:Int),false)]) f h else [])=A at*
   rw[List.length_append]at W
   by_cases hz:h=0
   ·subst hz
    have h10:an fr 1= .i .i64 0:=h1
    generalize jI iW=X at*
    simp(maxDischargeDepth:=6) only[qA,iY,seval,gd,ig,iW,DY,r,Y,h10,h2,zl,mM,V,iU,EL]
    exact HC
   ·obtain⟨m,rfl⟩: ∃m,h=m+1:=⟨h-1,by omega⟩
    rw[if_neg hz]at W ⊢
    rw[Nat.add_sub_cancel]at W ⊢
    have hwp:wr .i64 (((m+1:Nat):Int)-1)=(m:Int):=by rw[jj (by omega)];omega
    have I: ¬(m:Int)<0:=by omega
    have U:=ht true m (out++A) (by omega) (by rw[List.length_append];omega)
    generalize jI iW=X at*
    simp(maxDischargeDepth:=6) only[qA,iY,seval,gd,ig,iW,DY,r,Y,h1,h2,zl,mM,V,iU,I,EL,hwp]
    generalize hD:DC pE 80 X _=D
    obtain⟨f2,l2,s2,rfl,Pb,e2⟩:=afk hD (U _ _ _ (by simp only[qA,seval,r,Y]) (by simp only[qA,seval,r,h3]) (by simp only[qA,seval,r,h4]) (by simp only[qA,seval,r,h5]) (by simp only[qA,seval,r,h6]) (by simp only[qA,seval,r,h7]) (by simp only[qA,seval]) (by simp only[qA,seval]) HC)
    have g2:an f2 19= .i .i64 1:=by rw[as0 _ _ _ _ _ _ e2];simp only[qA,seval,V]
    rw[List.append_assoc]at Pb
    simp(maxDischargeDepth:=6) only[qA,seval,gd,g2]
    exact Pb
 ·rintro Z l K r ⟨H,HC⟩
  simp only[qA,seval,gd,iW,r,mM,H,Int.lt_irrefl]
  simpa using HC
theorem KH: ∀n,ai4 N J il ok lg lp nT sv F n
 |0=>fun d f h s out r i=>by omega
 |n+1=>by
  have IH:=KH n
  intro d f h s out r i Xj hf H I K
  have O:=fun fr lh=>asZ N J il ok lg hN lp nT sv F hF mj qc hsv MN MO BF n IH d f h out r Xj hf H K fr lh s
  have SF:repl [T.b false] 2= [.b false,.b false]:=rfl
  rw[gQ ao1 (by simp[c58])]
  simp(maxDischargeDepth:=6) only[qA,seval,c58,SF]
  generalize U:DC pE 80 (.loop iW) _=D
  obtain⟨W,X,V,rfl,Pb,Y⟩:=E7 IS U (O _ _ (by simp only[qA,seval]) (by simp only[qA,seval]) (by simp only[qA,seval]) (by simp only[qA,seval]) (by simp only[qA,seval]) (by simp only[qA,seval]) (by simp only[qA,seval]) (by simp only[qA,seval]) (by simp only[qA,seval]) (by simp only[qA,seval]) (by simp only[qA,seval]) I)
  refine⟨V, ?_,Pb⟩
  simp(maxDischargeDepth:=6) only[qA,seval]
  rfl
end
theorem ay4{lh:gW b8}{s:List b8}{lp sv nT:T}{g8 g3 g9:Nat}(i:b7 lh 8=⟨g8,.cells [lp] 0 true⟩)(r:b7 lh 3=⟨g3,.cells [sv] 0 true⟩)(D:b7 lh 9=⟨g9,.cells [nT] 0 true⟩)(H:froz1 lp=true)(I:froz1 sv=true)(K:froz1 nT=true)(O:gY s 2=⟨1,.cells [.nilfn] 0 true⟩):
  Ev.stV lh s (.ptr .S 2 1 0) (.fn 58 [] [.ptr .L 8 g8 0,.ptr .S 1 1 0,.ptr .L 3 g3 0,.ptr .S 0 1 0,.ptr .L 9 g9 0,.ptr .S 2 1 0]) 1=some (nj (nj (nj lh 8 ⟨g8,.cells [lp] 1 true⟩) 3 ⟨g3,.cells [sv] 1 true⟩) 9 ⟨g9,.cells [nT] 1 true⟩,iu s 2 ⟨1,.cells [.fn 58 [] [.vp [lp],.ptr .S 1 1 0,.vp [sv],.ptr .S 0 1 0,.vp [nT],.ptr .S 2 1 0]] 0 true⟩):=by
 have U:(St.mk .nil lh s).get .L 8=⟨g8,.cells [lp] 0 true⟩:=i
 have V:(St.mk .nil lh s).get .L 3=⟨g3,.cells [sv] 0 true⟩:=r
 have W:(St.mk .nil lh s).get .L 9=⟨g9,.cells [nT] 0 true⟩:=D
 have X:(St.mk .nil lh s).get .S 2=⟨1,.cells [.nilfn] 0 true⟩:=O
 have Y: ∀n,Ev.fz false (n+1) lp= .ret (lp,[]):=fun n=>ph H
 have Z: ∀n,Ev.fz false (n+1) sv= .ret (sv,[]):=fun n=>ph I
 have q3: ∀n,Ev.fz false (n+1) nT= .ret (nT,[]):=fun n=>ph K
 have p8: ∀n,(Ev.fz true (n+2) (.ptr .L 8 g8 0)).run (St.mk .nil lh s).get s.length=some (.vp [lp],[(.L,8,⟨g8,.cells [lp] 1 true⟩)]):=fun n=>by
  unfold Ev.fz
  simp only[Bool.true_and,show(Sp.L==Sp.S)=false from rfl,Bool.false_eq_true,if_false,Q.run,U,if_true,List.drop_zero,iL,Y,Q.bind]
  rfl
 have p3: ∀n,(Ev.fz true (n+2) (.ptr .L 3 g3 0)).run (St.mk .nil lh s).get s.length=some (.vp [sv],[(.L,3,⟨g3,.cells [sv] 1 true⟩)]):=fun n=>by
  unfold Ev.fz
  simp only[Bool.true_and,show(Sp.L==Sp.S)=false from rfl,Bool.false_eq_true,if_false,Q.run,V,if_true,List.drop_zero,iL,Z,Q.bind]
  rfl
 have p9: ∀n,(Ev.fz true (n+2) (.ptr .L 9 g9 0)).run (St.mk .nil lh s).get s.length=some (.vp [nT],[(.L,9,⟨g9,.cells [nT] 1 true⟩)]):=fun n=>by
  unfold Ev.fz
  simp only[Bool.true_and,show(Sp.L==Sp.S)=false from rfl,Bool.false_eq_true,if_false,Q.run,W,if_true,List.drop_zero,iL,q3,Q.bind]
  rfl
 have pS: ∀n k,(Ev.fz true (n+1) (.ptr .S k 1 0)).run (St.mk .nil lh s).get s.length=some (.ptr .S k 1 0,[]):=fun n k=>rfl
 have pf:(Ev.fz true 8 (.fn 58 [] [.ptr .L 8 g8 0,.ptr .S 1 1 0,.ptr .L 3 g3 0,.ptr .S 0 1 0,.ptr .L 9 g9 0,.ptr .S 2 1 0])).run (St.mk .nil lh s).get s.length=some (.fn 58 [] [.vp [lp],.ptr .S 1 1 0,.vp [sv],.ptr .S 0 1 0,.vp [nT],.ptr .S 2 1 0],[(.L,8,⟨g8,.cells [lp] 1 true⟩),(.L,3,⟨g3,.cells [sv] 1 true⟩),(.L,9,⟨g9,.cells [nT] 1 true⟩)]):=by
  rw[UW]
  simp only[iL,iS,p8,p3,p9,pS,Q.run,Option.bind_some,Q.bind]
  rfl
 unfold Ev.stV ry
 rw[if_neg (by exact Bool.false_ne_true)]
 simp only[Q.run,X,if_true]
 rw[if_pos (by decide)]
 simp only[Bool.true_and,show(Sp.S==Sp.L)=false from rfl,show(Sp.S==Sp.S)=true from rfl,Bool.false_eq_true,if_false]
 unfold iq
 rw[iS,pf]
 simp only[Option.bind_some]
 rw[if_neg (by exact Bool.false_ne_true)]
 rfl
theorem D0{m:Nat}{lh:gW b8}{s:List b8}{k g n sz:Nat}{cs:List T}(h:gY s k=⟨g,.cells cs 0 false⟩)(i:cs.length=n*sz):fzW m lh s false (.isl .S k g 0 n sz)=some (.sl cs n false,[(.S,k,⟨g,.cells cs cs.length false⟩)]):=by
 have r:(St.mk .nil lh s).get .S k=gY s k:=rfl
 unfold fzW Ev.fz
 simp only[Bool.false_and,Bool.false_eq_true,if_false,Q.run,r,h,if_true]
 rw[if_pos (by omega),List.drop_zero,←i,List.take_length]
 rfl
def RS(out:List Lg)(v:T):Prop:= ∃cs,IsSl v out.length cs∧hZ SG out cs
theorem HD(out:List Lg): ∃v,RS out v:=by
 obtain⟨cs,h⟩: ∃cs,hZ SG out cs:=by
  induction out with
  |nil=>exact⟨[],rfl⟩
  |cons g out ih=>
   obtain⟨cs,h⟩:=ih
   exact⟨_,_,_,rfl,rfl,h⟩
 exact⟨.sl cs out.length false,cs,.inr ⟨_,rfl⟩,h⟩
section
variable(zT aT fT a7 a8 a9 gX hU gZ:T)(c:Ct)(rL fc:List T)(l:List Fl)(hf:IsSl fT l.length fc)(hr:hZ Rq l fc)(hN:l.length≤1000)
 (ok:List (Int×Bool)→Bool) (lg:List (Int×Bool)→Lg) (MO: ∀x,(lg x).du=x)
 (BF: ∀x,1≤x.length→x.length≤6→(∀k∈x,Lq l.length k.1=true)→be pE 59 [.vp (zT::aT::fT::(jE c a7 a8 a9 gX hU gZ++rL)),.sl (px x) x.length false] []=some (if ok x=true then .tup [.agg (og (lg x) (.sl (px x) x.length false)),.b true]else .tup [.agg (og lg0 .nilsl),.b false],[]))
include hf hr hN MO BF
def qM(N:Nat)(J:Nat→Nat→Bool)(il:Nat→Bool)(ok:List (Int×Bool)→Bool)(lg:List (Int×Bool)→Lg)(H:Nat):List Lg:=(List.range N).flatMap fun f=>lz N J il ok lg 6 [] f H
theorem ay5(il:Nat→Bool)(lp nT F:T)(hF:F= .fn 58 [] [.vp [lp],.ptr .S 1 1 0,.vp [.vp (zT::aT::fT::(jE c a7 a8 a9 gX hU gZ++rL))],.ptr .S 0 1 0,.vp [nT],.ptr .S 2 1 0])
  (mj: ∀f,f<l.length→ ∃q,∀kk,lH lp (.i kk (f:Int)) 1=some (.vp (.b (il f)::q)))
  (qc: ∀f,f<l.length→ ∃Z q,(∀kk,lH nT (.i kk (f:Int)) 1=some (.vp (Z::q)))∧IsSl Z (p5 l.length (jn c l) f).length (ints ((p5 l.length (jn c l) f).map Int.ofNat))∧(p5 l.length (jn c l) f).length≤1000∧ ∀g∈p5 l.length (jn c l) f,g<l.length)
  (H:Nat) (hH:H≤6) (hb:(qM l.length (jn c l) il ok lg H).length≤1000000000) (fr:Fr) (lh:gW b8) (s:List b8) (h2:an fr 2= .i .i64 (H:Int)) (O:an fr 12= .ptr .S 2 1 0) (I:an fr 30= .i .i64 (l.length:Int)) (U:an fr 31= .i .i64 0) (hV:Vs s F [] []):
  Lp pE 43 zq fr lh s (.ext 0) fun K V D=>Vs D F [] (qM l.length (jn c l) il ok lg H):=by
 have _:=hf
 have _:=hr
 have W:=KH l.length (jn c l) il ok lg hN lp nT (.vp (zT::aT::fT::(jE c a7 a8 a9 gX hU gZ++rL))) F hF mj qc rfl rfl MO BF 6
 refine kK Iu (fun k K V D=>an K 31= .i .i64 (k:Int)∧Vs D F [] ((List.range k).flatMap fun f=>lz l.length (jn c l) il ok lg 6 [] f H)) l.length ⟨U,by simpa using hV⟩ ?_ ?_
 ·rintro k K V D hk X ⟨r,HC⟩
  have iP:(k:Int)<l.length:=by omega
  have hw:=iJ (k:=k) (by omega)
  have E6:(List.range (k+1)).flatMap (fun f=>lz l.length (jn c l) il ok lg 6 [] f H)=(List.range k).flatMap (fun f=>lz l.length (jn c l) il ok lg 6 [] f H)++lz l.length (jn c l) il ok lg 6 [] k H:=by
   rw[List.range_succ,List.flatMap_append];simp
  have Y:((List.range k).flatMap fun f=>lz l.length (jn c l) il ok lg 6 [] f H).length+(lz l.length (jn c l) il ok lg 6 [] k H).length≤1000000000:=by
   have h1:List.range l.length=List.range (k+1)++(List.range l.length).drop (k+1):=by
    rw[←List.take_append_drop (k+1) (List.range l.length),List.take_range,Nat.min_eq_left (by omega)]
    simp
   unfold qM at hb
   rw[h1,List.flatMap_append,E6,List.length_append,List.length_append]at hb
   omega
  obtain⟨s2,e2,Pb⟩:=W [] k H D _ rfl (by decide) (by simp) hk hH HC Y
  have sL:=HC.b2
  rw[←E6]at Pb
  subst hF
  simp(maxDischargeDepth:=6) only[qA,iY,jO,seval,gd,ig,zq,X,h2,O,I,r,iP,hw,sL,e2,ao2]
  exact Pb
 ·rintro K V D X ⟨r,HC⟩
  simp only[qA,seval,gd,zq,X,I,r,Int.lt_irrefl]
  exact HC
theorem ai8(ops:List Int)(O:T)(U:IsSl O ops.length (ints ops))(X:ops.length≤1000)(Y: ∀x∈ops,0≤x∧x<(l.length:Int))(H:Nat)(Z:H≤6)(hb:(qM l.length (jn c l) (pL ops) ok lg H).length≤1000000000):
  ∃v s,be pE 25 [.vp (zT::aT::fT::(jE c a7 a8 a9 gX hU gZ++rL)),O,.i .i64 (H:Int)] []=some (if 20000<Xt l.length H (pL ops) (p5 l.length (jn c l))∨2000<(qM l.length (jn c l) (pL ops) ok lg H).length then .tup [.nilsl,.i .i64 10]else .tup [v,.i .i64 0],s)∧RS (qM l.length (jn c l) (pL ops) ok lg H) v:=by
 have I:=hf.lenI
 have K:=U.froz
 have KD:=U.froz1
 obtain⟨s0,e0⟩:=ab8 zT aT fT a7 a8 a9 gX hU gZ c rL fc l hf hr hN ops O U X Y H Z
 have e1:=DR zT aT fT (jE c a7 a8 a9 gX hU gZ++rL) l.length I hN ops O U X Y
 obtain⟨s1,e2⟩:=KC zT aT fT a7 a8 a9 gX hU gZ c rL fc l hf hr hN
 have mj:=Xu l.length ops
 have qc:=Xv l.length (jn c l) hN
 have z1:froz1 (.sl (xf (inB l.length ops)) l.length false)=true:=rfl
 have z2:froz1 (RM l.length (jn c l))=true:=rfl
 have z3:froz (RM l.length (jn c l))=true:=rfl
 have z4:froz (.sl (xf (inB l.length ops)) l.length false)=true:=rfl
 have z5:cellsOf (.sl (xf (inB l.length ops)) l.length false)= [.sl (xf (inB l.length ops)) l.length false]:=rfl
 have z6:noTup (.sl (xf (inB l.length ops)) l.length false)=true:=rfl
 have z7:cellsOf (RM l.length (jn c l))= [RM l.length (jn c l)]:=rfl
 have z8:noTup (RM l.length (jn c l))=true:=rfl
 generalize hI:T.sl (xf (inB l.length ops)) l.length false=lp at*
 generalize hX:RM l.length (jn c l)=nT at*
 rw[gQ aoJ (by simp[c25])]
 by_cases Bu:20000<Xt l.length H (pL ops) (p5 l.length (jn c l))
 ·obtain⟨v,hv⟩:=HD (qM l.length (jn c l) (pL ops) ok lg H)
  refine⟨v, ?_⟩
  rw[if_pos (.inl Bu)]
  simp(maxDischargeDepth:=6) only[qA,iY,seval,ig,c25,e0,ao0,K,KD,Bu]
  exact⟨_,rfl,hv⟩
 ·have V:=fun lh h8 h3 h9=>ay4 (lh:=lh) (s:= [⟨1,.cells [.nilsl] 0 true⟩,⟨1,.cells [.nilsl] 0 true⟩,⟨1,.cells [.nilfn] 0 true⟩]) (lp:=lp) (sv:= .vp (zT::aT::fT::(jE c a7 a8 a9 gX hU gZ++rL))) (nT:=nT) (g8:=1) (g3:=1) (g9:=1) h8 h3 h9 z1 rfl z2 rfl
  simp(maxDischargeDepth:=6) only[qA,jq,qw,iY,seval,ig,c25,I,e0,e1,e2,ao0,awB,awE,awD,awG,K,KD,Bu,z1,z2,z3,z4,z5,z6,z7,z8,V]
  generalize hD:DC pE 43 (.loop zq) _=D
  obtain⟨f2,l2,s2,rfl,Pb,oM⟩:=E7 Iu hD (ay5 zT aT fT a7 a8 a9 gX hU gZ c rL fc l hf hr hN ok lg MO BF (pL ops) lp nT _ rfl mj qc H Z hb _ _ _ (by simp only[qA,seval]) (by simp only[qA,seval]) (by simp only[qA,seval]) (by simp only[qA,seval]) ⟨⟨.nilsl,rfl,.inl ⟨rfl,rfl,by simp⟩⟩,⟨.nilsl,rfl,.inl ⟨rfl,rfl,rfl⟩⟩,rfl⟩)
  have r:an f2 10= .ptr .S 0 1 0:=by rw[oM 10 (by decide)];simp only[qA,seval]
  generalize qM l.length (jn c l) (pL ops) ok lg H=out at*
  obtain⟨ov,a0,a1⟩:=Pb.b0
  rcases a1 with⟨rfl,rfl,_⟩|⟨g,cs,rfl,b1,b2,b3⟩
  ·refine⟨.nilsl, ?_⟩
   simp(maxDischargeDepth:=6) only[qA,iY,seval,ig,r,a0]
   exact⟨_,rfl,[],.inl ⟨rfl,rfl,rfl⟩,rfl⟩
  ·have I:lenI (T.isl .S 4 g 0 out.length 7)=some (.i .i64 (out.length:Int)):=rfl
   have lX:=b2.len SG.len
   have W:=fun m lh=>D0 (m:=m) (lh:=lh) b1 lX
   refine⟨.sl cs out.length false, ?_⟩
   by_cases h2:2000<out.length
   ·have NU:(2000:Int)<(out.length:Int):=by omega
    simp(maxDischargeDepth:=6) only[qA,iY,seval,ig,r,a0,I,h2,NU,or_true]
    exact⟨_,rfl,cs,.inr ⟨_,rfl⟩,b2⟩
   ·have NU: ¬(2000:Int)<(out.length:Int):=by omega
    simp(maxDischargeDepth:=6) only[qA,iY,seval,ig,r,a0,I,h2,NU,W,or_self]
    exact⟨_,rfl,cs,.inr ⟨_,rfl⟩,b2⟩
end
end Go.Proofs.YtcpceiclnbmgiaaGreat
