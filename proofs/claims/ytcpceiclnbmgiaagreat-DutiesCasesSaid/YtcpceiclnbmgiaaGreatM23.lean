/- Walks of functions of the program and of the reference, and their plain laws, part 23. Conditions: the theorems' own. -/
import Derived.Test.YtcpceiclnbmgiaaGreatGS
import Derived.Test.YtcpceiclnbmgiaaGreatM21
import Derived.Test.YtcpceiclnbmgiaaGreatM22
import Derived.KernelRfl
set_option maxRecDepth 100000
set_option linter.unusedSimpArgs false
set_option linter.unusedVariables false
set_option maxHeartbeats 16000000
namespace Go.Proofs.YtcpceiclnbmgiaaGreat
open Go Go.Ev
theorem aG8{lh:aB ah}{s:List ah}{eE sv nT:T}{g8 g3 g9:Nat}(r:ab lh 8=⟨g8,.cells [eE] 0 true⟩)(h3:ab lh 3=⟨g3,.cells [sv] 0 true⟩)(D:ab lh 9=⟨g9,.cells [nT] 0 true⟩)(F:froz1 eE=true)(H:froz1 sv=true)(I:froz1 nT=true)(J:aE s 2=⟨1,.cells [.nilfn] 0 true⟩):
  Ev.stV lh s (.ptr .S 2 1 0) (.fn 58 [] [.ptr .L 8 g8 0,.ptr .S 1 1 0,.ptr .L 3 g3 0,.ptr .S 0 1 0,.ptr .L 9 g9 0,.ptr .S 2 1 0]) 1=some (iK (iK (iK lh 8 ⟨g8,.cells [eE] 1 true⟩) 3 ⟨g3,.cells [sv] 1 true⟩) 9 ⟨g9,.cells [nT] 1 true⟩,aK s 2 ⟨1,.cells [.fn 58 [] [.vp [eE],.ptr .S 1 1 0,.vp [sv],.ptr .S 0 1 0,.vp [nT],.ptr .S 2 1 0]] 0 true⟩):=by
 have K:(St.mk .nil lh s).get .L 8=⟨g8,.cells [eE] 0 true⟩:=r
 have e3:(St.mk .nil lh s).get .L 3=⟨g3,.cells [sv] 0 true⟩:=h3
 have N:(St.mk .nil lh s).get .L 9=⟨g9,.cells [nT] 0 true⟩:=D
 have e2:(St.mk .nil lh s).get .S 2=⟨1,.cells [.nilfn] 0 true⟩:=J
 have O: ∀n,Ev.fz false (n+1) eE= .ret (eE,[]):=fun n=>kK F
 have U: ∀n,Ev.fz false (n+1) sv= .ret (sv,[]):=fun n=>kK H
 have V: ∀n,Ev.fz false (n+1) nT= .ret (nT,[]):=fun n=>kK I
 have W: ∀n,(Ev.fz true (n+2) (.ptr .L 8 g8 0)).run (St.mk .nil lh s).get s.length=some (.vp [eE],[(.L,8,⟨g8,.cells [eE] 1 true⟩)]):=fun n=>by
  unfold Ev.fz
  simp only[Bool.true_and,show(Sp.L==Sp.S)=false from rfl,Bool.false_eq_true,if_false,Q.run,K,if_true,List.drop_zero,bn,O,Q.bind]
  rfl
 have X: ∀n,(Ev.fz true (n+2) (.ptr .L 3 g3 0)).run (St.mk .nil lh s).get s.length=some (.vp [sv],[(.L,3,⟨g3,.cells [sv] 1 true⟩)]):=fun n=>by
  unfold Ev.fz
  simp only[Bool.true_and,show(Sp.L==Sp.S)=false from rfl,Bool.false_eq_true,if_false,Q.run,e3,if_true,List.drop_zero,bn,U,Q.bind]
  rfl
 have Y: ∀n,(Ev.fz true (n+2) (.ptr .L 9 g9 0)).run (St.mk .nil lh s).get s.length=some (.vp [nT],[(.L,9,⟨g9,.cells [nT] 1 true⟩)]):=fun n=>by
  unfold Ev.fz
  simp only[Bool.true_and,show(Sp.L==Sp.S)=false from rfl,Bool.false_eq_true,if_false,Q.run,N,if_true,List.drop_zero,bn,V,Q.bind]
  rfl
 have Z: ∀n k,(Ev.fz true (n+1) (.ptr .S k 1 0)).run (St.mk .nil lh s).get s.length=some (.ptr .S k 1 0,[]):=fun n k=>rfl
 have pf:(Ev.fz true 8 (.fn 58 [] [.ptr .L 8 g8 0,.ptr .S 1 1 0,.ptr .L 3 g3 0,.ptr .S 0 1 0,.ptr .L 9 g9 0,.ptr .S 2 1 0])).run (St.mk .nil lh s).get s.length=some (.fn 58 [] [.vp [eE],.ptr .S 1 1 0,.vp [sv],.ptr .S 0 1 0,.vp [nT],.ptr .S 2 1 0],[(.L,8,⟨g8,.cells [eE] 1 true⟩),(.L,3,⟨g3,.cells [sv] 1 true⟩),(.L,9,⟨g9,.cells [nT] 1 true⟩)]):=by
  rw[V9]
  simp only[bn,bq,W,X,Y,Z,Q.run,Option.bind_some,Q.bind]
  rfl
 unfold Ev.stV nI
 rw[if_neg (by exact Bool.false_ne_true)]
 simp only[Q.run,e2,if_true]
 rw[if_pos yv]
 simp only[Bool.true_and,show(Sp.S==Sp.L)=false from rfl,show(Sp.S==Sp.S)=true from rfl,Bool.false_eq_true,if_false]
 unfold aL
 rw[bq,pf]
 simp only[Option.bind_some]
 rw[if_neg (by exact Bool.false_ne_true)]
 rfl
theorem yu{m:Nat}{lh:aB ah}{s:List ah}{k g n sz:Nat}{cs:List T}(h:aE s k=⟨g,.cells cs 0 false⟩)(r:cs.length=n*sz):fzW m lh s false (.isl .S k g 0 n sz)=some (.sl cs n false,[(.S,k,⟨g,.cells cs cs.length false⟩)]):=by
 have D:(St.mk .nil lh s).get .S k=aE s k:=rfl
 unfold fzW Ev.fz
 simp only[Bool.false_and,Bool.false_eq_true,if_false,Q.run,D,h,if_true]
 rw[if_pos zO,List.drop_zero,←r,List.take_length]
 rfl
def MG(r:List Lg)(v:T):Prop:= ∃cs,IsSl v r.length cs∧aA LgR r cs
theorem GY(r:List Lg): ∃v,MG r v:=by
 obtain⟨cs,h⟩: ∃cs,aA LgR r cs:=by
  induction r with
  |nil=>exact⟨[],rfl⟩
  |cons g r ih=>
   obtain⟨cs,h⟩:=ih
   exact⟨_,_,_,rfl,rfl,h⟩
 exact⟨.sl cs r.length false,cs,.inr ⟨_,rfl⟩,h⟩
section
variable(zT aT fT a7 a8 a9 a10 aw av:T)(c:Ct)(lN fc:List T)(l:List Fl)(hf:IsSl fT l.length fc)(hr:aA RB l fc)(hN:l.length≤1000)
 (ok:List (Int×Bool)→Bool) (lg:List (Int×Bool)→Lg) (MF: ∀x,(lg x).du=x)
 (yO: ∀x,1≤x.length→x.length≤6→(∀k∈x,sW l.length k.1=true)→ae pE 59 [.vp (zT::aT::fT::(aR c a7 a8 a9 a10 aw av++lN)),.sl (gh x) x.length false] []=some (if ok x=true then .tup [.agg (jl (lg x) (.sl (gh x) x.length false)),.b true]else .tup [.agg (jl Er .nilsl),.b false],[]))
include hf hr hN MF yO
def jm(N:Nat)(J:Nat→Nat→Bool)(aH:Nat→Bool)(r:List (Int×Bool)→Bool)(D:List (Int×Bool)→Lg)(H:Nat):List Lg:=(List.range N).flatMap fun f=>dF N J aH r D 6 [] f H
theorem aG9(aH:Nat→Bool)(eE nT F:T)(Y:F= .fn 58 [] [.vp [eE],.ptr .S 1 1 0,.vp [.vp (zT::aT::fT::(aR c a7 a8 a9 a10 aw av++lN))],.ptr .S 0 1 0,.vp [nT],.ptr .S 2 1 0])
  (eK: ∀f,f<l.length→ ∃q,∀kk,dV eE (.i kk (f:Int)) 1=some (.vp (.b (aH f)::q)))
  (fO: ∀f,f<l.length→ ∃gT q,(∀kk,dV nT (.i kk (f:Int)) 1=some (.vp (gT::q)))∧IsSl gT (dM l.length (jn c l) f).length (ints ((dM l.length (jn c l) f).map Int.ofNat))∧(dM l.length (jn c l) f).length≤1000∧ ∀g∈dM l.length (jn c l) f,g<l.length)
  (H:Nat) (hH:H≤6) (Z:(jm l.length (jn c l) aH ok lg H).length≤1000000000) (fr:Fr) (lh:aB ah) (s:List ah) (h2:aa fr 2= .i .i64 (H:Int)) (N:aa fr 12= .ptr .S 2 1 0) (I:aa fr 30= .i .i64 (l.length:Int)) (O:aa fr 31= .i .i64 0) (hV:Vs s F [] []):
  Lp pE 43 At fr lh s (.ext 0) fun J U D=>Vs D F [] (jm l.length (jn c l) aH ok lg H):=by
 have _:=hf
 have _:=hr
 have V:=Ka l.length (jn c l) aH ok lg hN eE nT (.vp (zT::aT::fT::(aR c a7 a8 a9 a10 aw av++lN))) F Y eK fO rfl rfl MF yO 6
 refine bV aac (fun k J U D=>aa J 31= .i .i64 (k:Int)∧Vs D F [] ((List.range k).flatMap fun f=>dF l.length (jn c l) aH ok lg 6 [] f H)) l.length ⟨O,by simpa using hV⟩ ?_ ?_
 ·rintro k J U D hk W ⟨r,K⟩
  have aN:(k:Int)<l.length:=zO
  have hw:=aI (k:=k) zO
  have qU:(List.range (k+1)).flatMap (fun f=>dF l.length (jn c l) aH ok lg 6 [] f H)=(List.range k).flatMap (fun f=>dF l.length (jn c l) aH ok lg 6 [] f H)++dF l.length (jn c l) aH ok lg 6 [] k H:=by
   rw[List.range_succ,List.flatMap_append];simp
  have X:((List.range k).flatMap fun f=>dF l.length (jn c l) aH ok lg 6 [] f H).length+(dF l.length (jn c l) aH ok lg 6 [] k H).length≤1000000000:=by
   have h1:List.range l.length=List.range (k+1)++(List.range l.length).drop (k+1):=by
    rw[←List.take_append_drop (k+1) (List.range l.length),List.take_range,Nat.min_eq_left zO]
    simp
   unfold jm at Z
   rw[h1,List.flatMap_append,qU,List.length_append,List.length_append]at Z
   omega
  obtain⟨s2,e2,Ai⟩:=V [] k H D _ rfl yv xv hk hH K X
  have nN:=K.b2
  rw[←qU]at Ai
  subst Y
  simp(maxDischargeDepth:=6) only[qA,dL,seval,gd,At,W,h2,N,I,r,aN,hw,nN,e2,aut]
  exact Ai
 ·rintro J U D W ⟨r,K⟩
  simp only[qA,seval,gd,At,W,I,r,Int.lt_irrefl]
  exact K
theorem anB(ops:List Int)(I:T)(J:IsSl I ops.length (ints ops))(O:ops.length≤1000)(U: ∀x∈ops,0≤x∧x<(l.length:Int))(H:Nat)(V:H≤6)(Y:(jm l.length (jn c l) (fN ops) ok lg H).length≤1000000000):
  ∃v s,ae pE 25 [.vp (zT::aT::fT::(aR c a7 a8 a9 a10 aw av++lN)),I,.i .i64 (H:Int)] []=some (if 20000<ZO l.length H (fN ops) (dM l.length (jn c l))∨2000<(jm l.length (jn c l) (fN ops) ok lg H).length then .tup [.nilsl,.i .i64 10]else .tup [v,.i .i64 0],s)∧MG (jm l.length (jn c l) (fN ops) ok lg H) v:=by
 have F:=hf.lenI
 have W:=J.froz
 have MB:=J.froz1
 obtain⟨s0,X⟩:=O5 zT aT fT a7 a8 a9 a10 aw av c lN fc l hf hr hN ops I J O U H V
 have e1:=Cl zT aT fT (aR c a7 a8 a9 a10 aw av++lN) l.length F hN ops I J O U
 obtain⟨s1,e2⟩:=Cq zT aT fT a7 a8 a9 a10 aw av c lN fc l hf hr hN
 have eK:=GP l.length ops
 have fO:=MA l.length (jn c l) hN
 have Z:froz1 (.sl (mF (inB l.length ops)) l.length false)=true:=rfl
 have z2:froz1 (HJ l.length (jn c l))=true:=rfl
 have z3:froz (HJ l.length (jn c l))=true:=rfl
 have z4:froz (.sl (mF (inB l.length ops)) l.length false)=true:=rfl
 have z5:cellsOf (.sl (mF (inB l.length ops)) l.length false)= [.sl (mF (inB l.length ops)) l.length false]:=rfl
 have z6:noTup (.sl (mF (inB l.length ops)) l.length false)=true:=rfl
 have z7:cellsOf (HJ l.length (jn c l))= [HJ l.length (jn c l)]:=rfl
 have z8:noTup (HJ l.length (jn c l))=true:=rfl
 generalize hI:T.sl (mF (inB l.length ops)) l.length false=eE at*
 generalize hX:HJ l.length (jn c l)=nT at*
 rw[an at6 (by simp[c25])]
 by_cases Ii:20000<ZO l.length H (fN ops) (dM l.length (jn c l))
 ·obtain⟨v,hv⟩:=GY (jm l.length (jn c l) (fN ops) ok lg H)
  refine⟨v, ?_⟩
  rw[if_pos (.inl Ii)]
  simp(maxDischargeDepth:=6) only[qA,seval,c25,X,akn,W,Ii]
  exact⟨_,rfl,hv⟩
 ·have K:=fun lh h8 h3 h9=>aG8 (lh:=lh) (s:= [⟨1,.cells [.nilsl] 0 true⟩,⟨1,.cells [.nilsl] 0 true⟩,⟨1,.cells [.nilfn] 0 true⟩]) (eE:=eE) (sv:= .vp (zT::aT::fT::(aR c a7 a8 a9 a10 aw av++lN))) (nT:=nT) (g8:=1) (g3:=1) (g9:=1) h8 h3 h9 Z rfl z2 rfl
  simp(maxDischargeDepth:=6) only[qA,bp,wY,eh,seval,aJ,c25,F,X,e1,e2,akn,aDd,aur,aDf,aDh,W,Ii,z3,z4,z5,z6,z7,z8,K]
  generalize hD:DC pE 43 (.loop At) _=D
  obtain⟨f2,l2,s2,rfl,Ai,iH⟩:=sZ aac hD (aG9 zT aT fT a7 a8 a9 a10 aw av c lN fc l hf hr hN ok lg MF yO (fN ops) eE nT _ rfl eK fO H V Y _ _ _ wL wL wL wL ⟨⟨.nilsl,rfl,.inl ⟨rfl,rfl,by simp⟩⟩,⟨.nilsl,rfl,.inl ⟨rfl,rfl,rfl⟩⟩,rfl⟩)
  have r:aa f2 10= .ptr .S 0 1 0:=by rw[iH 10 yv];simp only[qA,seval]
  generalize jm l.length (jn c l) (fN ops) ok lg H=out at*
  obtain⟨ov,a0,a1⟩:=Ai.b0
  rcases a1 with⟨rfl,rfl,_⟩|⟨g,cs,rfl,b1,b2,b3⟩
  ·refine⟨.nilsl, ?_⟩
   simp(maxDischargeDepth:=6) only[qA,seval,r,a0]
   exact⟨_,rfl,[],.inl ⟨rfl,rfl,rfl⟩,rfl⟩
  ·have F:lenI (T.isl .S 4 g 0 out.length 7)=some (.i .i64 (out.length:Int)):=rfl
   have ee:=b2.len LgR.len
   have N:=fun m lh=>yu (m:=m) (lh:=lh) b1 ee
   refine⟨.sl cs out.length false, ?_⟩
   by_cases h2:2000<out.length
   ·have Lj:(2000:Int)<(out.length:Int):=zO
    simp(maxDischargeDepth:=6) only[qA,seval,r,a0,F,h2,Lj,or_true]
    exact⟨_,rfl,cs,.inr ⟨_,rfl⟩,b2⟩
   ·have Lj: ¬(2000:Int)<(out.length:Int):=zO
    simp(maxDischargeDepth:=6) only[qA,seval,r,a0,F,h2,Lj,N,or_self]
    exact⟨_,rfl,cs,.inr ⟨_,rfl⟩,b2⟩
end
end Go.Proofs.YtcpceiclnbmgiaaGreat
namespace Go.Ev
open Go
theorem aad{E:Env}{call:kg}{n:Nat}{fr:Fr}{lh:aB ah}{sh:List ah}{ds:List (List Nat×aF)}{bw:List FP}{u:List Nat}{r sz bytes:Nat}{s x:aX}{D:Bool}(hs:rd fr s= .nilsl)(hx:rd fr x= .nilsl):aM E call n ((u,⟨some r,.app sz bytes s x false D,none⟩)::ds) bw ⟨fr,lh,sh⟩=ke E call n ds (bw++ [gG]) (aj E call n [⟨some r,.app sz bytes s x false D,none⟩] ⟨fr,lh,sh⟩):=by
 rw[nM (fp:=gG),qR,if_pos rfl]
 intro H
 obtain⟨v,I,hr,J⟩:=qm (q:=jr r sz bytes .nilsl .nilsl false D) (by rfl) (by rw[dC];show jr _ _ _ (rd fr s) (rd fr x) _ _=_;rw[hs,hx];rfl) H
 have F:(jr r sz bytes .nilsl .nilsl false D).run (St.mk fr lh sh).get (St.mk fr lh sh).sh.length=some (.val .nilsl []):=rfl
 rw[F]at hr
 cases hr
 exact J rfl
end Go.Ev
namespace Go.Proofs.YtcpceiclnbmgiaaGreat
open Go Go.Ev
def GZ(lh:aB ah)(cv:T)(cs:List Nat):Prop:=IsSl cv cs.length (ints (cs.map Int.ofNat))∨bt lh cv 48 1 cs.length (ints (cs.map Int.ofNat))
def dq:ak→ak
 | .seq _ (.seq (.block _ (.seq _ t)) _)=>t
 |c=>c
def tS:ak→ak→ak
 | .seq a (.seq (.block i (.seq b _)) z),t=> .seq a (.seq (.block i (.seq b t)) z)
 |c,_=>c
theorem Sk:bO=tS bO (dq bO):=nr rfl
theorem Sl:dq bO= .seq (nQ (dq bO)) (.seq (.seq (nQ (nQ (mL (dq bO)))) (mL (nQ (mL (dq bO))))) (mL (mL (dq bO)))):=nr rfl
def DtV(d:List (Int×Bool))(r:T):Prop:=(d= []∧r= .nilsl)∨(d≠ []∧r= .sl (gh d) d.length false)
theorem ex1(d:List (Int×Bool))(Y:T)(Z:DtV d Y)(JS:d.length≤5)(f:Nat)(b:Bool)(cs:List Nat)(k:Nat)(hk:k<cs.length)(hf:cs[k]=f)(cv:T)(fr:Fr)(lh:aB ah)(s:List ah)(hc:GZ lh cv cs)(h3:aa fr 3=Y)(F:aa fr 15=cv)(H:aa fr 17= .i .i64 (k:Int))(I:aa fr 18= .i .i64 (if b=true then 1 else 0)):
  ∃f' U,DC pE 111 (nQ (dq bO)) ⟨fr,lh,s⟩=some (.nrm,⟨f',U,s⟩)∧(∃j g,(j=77∨j=86)∧aa f' 19= .isl .L j g 0 (d.length+1) 2∧ab U j=⟨g,.cells (gh (d++ [((f:Int),b)])) 0 false⟩)∧ ∀j,j≠77→j≠86→ab U j=ab lh j:=by
 have D:gh (d++ [((f:Int),b)])=gh d++ [.i .i64 (f:Int),.b b]:=by rw[Ac];rfl
 have J:repl [T.i .i64 0,.b false] 1= [.i .i64 0,.b false]:=rfl
 have K:(d.length+1)*16≤roomy:=by unfold roomy;omega
 have N:d.length*16≤roomy:=by unfold roomy;omega
 have r1:16≤roomy:=by unfold roomy;omega
 have O:=iC d
 have uS:(ints (cs.map Int.ofNat))[k]? =some (.i .i64 (f:Int)):=by
  subst hf
  simp[ints,hk]
 have hk1:k+1≤cs.length:=hk
 rcases hc with hc|hc
 ·have V:=fun kk=>hc.ia (sz:=1) (k:=k) (kk:=kk) (by rw[cD,List.length_map];omega) hk
  have W:(ints (cs.map Int.ofNat)).drop (k*1)= .i .i64 (f:Int)::(ints (cs.map Int.ofNat)).drop (k+1):=by
   rw[Nat.mul_one,List.drop_eq_getElem_cons (by simpa[ints]using hk)]
   simp[ints,hf]
  rw[W]at V
  rcases Z with⟨rfl,rfl⟩|⟨h0,rfl⟩
  ·have r:By lh 77 2 16 .nilsl (0,[])=some (.nilsl,lh):=rfl
   cases b
   all_goals
    simp(maxDischargeDepth:=6) only[qA,bp,gv,seval,aJ,dq,nQ,bO,h3,F,H,I,V,J,aad,r,appW,r1]
    refine⟨_,_,rfl,⟨86,(ab lh 86).g+1,.inr rfl, ?_, ?_⟩,fun j h1 h2=> ?_⟩
    ·simp only[qA,seval]
    ·simp only[qA,seval];rfl
    ·rw[bK _ _ h2]
  ·obtain⟨m,hm⟩: ∃m,d.length=m+1:=⟨d.length-1,by have:=List.length_pos_iff.2 h0;omega⟩
   rw[hm]at h3 O K N ⊢
   have X:0<(m+1):=zO
   cases b
   all_goals
    simp(maxDischargeDepth:=6) only[qA,bp,gv,seval,aJ,dq,nQ,bO,h3,F,H,I,V,J,appW,O,K,N]
    refine⟨_,_,rfl,⟨77,(ab lh 77).g+1+1,.inl rfl, ?_, ?_⟩,fun j h1 h2=> ?_⟩
    ·simp only[qA,seval]
    ·simp only[qA,seval];rw[D]
    ·simp only[qA,seval,h1]
 ·rcases hc with⟨h1,_,_⟩|⟨g2,wm,rfl,o48,aL6,_⟩
  ·omega
  rcases Z with⟨rfl,rfl⟩|⟨h0,rfl⟩
  ·have r:By lh 77 2 16 .nilsl (0,[])=some (.nilsl,lh):=rfl
   cases b
   all_goals
    simp(maxDischargeDepth:=6) only[qA,bp,gv,seval,aJ,dq,nQ,bO,h3,F,H,I,o48,uS,hk,J,aad,r,appW,r1]
    refine⟨_,_,rfl,⟨86,(ab lh 86).g+1,.inr rfl, ?_, ?_⟩,fun j h1 h2=> ?_⟩
    ·simp only[qA,seval]
    ·simp only[qA,seval];rfl
    ·rw[bK _ _ h2]
  ·obtain⟨m,hm⟩: ∃m,d.length=m+1:=⟨d.length-1,by have:=List.length_pos_iff.2 h0;omega⟩
   rw[hm]at h3 O K N ⊢
   have X:0<(m+1):=zO
   cases b
   all_goals
    simp(maxDischargeDepth:=6) only[qA,bp,wY,gv,seval,aJ,dq,nQ,bO,h3,F,H,I,o48,uS,hk,J,appW,O,K,N]
    refine⟨_,_,rfl,⟨77,(ab lh 77).g+1+1,.inl rfl, ?_, ?_⟩,fun j h1 h2=> ?_⟩
    ·simp only[qA,seval]
    ·simp only[qA,seval];rw[D]
    ·simp only[qA,seval,h1]
def LgQ(g:Lg)(c:List T):Prop:= ∃v,c=jl g v∧LgT g v
theorem LgQ.len(g:Lg)(c:List T)(h:LgQ g c):c.length=7:=by obtain⟨v,rfl,_⟩:=h;rfl
def Es(s:List ah)(D:T)(r:List Lg):Prop:=(D= .nilsl∧r= []∧s= [])∨ ∃g cs,D= .isl .S 0 g 0 r.length 7∧s= [⟨g,.cells cs 0 false⟩]∧aA LgQ r cs
section
variable(t:Tt)(c:Ct)(zT aT fT a7 a8 a9 a10 aw av:T)(hT:ow t zT aT fT)(hC:oP c a7 a8 a9 a10 aw av)(hA:OE c)(hL: ∀f∈t.fl,f.nu.length≤fj)(hK:eO t c=0)
include hT hC hA hL hK
theorem ex2(x:List (Int×Bool))(hx:mi c t.fl x=0)(j g:Nat)(hj:j=77∨j=86)(r:List Lg)(hb:r.length≤1000000000)(lv:T)(fr:Fr)(lh:aB ah)(s:List ah)(h2:aa fr 2=lv)(N:aa fr 7= .ptr .L 7 1 0)(O:aa fr 8= .ptr .L 8 1 0)(U:aa fr 19= .isl .L j g 0 x.length 2)(V:ab lh 7=⟨1,.cells [zT,aT,fT] 0 true⟩)(W:ab lh 8=⟨1,.cells (aR c a7 a8 a9 a10 aw av) 0 true⟩)(H:ab lh j=⟨g,.cells (gh x) 0 false⟩)(hE:Es s lv r):
  ∃f' X s',DC pE 111 (nQ (mL (dq bO))) ⟨fr,lh,s⟩=some (.nrm,⟨f',X,s'⟩)∧Es s' (aa f' 2) (r++if jL t c x=true then [cJ t c x]else [])∧(∃wm,ab X j=⟨g,.cells (gh x) wm false⟩)∧ ∀i,i≠20→i≠j→ab X i=ab lh i:=by
 obtain⟨x1,x6,_,_⟩:=vL hx
 have ee:=iC x
 have Y:Dq x (.sl (gh x) x.length false):=Dq.of (.inr ⟨_,rfl⟩)
 obtain⟨v,e1,e2⟩:=afG t c zT aT fT a7 a8 a9 a10 aw av hT hC hA hL x _ Y zO
 have Z:=zX t c zT aT fT a7 a8 a9 a10 aw av hT hC
 unfold RY am6 at e1 e2
 rw[if_neg (by simp[hK]),if_neg (by simp[hx])]at e1 e2
 have hv:=e2.froz1
 have hvc:=e2.cells
 have D:x.length*2≤(gh x).length:=zO
 have Af:(gh x).take (x.length*2)=gh x:=List.take_of_length_le zO
 have j7: ¬7=j:=zO
 have j8: ¬8=j:=zO
 have F: ¬20=j:=zO
 have Sn: ¬j=20:=zO
 have wg:repl [T.nilsl,.i .i64 0,.i .i64 0,.s [],.s [],.i .i64 0,.i .i64 0] 1= [T.nilsl,.i .i64 0,.i .i64 0,.s [],.s [],.i .i64 0,.i .i64 0]:=rfl
 unfold aR at*
 have r1:88≤roomy:=by unfold roomy;omega
 cases ho:jL t c x
 ·rw[ho]at e1 e2
  unfold jl at e1
  simp only[Bool.false_eq_true,if_false]at e1
  cases I:scalar (T.tup [T.agg [v,.i .i64 Er.rp,.i .i64 Er.rl,T.s Er.fr,T.s Er.to,.i .i64 Er.co,.i .i64 Er.cr],.i .i64 15])
  all_goals
   simp(maxDischargeDepth:=6) only[qA,seval,dq,nQ,mL,bO,N,O,U,V,W,H,Z,e1,UG,D,Af,I,F]
   refine⟨_,_,_,rfl, ?_, ?_,fun i J K=> ?_⟩
   ·simp(maxDischargeDepth:=6) only[qA,seval,h2];exact hE
   ·first|(refine⟨(gh x).length, ?_⟩;simp(maxDischargeDepth:=6) only[qA,seval,Sn];done)|(refine⟨0, ?_⟩;simp(maxDischargeDepth:=6) only[qA,seval,Sn,H];done)
   ·simp(maxDischargeDepth:=6) only[qA,seval,J,K]
 ·rw[ho]at e1 e2
  unfold jl at e1
  simp only[if_true]at e1 e2
  rcases hE with⟨rfl,rfl,rfl⟩|⟨g2,cs,rfl,rfl,b1⟩
  ·cases I:scalar (T.tup [T.agg [v,.i .i64 (cJ t c x).rp,.i .i64 (cJ t c x).rl,T.s (cJ t c x).fr,T.s (cJ t c x).to,.i .i64 (cJ t c x).co,.i .i64 (cJ t c x).cr],.i .i64 0])
   all_goals
    simp(maxDischargeDepth:=6) only[qA,eh,seval,dq,nQ,mL,bO,h2,N,O,U,V,W,H,Z,e1,UG,D,Af,hv,I,F,wg,cF,aP,cw,cX,r1]
    refine⟨_,_,_,rfl, ?_, ?_,fun i J K=> ?_⟩
    ·simp(maxDischargeDepth:=6) only[qA,seval]
     exact .inr ⟨1,_,rfl,rfl,aA.one ⟨v,rfl,e2⟩⟩
    ·first|(refine⟨(gh x).length, ?_⟩;simp(maxDischargeDepth:=6) only[qA,seval,Sn];done)|(refine⟨0, ?_⟩;simp(maxDischargeDepth:=6) only[qA,seval,Sn,H];done)
    ·simp(maxDischargeDepth:=6) only[qA,seval,J,K]
  ·have aL9:=b1.len LgQ.len
   have r2:(r.length+1)*88≤roomy:=by unfold roomy;omega
   have hcs:r.length*7=cs.length:=zO
   cases I:scalar (T.tup [T.agg [v,.i .i64 (cJ t c x).rp,.i .i64 (cJ t c x).rl,T.s (cJ t c x).fr,T.s (cJ t c x).to,.i .i64 (cJ t c x).co,.i .i64 (cJ t c x).cr],.i .i64 0])
   all_goals
    simp(maxDischargeDepth:=6) only[qA,eh,seval,dq,nQ,mL,bO,h2,N,O,U,V,W,H,Z,e1,UG,D,Af,hv,I,F,wg,cF,aP,cW,dR,bZ,r2,hcs]
    refine⟨_,_,_,rfl, ?_, ?_,fun i J K=> ?_⟩
    ·simp(maxDischargeDepth:=6) only[qA,seval]
     exact .inr ⟨g2+1,_,by rw[List.length_append];rfl,rfl,aA.append b1 (aA.one ⟨v,rfl,e2⟩)⟩
    ·first|(refine⟨(gh x).length, ?_⟩;simp(maxDischargeDepth:=6) only[qA,seval,Sn];done)|(refine⟨0, ?_⟩;simp(maxDischargeDepth:=6) only[qA,seval,Sn,H];done)
    ·simp(maxDischargeDepth:=6) only[qA,seval,J,K]
end
section
variable(t:Tt)(c:Ct)(zT aT fT a7 a8 a9 a10 aw av:T)(hT:ow t zT aT fT)(hC:oP c a7 a8 a9 a10 aw av)(mT nT:T)(hm:froz mT=true)(hn:froz nT=true)
include hT hC hm hn
theorem ex3(x:List (Int×Bool))(j g wm:Nat)(hj:j=77∨j=86)(I D:List Lg)(F:T)(H h H':Nat)(O:(H:Int)-(h:Int)=(H':Int))(U:H≤6∧h≤1)(fr:Fr)(lh:aB ah)(s:List ah)(h2:aa fr 2=F)(h4:aa fr 4=mT)(h5:aa fr 5=nT)(h6:aa fr 6= .i .i64 (H:Int))(V:aa fr 7= .ptr .L 7 1 0)(W:aa fr 8= .ptr .L 8 1 0)(X:aa fr 18= .i .i64 (h:Int))(Y:aa fr 19= .isl .L j g 0 x.length 2)(Z:ab lh 7=⟨1,.cells [zT,aT,fT] 0 true⟩)(o8:ab lh 8=⟨1,.cells (aR c a7 a8 a9 a10 aw av) 0 true⟩)(oj:ab lh j=⟨g,.cells (gh x) wm false⟩)(hE:Es s F I)
  (IH: ∃v r,ae pE 66 [.agg [zT,aT,fT],.agg (aR c a7 a8 a9 a10 aw av),F,.sl (gh x) x.length false,mT,nT,.i .i64 (H':Int)] s=some (v,r)∧Es r v D):
  ∃K N r,DC pE 111 (mL (mL (dq bO))) ⟨fr,lh,s⟩=some (.nrm,⟨K,N,r⟩)∧Es r (aa K 2) D∧ ∀i,i≠j→ab N i=ab lh i:=by
 have hz:=zX t c zT aT fT a7 a8 a9 a10 aw av hT hC
 obtain⟨v,r,e1,e2⟩:=IH
 have ee:=iC x
 have J:x.length*2≤(gh x).length:=zO
 have Af:(gh x).take (x.length*2)=gh x:=List.take_of_length_le zO
 have hw:wr .i64 ((H:Int)-(h:Int))=(H':Int):=by rw[bo zO,O]
 have SQ:fzV lh s true F=some (F,[]):=by
  rcases hE with⟨rfl,_,_⟩|⟨g2,cs,rfl,_,_⟩ <;> rfl
 unfold aR at*
 simp(maxDischargeDepth:=6) only[qA,yG,seval,dq,mL,bO,h2,h4,h5,h6,V,W,X,Y,Z,o8,oj,hz,e1,aDj,J,Af,hm,hn,hw,SQ]
 exact⟨_,_,_,rfl,by simp only[qA,seval];exact e2,fun i hi=>by rw[bK _ _ hi]⟩
end
theorem Kb(c:Ct)(fl:List Fl): ∀(d:List (Int×Bool)) (k l:Int×Bool),Ek c fl (d++ [k,l])=(Ek c fl (d++ [k])&&sX c fl k.1 l.1)
 | [],k,l=>by simp[Ek]
 | [a],k,l=>by simp[Ek]
 |a::b::r,k,l=>by
  have:=Kb c fl (b::r) k l
  simp only[List.cons_append]at this ⊢
  rw[Ek,Ek,this,Bool.and_assoc]
theorem aae(c:Ct)(fl:List Fl)(i:Int)(f:Nat):sX c fl i (f:Int)=jn c fl i.toNat f:=by
 unfold sX jn
 rw[Int.toNat_natCast]
 cases fl[i.toNat]? <;> cases fl[f]? <;> rfl
def qu(N:Nat)(J:Nat→Nat→Bool)(d:List (Int×Bool)):List Nat:=match d.getLast? with
 |none=>List.range N
 |some k=>dM N J k.1.toNat
theorem So(N:Nat)(J:Nat→Nat→Bool)(d:List (Int×Bool))(f:Nat)(b:Bool):qu N J (d++ [((f:Int),b)])=dM N J f:=by
 unfold qu;rw[List.getLast?_append];simp
theorem Pe(N:Nat)(J:Nat→Nat→Bool)(d:List (Int×Bool)){f:Nat}(h:f∈qu N J d):f<N:=by
 unfold qu at h
 split at h
 ·exact List.mem_range.1 h
 ·exact List.mem_range.1 (List.mem_filter.1 h).1
theorem aaf(N:Nat)(J:Nat→Nat→Bool)(d:List (Int×Bool)):(qu N J d).length≤N:=by
 unfold qu
 split
 ·rw[List.length_range];exact Nat.le_refl _
 ·exact xu _ _
theorem Sq(c:Ct)(fl:List Fl)(d:List (Int×Bool))(f:Nat)(b:Bool)(hd:d= []∨mi c fl d=0)(I:d.length≤5)(hf:f∈qu fl.length (jn c fl) d):mi c fl (d++ [((f:Int),b)])=0:=by
 have F:=Pe _ _ _ hf
 have r:sW fl.length (f:Int)=true:=by unfold sW;simpa using F
 have D:(d++ [((f:Int),b)]).all (fun k=>sW fl.length k.1)=true∧Ek c fl (d++ [((f:Int),b)])=true:=by
  rcases hd with rfl|hd
  ·exact⟨by simpa using r,by simp[Ek]⟩
  ·obtain⟨h1,h2,h3,h4⟩:=vL hd
   obtain⟨e,k,rfl⟩: ∃e k,d=e++ [k]:=⟨d.dropLast,d.getLast (by intro h;rw[h]at h1;simp at h1),(List.dropLast_concat_getLast _).symm⟩
   refine⟨?_, ?_⟩
   ·rw[List.all_append,Bool.and_eq_true]
    exact⟨List.all_eq_true.2 h3,by simpa using r⟩
   ·rw[List.append_assoc]
    show Ek c fl (e++ [k,((f:Int),b)])=true
    rw[Kb,h4,Bool.true_and,aae]
    unfold qu at hf
    rw[List.getLast?_append]at hf
    have H:f∈dM fl.length (jn c fl) k.1.toNat:=by simpa using hf
    exact(List.mem_filter.1 H).2
 unfold mi
 rw[List.length_append,List.length_singleton,if_neg zO,if_neg zO,if_pos D.1,if_pos D.2]
section
variable(t:Tt)(c:Ct)(zT aT fT a7 a8 a9 a10 aw av:T)(hT:ow t zT aT fT)(hC:oP c a7 a8 a9 a10 aw av)(hA:OE c)(hL: ∀f∈t.fl,f.nu.length≤fj)(hK:eO t c=0)(hN:t.fl.length≤1000)(mT nT:T)(hm:froz mT=true)(hn:froz nT=true)(aH:Nat→Bool)
 (eK: ∀f,f<t.fl.length→ ∃q,∀kk,dV mT (.i kk (f:Int)) 1=some (.vp (.b (aH f)::q))) (NJ:lenI mT=some (.i .i64 (t.fl.length:Int)))
 (fO: ∀f,f<t.fl.length→ ∃q,∀kk,dV nT (.i kk (f:Int)) 1=some (.vp (kS (dM t.fl.length (jn c t.fl) f)::q)))
def ExP(t:Tt)(c:Ct)(zT aT fT a7 a8 a9 a10 aw av mT nT:T)(aH:Nat→Bool)(n:Nat):Prop:=
 ∀(d:List (Int×Bool)) (D:T) (H:Nat) (s:List ah) (F:T) (r:List Lg),d.length+n=6→DtV d D→(d= []∨mi c t.fl d=0)→H≤6→Es s F r→r.length+((qu t.fl.length (jn c t.fl) d).flatMap fun f=>dF t.fl.length (jn c t.fl) aH (jL t c) (cJ t c) n d f H).length≤1000000000→
  ∃v I,ae pE 66 [.agg [zT,aT,fT],.agg (aR c a7 a8 a9 a10 aw av),F,D,mT,nT,.i .i64 (H:Int)] s=some (v,I)∧Es I v (r++(qu t.fl.length (jn c t.fl) d).flatMap fun f=>dF t.fl.length (jn c t.fl) aH (jL t c) (cJ t c) n d f H)
include hT hC hA hL hK hN hm hn
theorem azw(n:Nat)(IH:ExP t c zT aT fT a7 a8 a9 a10 aw av mT nT aH n)(d:List (Int×Bool))(V:T)(KT:DtV d V)(hd:d= []∨mi c t.fl d=0)(JS:d.length+(n+1)=6)(f:Nat)(b:Bool)(hf:f∈qu t.fl.length (jn c t.fl) d)(cs:List Nat)(k:Nat)(hk:k<cs.length)(Bt:cs[k]=f)(cv:T)(H H':Nat)(W:H≤6)(hH:H=H'+if b=true then 1 else 0)(X:T)(r:List Lg)(hb:r.length+(qt t.fl.length (jn c t.fl) (jL t c) (cJ t c) (dF t.fl.length (jn c t.fl) aH (jL t c) (cJ t c) n) (d++ [((f:Int),b)]) f H').length≤1000000000)
  (fr:Fr) (lh:aB ah) (s:List ah) (hc:GZ lh cv cs) (h2:aa fr 2=X) (h3:aa fr 3=V) (h4:aa fr 4=mT) (h5:aa fr 5=nT) (h6:aa fr 6= .i .i64 (H:Int)) (h7:aa fr 7= .ptr .L 7 1 0) (h8:aa fr 8= .ptr .L 8 1 0) (je:aa fr 15=cv) (j4:aa fr 17= .i .i64 (k:Int)) (fq:aa fr 18= .i .i64 (if b=true then 1 else 0)) (o7:ab lh 7=⟨1,.cells [zT,aT,fT] 0 true⟩) (o8:ab lh 8=⟨1,.cells (aR c a7 a8 a9 a10 aw av) 0 true⟩) (hE:Es s X r):
  ∃f' l' s',DC pE 111 (dq bO) ⟨fr,lh,s⟩=some (.nrm,⟨f',l',s'⟩)∧Es s' (aa f' 2) (r++qt t.fl.length (jn c t.fl) (jL t c) (cJ t c) (dF t.fl.length (jn c t.fl) aH (jL t c) (cJ t c) n) (d++ [((f:Int),b)]) f H')∧ ∀i,i≠77→i≠86→i≠20→ab l' i=ab lh i:=by
 have _:=hN
 have On:=Sq c t.fl d f b hd zO hf
 have J:=So t.fl.length (jn c t.fl) d f b
 have Y:(d++ [((f:Int),b)]).length=d.length+1:=by rw[List.length_append];rfl
 have Z:d++ [((f:Int),b)]≠ []:=xv
 obtain⟨f1,l1,e1,⟨j,g,F,D,kj⟩,O⟩:=ex1 d V KT zO f b cs k hk Bt cv fr lh s hc h3 je j4 fq
 rw[←Y]at D
 generalize d++ [((f:Int),b)]=x at*
 have U:=fun j F=>dY e1 j F
 unfold qt at hb ⊢
 rw[List.length_append]at hb
 obtain⟨f2,l2,s2,e2,K,⟨wm,kj2⟩,k2⟩:=ex2 t c zT aT fT a7 a8 a9 a10 aw av hT hC hA hL hK x On j g F r zO X f1 l1 s ((U 2 yv).trans h2) ((U 7 yv).trans h7) ((U 8 yv).trans h8) D ((O 7 yv yv).trans o7) ((O 8 yv yv).trans o8) kj hE
 have p2:=fun j F=>dY e2 j F
 have I: ∀j v,(jh (nQ (dq bO))).contains j=false→(jh (nQ (mL (dq bO)))).contains j=false→aa fr j=v→aa f2 j=v:=fun j v a1 a2 e=>(p2 j a2).trans ((U j a1).trans e)
 have to: ∀i v,i≠77→i≠86→i≠20→ab lh i=v→ab l2 i=v:=fun i v a1 a2 a3 e=>(k2 i a3 zO).trans ((O i a1 a2).trans e)
 obtain⟨v3,s3,d3,N⟩:=IH x (.sl (gh x) x.length false) H' s2 _ _ zO (.inr ⟨Z,rfl⟩) (.inr On) zO K (by rw[J,List.length_append];omega)
 rw[J,List.append_assoc]at N
 obtain⟨f3,l3,s4,e3,hE4,k3⟩:=ex3 t c zT aT fT a7 a8 a9 a10 aw av hT hC mT nT hm hn x j g wm F _ _ _ H (if b=true then 1 else 0) H' (by rw[hH];cases b <;> simp) ⟨W,by cases b <;> simp⟩ f2 l2 s2 rfl (I 4 _ yv yv h4) (I 5 _ yv yv h5) (I 6 _ yv yv h6) (I 7 _ yv yv h7) (I 8 _ yv yv h8) (by rw[I 18 _ yv yv fq];cases b <;> rfl) ((p2 19 yv).trans D) (to 7 _ yv yv yv o7) (to 8 _ yv yv yv o8) kj2 K ⟨v3,s3,d3,N⟩
 refine⟨f3,l3,s4, ?_,hE4,fun i i1 i2 i3=>(k3 i zO).trans ((k2 i i3 zO).trans (O i i1 i2))⟩
 rw[Sl,qP,e1,fQ,qP]
 have e2':DC pE 111 (.seq (nQ (nQ (mL (dq bO)))) (mL (nQ (mL (dq bO))))) ⟨f1,l1,s⟩=some (.nrm,⟨f2,l2,s2⟩):=e2
 rw[e2',fQ,e3]
include eK
theorem azx(n:Nat)(IH:ExP t c zT aT fT a7 a8 a9 a10 aw av mT nT aH n)(d:List (Int×Bool))(dT:T)(KT:DtV d dT)(hd:d= []∨mi c t.fl d=0)(JS:d.length+(n+1)=6)(f:Nat)(hf:f∈qu t.fl.length (jn c t.fl) d)(cs:List Nat)(k:Nat)(hk:k<cs.length)(Bt:cs[k]=f)(cv:T)(H:Nat)(hH6:H≤6)(F:List Lg)(hb:F.length+(dF t.fl.length (jn c t.fl) aH (jL t c) (cJ t c) (n+1) d f H).length≤1000000000)
  (fr:Fr) (lh:aB ah) (s:List ah) (hc:GZ lh cv cs) (h3:aa fr 3=dT) (h4:aa fr 4=mT) (h5:aa fr 5=nT) (h6:aa fr 6= .i .i64 (H:Int)) (h7:aa fr 7= .ptr .L 7 1 0) (h8:aa fr 8= .ptr .L 8 1 0) (je:aa fr 15=cv) (j4:aa fr 17= .i .i64 (k:Int)) (fq:aa fr 18= .i .i64 0) (o7:ab lh 7=⟨1,.cells [zT,aT,fT] 0 true⟩) (o8:ab lh 8=⟨1,.cells (aR c a7 a8 a9 a10 aw av) 0 true⟩) (hE:Es s (aa fr 2) F):
  Lp pE 111 bO fr lh s (.ext 4) fun K N Y=>Es Y (aa K 2) (F++dF t.fl.length (jn c t.fl) aH (jL t c) (cJ t c) (n+1) d f H)∧ ∀i,i≠77→i≠86→i≠20→ab N i=ab lh i:=by
 obtain⟨q,aQ⟩:=eK f (Pe _ _ _ hf)
 have ht:=fun b H' hH=>azw t c zT aT fT a7 a8 a9 a10 aw av hT hC hA hL hK hN mT nT hm hn aH n IH d dT KT hd JS f b hf cs k hk Bt cv H H' hH6 hH
 have hwt:=Sk
 have hwr: ∀j,(jh (dq bO)).contains j=false→ ∀(fr bE:Fr) lh s N Y,DC pE 111 (dq bO) ⟨fr,lh,s⟩=some (.nrm,⟨bE,N,Y⟩)→aa bE j=aa fr j:=fun j hj fr bE lh s N Y e=>dY e j hj
 have anC:=hwr 18 yv
 refine bV aag (fun k K N Y=>aa K 18= .i .i64 (k:Int)∧Es Y (aa K 2) (F++if k=0 then []else if k=1 then(if aH f=true then qt t.fl.length (jn c t.fl) (jL t c) (cJ t c) (dF t.fl.length (jn c t.fl) aH (jL t c) (cJ t c) n) (d++ [((f:Int),false)]) f H else [])else dF t.fl.length (jn c t.fl) aH (jL t c) (cJ t c) (n+1) d f H)∧ ∀i,i≠77→i≠86→i≠20→ab N i=ab lh i) 2 ⟨fq,by simpa using hE,fun _ _ _ _=>rfl⟩ ?_ ?_
 ·rintro h K N Y hh r ⟨tG,O,J⟩
  have p7:=(J 7 yv yv yv).trans o7
  have p8:=(J 8 yv yv yv).trans o8
  have U:GZ N cv cs:=hc.imp id fun h=>h.congr (J 48 yv yv yv)
  have I:(∃q2,∀kk,dV cv (.i kk (k:Int)) 1=some (.vp (.i .i64 (f:Int)::q2)))∨ ∃g wm n cc,cv= .isl .L 48 g 0 n 1∧k<n∧ab N 48=⟨g,.cells cc wm false⟩∧cc[k]? =some (.i .i64 (f:Int))∧k+1≤cc.length:=by
   have uS:(ints (cs.map Int.ofNat))[k]? =some (.i .i64 (f:Int)):=by
    subst Bt
    simp[ints,hk]
   rcases U with h|⟨h,_,_⟩|⟨g,wm,h1,h2,h3,h4⟩
   ·refine .inl ⟨(ints (cs.map Int.ofNat)).drop (k+1),fun kk=> ?_⟩
    rw[h.ia (sz:=1) (k:=k) (kk:=kk) (by rw[cD,List.length_map];omega) hk,Nat.mul_one,List.drop_eq_getElem_cons (by simpa[ints]using hk)]
    simp[ints,Bt]
   ·omega
   ·exact .inr ⟨g,wm,_,_,h1,hk,h2,uS,by rw[h3];omega⟩
  have Aj:h=0∨h=1:=zO
  rcases Aj with rfl|rfl
  ·have Kc:aa K 18= .i .i64 0:=tG
   have Vw: ¬(H:Int)<0:=zO
   rw[if_pos rfl,List.append_nil]at O
   rw[if_neg yv,if_pos rfl]
   rw[dF,List.length_append]at hb
   rw[hwt]
   cases hi:aH f
   ·rw[hi]at aQ
    generalize dq bO=X at*
    rcases I with⟨q2,I⟩|⟨g9,wm9,n9,cc9,rfl,hk9,o48,hcc,ee⟩
    ·simp(maxDischargeDepth:=6) only[qA,seval,gd,bO,tS,r,h4,je,j4,Kc,aQ,I]
     exact⟨O,J⟩
    ·simp(maxDischargeDepth:=6) only[qA,seval,gd,bO,tS,r,h4,je,j4,Kc,aQ,hk9,o48,hcc]
     exact⟨O,J⟩
   ·rw[hi]at aQ
    rw[hi,if_pos rfl]at hb
    have V:=ht false H xv (aa K 2) F zO
    generalize dq bO=X at*
    rcases I with⟨q2,I⟩|⟨g9,wm9,n9,cc9,rfl,hk9,o48,hcc,ee⟩
    ·skip
     simp(maxDischargeDepth:=6) only[qA,seval,bO,tS,r,h4,h6,je,j4,Kc,aQ,Vw,I]
     generalize hD:DC pE 111 X _=D
     obtain⟨f2,l2,s2,rfl,⟨Ai,k2⟩,e2⟩:=J9 hD (V _ _ _ U wL (by simp only[qA,seval,r,h3]) (by simp only[qA,seval,r,h4]) (by simp only[qA,seval,r,h5]) (by simp only[qA,seval,r,h6]) (by simp only[qA,seval,r,h7]) (by simp only[qA,seval,r,h8]) (by simp only[qA,seval,r,je]) (by simp only[qA,seval,r,j4]) (by simp only[qA,seval,Kc]) p7 p8 O)
     have g2:=(anC _ _ _ _ _ _ e2).trans (show _=_ by simp only[qA,seval,Kc];rfl)
     simp(maxDischargeDepth:=6) only[qA,seval,gd,g2]
     exact⟨by simpa only[List.append_assoc]using Ai,fun i Z i2 i3=>(k2 i Z i2 i3).trans (J i Z i2 i3)⟩
    ·skip
     simp(maxDischargeDepth:=6) only[qA,seval,bO,tS,r,h4,h6,je,j4,Kc,aQ,Vw,hk9,o48,hcc]
     generalize hD:DC pE 111 X _=D
     obtain⟨f2,l2,s2,rfl,⟨Ai,k2⟩,e2⟩:=J9 hD (V _ _ _ U wL (by simp only[qA,seval,r,h3]) (by simp only[qA,seval,r,h4]) (by simp only[qA,seval,r,h5]) (by simp only[qA,seval,r,h6]) (by simp only[qA,seval,r,h7]) (by simp only[qA,seval,r,h8]) (by simp only[qA,seval,r,je]) (by simp only[qA,seval,r,j4]) (by simp only[qA,seval,Kc]) p7 p8 O)
     have g2:=(anC _ _ _ _ _ _ e2).trans (show _=_ by simp only[qA,seval,Kc];rfl)
     simp(maxDischargeDepth:=6) only[qA,seval,gd,g2]
     exact⟨by simpa only[List.append_assoc]using Ai,fun i Z i2 i3=>(k2 i Z i2 i3).trans (J i Z i2 i3)⟩
  ·have W:aa K 18= .i .i64 1:=tG
   rw[if_neg yv,if_pos rfl]at O
   rw[if_neg yv,if_neg yv]
   rw[hwt]
   rw[dF]at hb ⊢
   generalize hAA:(if aH f=true then qt t.fl.length (jn c t.fl) (jL t c) (cJ t c) (dF t.fl.length (jn c t.fl) aH (jL t c) (cJ t c) n) (d++ [((f:Int),false)]) f H else [])=A at*
   rw[List.length_append]at hb
   by_cases hz:H=0
   ·subst hz
    have Dy:aa fr 6= .i .i64 0:=h6
    generalize dq bO=X at*
    simp(maxDischargeDepth:=6) only[qA,seval,gd,bO,tS,r,Dy,W]
    exact⟨by simpa using O,J⟩
   ·obtain⟨m,rfl⟩: ∃m,H=m+1:=⟨H-1,by omega⟩
    rw[if_neg hz]at hb ⊢
    rw[Nat.add_sub_cancel]at hb ⊢
    have Vw: ¬((m+1:Nat):Int)<1:=zO
    have V:=ht true m xv (aa K 2) (F++A) (by rw[List.length_append];omega)
    generalize dq bO=X at*
    ·skip
     simp(maxDischargeDepth:=6) only[qA,seval,bO,tS,r,h6,W,Vw]
     generalize hD:DC pE 111 X _=D
     obtain⟨f2,l2,s2,rfl,⟨Ai,k2⟩,e2⟩:=J9 hD (V _ _ _ U wL (by simp only[qA,seval,r,h3]) (by simp only[qA,seval,r,h4]) (by simp only[qA,seval,r,h5]) (by simp only[qA,seval,r,h6]) (by simp only[qA,seval,r,h7]) (by simp only[qA,seval,r,h8]) (by simp only[qA,seval,r,je]) (by simp only[qA,seval,r,j4]) (by simp only[qA,seval,W]) p7 p8 O)
     have g2:=(anC _ _ _ _ _ _ e2).trans (show _=_ by simp only[qA,seval,W];rfl)
     simp(maxDischargeDepth:=6) only[qA,seval,gd,g2]
     exact⟨by simpa only[List.append_assoc]using Ai,fun i Z i2 i3=>(k2 i Z i2 i3).trans (J i Z i2 i3)⟩
 ·rintro K N Y r ⟨tG,O,J⟩
  have Lj: ¬((2:Nat):Int)<2:=yv
  simp only[qA,seval,gd,bO,tG]
  exact⟨by simpa using O,J⟩
omit hT hC hA hL hK hN hm hn eK in
theorem GZ.lenI{lh:aB ah}{cv:T}{cs:List Nat}(h:GZ lh cv cs):lenI cv=some (.i .i64 (cs.length:Int)):=by
 rcases h with h|h
 ·exact h.lenI
 ·exact h.lenI
theorem anD(n:Nat)(IH:ExP t c zT aT fT a7 a8 a9 a10 aw av mT nT aH n)(d:List (Int×Bool))(X:T)(KT:DtV d X)(hd:d= []∨mi c t.fl d=0)(JS:d.length+(n+1)=6)(cs:List Nat)(O:cs=qu t.fl.length (jn c t.fl) d)(cv:T)(H:Nat)(Y:H≤6)(r:List Lg)(hb:r.length+(cs.flatMap fun f=>dF t.fl.length (jn c t.fl) aH (jL t c) (cJ t c) (n+1) d f H).length≤1000000000)
  (fr:Fr) (lh:aB ah) (s:List ah) (hc:GZ lh cv cs) (h3:aa fr 3=X) (h4:aa fr 4=mT) (h5:aa fr 5=nT) (h6:aa fr 6= .i .i64 (H:Int)) (h7:aa fr 7= .ptr .L 7 1 0) (h8:aa fr 8= .ptr .L 8 1 0) (Z:aa fr 15=cv) (j4:aa fr 17= .i .i64 0) (o7:ab lh 7=⟨1,.cells [zT,aT,fT] 0 true⟩) (o8:ab lh 8=⟨1,.cells (aR c a7 a8 a9 a10 aw av) 0 true⟩) (hE:Es s (aa fr 2) r):
  Lp pE 111 wv fr lh s (.ext 2) fun J K U=>Es U (aa J 2) (r++cs.flatMap fun f=>dF t.fl.length (jn c t.fl) aH (jL t c) (cJ t c) (n+1) d f H):=by
 have ee:cs.length≤1000:=by rw[O];exact Nat.le_trans (aaf _ _ _) hN
 refine bV Kd (fun k J K U=>aa J 17= .i .i64 (k:Int)∧Es U (aa J 2) (r++(cs.take k).flatMap fun f=>dF t.fl.length (jn c t.fl) aH (jL t c) (cJ t c) (n+1) d f H)∧ ∀i,i≠77→i≠86→i≠20→ab K i=ab lh i) cs.length ⟨j4,by simpa using hE,fun _ _ _ _=>rfl⟩ ?_ ?_
 ·rintro k J K U hk F ⟨GL,W,N⟩
  have aN:(k:Int)<cs.length:=zO
  have hw:=aI (k:=k) zO
  have p7:=(N 7 yv yv yv).trans o7
  have p8:=(N 8 yv yv yv).trans o8
  have I:GZ K cv cs:=hc.imp id fun h=>h.congr (N 48 yv yv yv)
  have dm:=I.lenI
  have qU:(cs.take (k+1)).flatMap (fun f=>dF t.fl.length (jn c t.fl) aH (jL t c) (cJ t c) (n+1) d f H)=(cs.take k).flatMap (fun f=>dF t.fl.length (jn c t.fl) aH (jL t c) (cJ t c) (n+1) d f H)++dF t.fl.length (jn c t.fl) aH (jL t c) (cJ t c) (n+1) d cs[k] H:=by
   rw[List.take_succ_eq_append_getElem hk,List.flatMap_append]
   simp
  have hle:(r++(cs.take k).flatMap fun f=>dF t.fl.length (jn c t.fl) aH (jL t c) (cJ t c) (n+1) d f H).length+(dF t.fl.length (jn c t.fl) aH (jL t c) (cJ t c) (n+1) d cs[k] H).length≤1000000000:=by
   have h1:(cs.flatMap fun f=>dF t.fl.length (jn c t.fl) aH (jL t c) (cJ t c) (n+1) d f H).length=((cs.take (k+1)).flatMap fun f=>dF t.fl.length (jn c t.fl) aH (jL t c) (cJ t c) (n+1) d f H).length+((cs.drop (k+1)).flatMap fun f=>dF t.fl.length (jn c t.fl) aH (jL t c) (cJ t c) (n+1) d f H).length:=by
    rw[←List.length_append,←List.flatMap_append,List.take_append_drop]
   rw[qU,List.length_append]at h1
   rw[List.length_append]
   omega
  have V:=azx t c zT aT fT a7 a8 a9 a10 aw av hT hC hA hL hK hN mT nT hm hn aH eK n IH d X KT hd JS cs[k] (by rw[←O];exact List.getElem_mem hk) cs k hk rfl cv H Y _ hle
  rw[List.append_assoc,←qU]at V
  simp(maxDischargeDepth:=6) only[qA,seval,wv,F,Z,GL,dm,aN]
  generalize hD:DC pE 111 (.loop bO) _=D
  obtain⟨f2,l2,s2,rfl,⟨Ai,k2⟩,iH⟩:=sZ aag hD (V _ _ _ I (by simp only[qA,seval,F,h3]) (by simp only[qA,seval,F,h4]) (by simp only[qA,seval,F,h5]) (by simp only[qA,seval,F,h6]) (by simp only[qA,seval,F,h7]) (by simp only[qA,seval,F,h8]) (by simp only[qA,seval,F,Z]) (by simp only[qA,seval,GL]) wL p7 p8 (by simp only[qA,seval];exact W))
  have g2:aa f2 17= .i .i64 (k:Int):=by rw[iH 17 yv];simp only[qA,seval,GL]
  simp(maxDischargeDepth:=6) only[qA,seval,gd,g2,hw]
  exact⟨Ai,fun i i1 i2 i3=>(k2 i i1 i2 i3).trans (N i i1 i2 i3)⟩
 ·rintro J K U F ⟨GL,W,N⟩
  have I:GZ K cv cs:=hc.imp id fun h=>h.congr (N 48 yv yv yv)
  have dm:=I.lenI
  rw[List.take_length]at W
  simp only[qA,seval,gd,wv,F,Z,GL,dm,Int.lt_irrefl]
  exact W
omit hT hC hA hL hK hm hn eK in
theorem anE(NJ:lenI mT=some (.i .i64 (t.fl.length:Int)))(fr:Fr)(lh:aB ah)(s:List ah)(h4:aa fr 4=mT)(V:aa fr 15= .nilsl)(W:aa fr 16= .i .i64 0):
  Lp pE 111 AN fr lh s (.ext 0) fun D r I=>I=s∧bt r (aa D 15) 48 1 (List.range t.fl.length).length (ints ((List.range t.fl.length).map Int.ofNat))∧ ∀i,i≠48→ab r i=ab lh i:=by
 refine bV aah (fun k D r I=>aa D 16= .i .i64 (k:Int)∧I=s∧bt r (aa D 15) 48 1 k (ints ((List.range k).map Int.ofNat))∧ ∀i,i≠48→ab r i=ab lh i) t.fl.length ⟨W,rfl,by rw[V];exact bt.nil,fun _ _=>rfl⟩ ?_ ?_
 ·rintro k D r _ hk J ⟨Ad,rfl,F,K⟩
  have X:(k:Int)<t.fl.length:=zO
  have Y:=aI (k:=k) zO
  have N:=fun(Z:aB ah) (aY:List ah) (e:ab Z 48=ab r 48)=>fk (sh:=aY) (F.congr e) [.i .i64 (k:Int)] rfl (bytes:=8) (by unfold roomy;omega) true
  have O:=F.notS
  obtain⟨v15,H⟩: ∃v,aa D 15=v:=⟨_,rfl⟩
  rw[H]at F N O
  have qU:ints ((List.range (k+1)).map Int.ofNat)=ints ((List.range k).map Int.ofNat)++ [.i .i64 (k:Int)]:=by rw[List.range_succ];simp[ints]
  rw[qU]
  simp(maxDischargeDepth:=6) only[qA,seval,gd,AN,J,h4,Ad,NJ,X,Y,H,N,O,repl]
  exact fun j U=>((N r _ rfl).2.2 j U).trans (K j U)
 ·rintro D r _ J ⟨Ad,rfl,F,K⟩
  simp only[qA,seval,gd,AN,J,h4,Ad,NJ,Int.lt_irrefl]
  exact⟨by rw[List.length_range];exact F,K⟩
include NJ fO
theorem aai: ∀n,ExP t c zT aT fT a7 a8 a9 a10 aw av mT nT aH n
 |0=>by
  intro d Y H s J F JS KT Z hH N hb
  have hz:=zX t c zT aT fT a7 a8 a9 a10 aw av hT hC
  have dm:lenI Y=some (.i .i64 6):=by
   rcases KT with⟨rfl,rfl⟩|⟨_,rfl⟩
   ·simp at JS
   ·have:d.length=6:=zO
    rw[this];rfl
  have gq:((qu t.fl.length (jn c t.fl) d).flatMap fun f=>dF t.fl.length (jn c t.fl) aH (jL t c) (cJ t c) 0 d f H)= []:=by
   simp[dF]
  have SQ: ∀lh,fzV lh s true J=some (J,[]):=fun lh=>by
   rcases N with⟨rfl,_,_⟩|⟨g2,cs,rfl,_,_⟩ <;> rfl
  rw[gq,List.append_nil]
  unfold aR at*
  rw[an Qb (by simp[c66])]
  simp(maxDischargeDepth:=6) only[qA,seval,c66,dm,SQ]
  exact⟨_,_,rfl,N⟩
 |n+1=>by
  have IH:=aai n
  intro d Y H s J F JS KT Z hH N hb
  have hz:=zX t c zT aT fT a7 a8 a9 a10 aw av hT hC
  have U:=fun cs V cv=>anD t c zT aT fT a7 a8 a9 a10 aw av hT hC hA hL hK hN mT nT hm hn aH eK n IH d Y KT Z JS cs V cv H hH F (by rw[V];exact hb)
  have SQ: ∀lh s J F,Es s J F→fzV lh s true J=some (J,[]):=fun lh s J F N=>by
   rcases N with⟨rfl,_,_⟩|⟨g2,cs,rfl,_,_⟩ <;> rfl
  generalize W:qu t.fl.length (jn c t.fl) d=can at*
  rcases KT with⟨rfl,rfl⟩|⟨h0,rfl⟩
  ·have hL3:=fun fr lh s=>anE t hN mT NJ fr lh s
   unfold aR at*
   rw[an Qb (by simp[c66])]
   simp(maxDischargeDepth:=6) only[qA,seval,c66]
   generalize O:DC pE 111 (.loop AN) _=D
   obtain⟨K,l3,s3,rfl,⟨rfl,hO,k3⟩,CX⟩:=sZ aah O (hL3 _ _ _ wL wL wL)
   have g2:aa K 2=J:=by rw[CX 2 yv];simp only[qA,seval]
   have g3:aa K 3= .nilsl:=by rw[CX 3 yv];simp only[qA,seval]
   have g4:aa K 4=mT:=by rw[CX 4 yv];simp only[qA,seval]
   have g5:aa K 5=nT:=by rw[CX 5 yv];simp only[qA,seval]
   have g6:aa K 6= .i .i64 (H:Int):=by rw[CX 6 yv];simp only[qA,seval]
   have g7:aa K 7= .ptr .L 7 1 0:=by rw[CX 7 yv];simp only[qA,seval]
   have g8:aa K 8= .ptr .L 8 1 0:=by rw[CX 8 yv];simp only[qA,seval]
   have q7:ab l3 7=⟨1,.cells [zT,aT,fT] 0 true⟩:=by rw[k3 7 yv];simp only[qA,seval]
   have q8:ab l3 8=⟨1,.cells [.i .i64 c.rp,.i .i64 c.rl,.i .i64 c.cn,.i .i64 c.st,.i .i64 c.ly,.i .i64 c.nf,.i .i64 c.nt,a7,a8,a9,a10,aw,av,.i .i64 c.gu] 0 true⟩:=by rw[k3 8 yv];simp only[qA,seval]
   have NG:can=List.range t.fl.length:=by rw[←W];rfl
   clear CX O
   simp(maxDischargeDepth:=6) only[qA,seval]
   generalize O:DC pE 111 (.loop wv) _=D
   obtain⟨f4,l4,s4,rfl,r,pr4⟩:=sZ Kd O (U can rfl (aa K 15) _ _ _ (.inr (by rw[NG];exact hO)) (by simp only[qA,seval,g3]) (by simp only[qA,seval,g4]) (by simp only[qA,seval,g5]) (by simp only[qA,seval,g6]) (by simp only[qA,seval,g7]) (by simp only[qA,seval,g8]) wL wL q7 q8 (by simp only[qA,seval,g2];exact N))
   have I:=fun lh=>SQ lh _ _ _ r
   obtain⟨v4,e4⟩: ∃v,aa f4 2=v:=⟨_,rfl⟩
   rw[e4]at r I
   simp(maxDischargeDepth:=6) only[qA,seval,e4,I]
   exact⟨_,_,rfl,r⟩
  ·obtain⟨e,k,rfl⟩: ∃e k,d=e++ [k]:=⟨d.dropLast,d.getLast h0,(List.dropLast_concat_getLast h0).symm⟩
   have aHh:=Z.resolve_left h0
   obtain⟨h1,h2,h3,h4⟩:=vL aHh
   obtain⟨f,hf,Bt⟩:=Gx (h3 k xv)
   have X:(e++ [k]).length=e.length+1:=by rw[List.length_append];rfl
   have hcn:can=dM t.fl.length (jn c t.fl) f:=by rw[←W];unfold qu;rw[List.getLast?_append];simp[Bt]
   obtain⟨q,hq⟩:=fO f hf
   have ee:=iC (e++ [k])
   have hdr:(gh (e++ [k])).drop (e.length*2)= [.i .i64 (f:Int),.b k.2]:=by
    rw[Ac,List.drop_append,iC,Nat.sub_self,List.drop_of_length_le (by rw[iC];omega),List.nil_append,List.drop_zero,←Bt]
    rfl
   have aQ: ∀kk,dV (.sl (gh (e++ [k])) (e.length+1) false) (.i kk (e.length:Int)) 2=some (.vp [.i .i64 (f:Int),.b k.2]):=fun kk=>by
    rw[di,if_pos ⟨by omega,by simp,by rw[ee,X];simp⟩,Int.toNat_natCast,hdr]
   have hw:wr .i64 (((e.length+1:Nat):Int)-1)=(e.length:Int):=by rw[bo zO];omega
   have dm:lenI (T.sl (gh (e++ [k])) (e.length+1) false)=some (.i .i64 ((e.length+1:Nat):Int)):=rfl
   have h6: ¬((e.length+1:Nat):Int)=6:=zO
   have JN:(0:Int)<((e.length+1:Nat):Int):=zO
   rw[X]at*
   have vv:IsSl (kS can) can.length (ints (can.map Int.ofNat)):=by
    unfold kS
    split
    ·rename_i h;rw[h];exact .inl ⟨rfl,rfl,rfl⟩
    ·exact .inr ⟨_,rfl⟩
   rw[←hcn]at hq
   unfold aR at*
   rw[an Qb (by simp[c66])]
   simp(maxDischargeDepth:=6) only[qA,seval,c66,dm,h6,JN,hw,aQ,hq]
   generalize O:DC pE 111 (.loop wv) _=D
   obtain⟨f4,l4,s4,rfl,r,pr4⟩:=sZ Kd O (U can rfl (kS can) _ _ _ (.inl vv) (by simp only[qA,seval];rw[List.length_append];rfl) wL wL wL wL wL wL wL wL wL (by simp only[qA,seval];exact N))
   have I:=fun lh=>SQ lh _ _ _ r
   obtain⟨v4,e4⟩: ∃v,aa f4 2=v:=⟨_,rfl⟩
   rw[e4]at r I
   simp(maxDischargeDepth:=6) only[qA,seval,e4,I]
   exact⟨_,_,rfl,r⟩
end
end Go.Proofs.YtcpceiclnbmgiaaGreat
