/- Walks of functions of the program and of the reference, and their plain laws, part 34. Conditions: the theorems' own. -/
import Derived.Test.YtcpceiclnbmgiaaGreatM33
import Derived.KernelRfl
set_option maxRecDepth 100000
set_option linter.unusedSimpArgs false
set_option linter.unusedVariables false
set_option maxHeartbeats 16000000
namespace Go.Proofs.YtcpceiclnbmgiaaGreat
open Go Go.Ev
def qz(b:Nat→Int):List T:=jB (rU b) (TE b) (LR (rU b).ru.length ((rU b).ru.flatMap pF)) (LR (rU b).co.length ((rU b).co.flatMap vD)) (LR (rU b).cr.length ((rU b).cr.flatMap nR)) .nilsl .nilsl
theorem auQ(b:Nat→Int): ∃s,be pE 47 [.s (qg (SU b))] []=some (.tup [.agg (qz b),.i .i64 0,.i .i64 0],s):=by
 obtain⟨K,N⟩:=ak9 b
 have hl:=Qq b
 have O:Nv (rU b):=Y6 _ (YL b) _ _ _ (lG _ _ _) (lG _ _ _) (EP b).1
 have D:=ala b
 have hs:qo (rU b)=true:=by
  by_cases h:qo (rU b)=true
  ·exact h
  ·unfold m5 at D
   simp[h]at D
   split at D <;> simp at D
 have H:=Y7 (rU b) _ _ _ _ _ _ (agx b) (O.sm hs)
 rw[D]at H
 have Rp:(rU b).cr.length≤1:=(EP b).2
 have hc:(rU b).cr.flatMap nR= []∨((rU b).cr.flatMap nR).length=4:=by
  cases h:(rU b).cr with
  |nil=>exact .inl rfl
  |cons x r=>
   rw[h]at Rp
   have:r= []:=List.length_eq_zero_iff.1 (by simpa using Rp)
   subst this
   exact .inr (by simp[zW])
 have I:=fun q lh=>ak7 (iY:=TE b) (sn:=snU) (x0:= .i .i64 (rpB (kB b 0))) (x1:= .i .i64 (rlB (kB b 1))) (x2:= .i .i64 (NT (kB b 2))) (x3:= .i .i64 (FI (kB b 3))) (x4:= .i .i64 (lyB (kB b 4))) (x5:= .i .i64 (nfB (kB b 5))) (x6:= .i .i64 (ntB (kB b 5))) (hx:=⟨rfl,rfl,rfl,rfl,rfl,rfl,rfl,rfl⟩) (n:=(rU b).ru.length) (m:=(rU b).co.length) (rs:=(rU b).ru.flatMap pF) (ks:=(rU b).co.flatMap vD) (cr:=(rU b).cr.flatMap nR) (hr:=pO (fun u=>by unfold pF;rw[List.length_cons,List.length_cons,zW]) _) (hk:=pO (fun u=>by unfold vD;rw[List.length_cons,zW]) _) (hc:=hc) (q:=q) (lh:=lh)
 have F:(if(rU b).cr.flatMap nR= []then 0 else 1)=(rU b).cr.length:=by
  cases h:(rU b).cr with
  |nil=>rfl
  |cons x r=>
   rw[h]at Rp
   have:r= []:=List.length_eq_zero_iff.1 (by simpa using Rp)
   subst this
   obtain⟨d,e,_⟩:=jb x
   rw[List.flatMap_cons,e]
   rfl
 simp only[F]at I
 have J:=ak6 b
 unfold auP at J
 exact Y5 (SU b) K N (by omega) _ (qz b) _ rfl (fun q lh=>I q lh) J _ H
theorem alb(xs:List Int)(la:T)(hl:IsSl la xs.length (ints xs)):be pE 20 [la] []=some (.agg (qz (jw xs)),[]):=by
 obtain⟨s,H⟩:=auQ (jw xs)
 have I:=ady xs la hl
 have J:=hl.froz
 have r:(qz (jw xs)).length=14:=rfl
 have K:(qz (jw xs)).all froz1=true:=by
  unfold qz jB TE LR
  repeat' split
  all_goals rfl
 have I6:(qz (jw xs)).take 14=qz (jw xs):=by rw[←r];exact List.take_length
 have D:=rW [T.i IntKind.i64 0,T.i IntKind.i64 0,T.i IntKind.i64 0,T.i IntKind.i64 0,T.i IntKind.i64 0,T.i IntKind.i64 0,T.i IntKind.i64 0,T.nilsl,T.nilsl,T.nilsl,T.nilsl,T.nilsl,T.nilsl,T.i IntKind.i64 0] (qz (jw xs)) (by rw[r];rfl)
 generalize qz (jw xs)=cs at*
 have F:=fun m lh sh keep=>D9 (m:=m) (lh:=lh) (sh:=sh) (keep:=keep) K
 rw[il ag9 (by simp[c20])]
 simp(maxDischargeDepth:=6) only[qA,seval,c20,repl,I,H,J,axQ,axP,r,I6,D,F]
end Go.Proofs.YtcpceiclnbmgiaaGreat
namespace Go.Ev
open Go
def Oj(lh:iq b8)(sh:List b8)(args:List T):List (Sp×Nat):=(ja (fz false iG) args).log (St.mk .nil lh sh).get sh.length
theorem S1(r:List (Sp×Nat)):ml r []=true:=by unfold ml;rw[List.all_eq_true];intro x _;rfl
theorem Qs{E:Env}{call:qa}{n:Nat}{fr:Fr}{lh:iq b8}{sh:List b8}{ds:List (List Nat×dy)}{jN:List FP}{u:List Nat}{d:Option Nat}{f:Nat}{af:ib}{i:List iF}{args:List T}(D:E.fn f=some af)(F:af.eff=false)(H:af.own=none)(I:i.map (rd fr)=args){q:List T×List Up}(r:Cl lh sh false args=some q){v:T}{s:List b8}(hc:call f q.1 []=some (v,s)){w:List (Sp×Nat)}(J:(if scalar v=true then []else ki q.2)=w):
  iP E call n ((u,⟨d,.callf f i,none⟩)::ds) jN ⟨fr,lh,sh⟩=if meets u jN ⟨false,Oj lh sh args,w⟩=true then ke E call n ds (jN++ [⟨false,Oj lh sh args,w⟩]) (eb E call n [⟨d,.callf f i,none⟩] ⟨fr,lh,sh⟩)else none:=by
 subst I J
 refine uC fun O=> ?_
 unfold jT lV
 have K:jr (St.mk fr lh sh).rho (.callf f i)=some (some (f,i.map (rd fr))):=by rw[lp];rfl
 unfold Cl at r
 unfold Oj
 rw[←qW (fr:=fr)]at r ⊢
 simp only[K,D,F,r]
 have N:inB (St.mk fr lh sh) q.2=true:=Eb (fun t p h=>WQ _ _ t p h) _ _ r
 simp only[N,Bool.not_true,Bool.false_eq_true,if_false,H,hc]
end Go.Ev
namespace Go.Proofs.YtcpceiclnbmgiaaGreat
open Go Go.Ev
def baT:T:= .sl [.s [65,65,65],.s [66,66,66]] 2 true
theorem ald:be pE 21 [] []=some (baT,[]):=by
 rw[il aha (by simp[c21])]
 unfold baT
 simp(maxDischargeDepth:=6) only[qA,seval,c21,repl]
theorem Y8{q:iq b8}{v:T}{k:Nat}{cs:List T}(h:jG q v k 1 60 cs): ∃g wm,v= .isl .L k g 0 60 1∧b7 q k=⟨g,.cells cs wm false⟩∧ ∀(lh:iq b8) (sh:List b8) (keep:Bool),b7 lh k=⟨g,.cells cs wm false⟩→fzV lh sh keep (.isl .L k g 0 60 1)=some (lu 60 cs,[(.L,k,⟨g,.cells cs cs.length false⟩)]):=by
 rcases h with⟨r,_⟩|⟨g,wm,rfl,ho,hl,hp⟩
 ·cases r
 ·refine⟨g,wm,rfl,ho,fun lh sh keep i=> ?_⟩
  have D:jG lh (.isl .L k g 0 60 1) k 1 60 cs:=Or.inr ⟨g,wm,rfl,i,hl,hp⟩
  rw[D.fzV]
  unfold Tl
  simp only[i]
section
variable(xs:List Int)(la:T)(hl:IsSl la xs.length (ints xs))
include hl
def tA(xs:List Int):Nat→Int:=jw (atR (jw xs) 60)
def pW(xs:List Int):Nat→Int:=jw (atR (fun i=>jw xs (60+i)) 60)
def oA(xs:List Int):Nat→Int:=jw (atR (fun i=>jw xs (120+i)) 60)
def S2(xs:List Int):T:=lu (tq (tA xs)) ((rm (tA xs)).fl.flatMap I9)
def oTB(xs:List Int):T:=lu (Iu (oA xs) (tq (tA xs))).length (ints ((Iu (oA xs) (tq (tA xs))).map Int.ofNat))
omit hl in
theorem IG(xs:List Int):IsSl (S2 xs) (tq (tA xs)) ((rm (tA xs)).fl.flatMap I9):=mV fun h=>by
 have:=ug (tA xs);omega
omit hl in
theorem wj(xs:List Int):IsSl (oTB xs) (Iu (oA xs) (tq (tA xs))).length (ints ((Iu (oA xs) (tq (tA xs))).map Int.ofNat)):=mV fun h=>by
 rw[List.length_eq_zero_iff.1 h];rfl
theorem adU:be pE 7 [la] []=some (.tup [.agg [Fq,Fs,S2 xs],.agg (qz (pW xs)),baT,oTB xs],[]):=by
 have hL:=fun fr lh sh=>aAF xs la hl fr lh sh
 have hz:=hl.froz
 have h6:=fun(f:Nat→Int)=>Qj f 60
 have N: ∀f:Nat→Int,IsSl (lu 60 (ints (atR f 60))) (atR f 60).length (ints (atR f 60)):=fun f=>by
  rw[Qj];exact mV fun h=>by cases h
 obtain⟨v,e1,hv⟩:=akf (atR (jw xs) 60) _ (N _)
 have I:=alb _ _ (N fun i=>jw xs (60+i))
 have J:=IG xs
 have K:=akg _ _ (N fun i=>jw xs (120+i)) Fq Fs (S2 xs) _ _ J (by have:=ug (tA xs);omega) ⟨rfl,rfl,J.froz1⟩
 have e4:=ald
 have O:v=S2 xs:=hv
 subst O
 have K:be pE 22 [.agg [Fq,Fs,S2 xs],lu 60 (ints (atR (fun i=>jw xs (120+i)) 60))] []=some (oTB xs,[]):=K
 have I:be pE 20 [lu 60 (ints (atR (fun i=>jw xs (60+i)) 60))] []=some (.agg (qz (pW xs)),[]):=I
 have z1:froz1 Fq=true:=rfl
 have z2:froz1 Fs=true:=rfl
 have z3:=J.froz1
 have z4:=(wj xs).froz1
 have z5:froz1 baT=true:=rfl
 have z6:froz (oTB xs)=true:=(wj xs).froz
 have k3:froz (S2 xs)=true:=J.froz
 have r:(qz (pW xs)).length=14:=rfl
 have FY:(qz (pW xs)).all froz1=true:=by
  unfold qz jB TE LR
  repeat' split
  all_goals rfl
 have U:qz (pW xs)=(qz (pW xs)).take 14:=(List.take_length (l:=qz (pW xs))).symm
 have V:=rW [T.i IntKind.i64 0,T.i IntKind.i64 0,T.i IntKind.i64 0,T.i IntKind.i64 0,T.i IntKind.i64 0,T.i IntKind.i64 0,T.i IntKind.i64 0,T.nilsl,T.nilsl,T.nilsl,T.nilsl,T.nilsl,T.nilsl,T.i IntKind.i64 0] (qz (pW xs)) (by rw[r];rfl)
 generalize oTB xs=oT at*
 generalize S2 xs=fT at*
 generalize Fq=zT at*
 generalize Fs=aT at*
 generalize baT=bT at*
 generalize qz (pW xs)=cs at*
 have I6:cs.take 14=cs:=U.symm
 have W:=fun m lh sh keep=>D9 (m:=m) (lh:=lh) (sh:=sh) (keep:=keep) FY
 rw[il fn7 (by simp[c7])]
 simp(maxDischargeDepth:=6) only[qA,seval,c7,repl]
 generalize hD:DC pE 44 (.loop F2) _=D
 obtain⟨f2,l2,s2,rfl,⟨rfl,hA,hB,hC,o2,o3⟩,X⟩:=Ba Ov hD (hL _ _ _ (by simp only[qA,seval]) (by simp only[qA,seval]) (by simp only[qA,seval]) (by simp only[qA,seval]) (by simp only[qA,seval]))
 have q2:an f2 2= .ptr .L 2 1 0:=by rw[X 2 (by decide)];simp only[qA,seval]
 have q3:an f2 3= .ptr .L 3 1 0:=by rw[X 3 (by decide)];simp only[qA,seval]
 have Y:b7 l2 2=⟨1,.cells [.nilsl,.nilsl,.nilsl] 0 true⟩:=by rw[o2];simp only[qA,seval]
 have Z:b7 l2 3=⟨1,.cells [T.i IntKind.i64 0,T.i IntKind.i64 0,T.i IntKind.i64 0,T.i IntKind.i64 0,T.i IntKind.i64 0,T.i IntKind.i64 0,T.i IntKind.i64 0,T.nilsl,T.nilsl,T.nilsl,T.nilsl,T.nilsl,T.nilsl,T.i IntKind.i64 0] 0 true⟩:=by rw[o3];simp only[qA,seval]
 obtain⟨gA,wA,vA,oA',zA⟩:=Y8 hA
 obtain⟨F,wB,vB,oB',zB⟩:=Y8 hB
 obtain⟨H,wC,vC,oC',zC⟩:=Y8 hC
 clear X hL hA hB hC o2 o3 hD
 generalize lu 60 (ints (atR (jw xs) 60))=xA at*
 generalize lu 60 (ints (atR (fun i=>jw xs (60+i)) 60))=xB at*
 generalize lu 60 (ints (atR (fun i=>jw xs (120+i)) 60))=xC at*
 generalize ints (atR (jw xs) 60)=cA at*
 generalize ints (atR (fun i=>jw xs (60+i)) 60)=cB at*
 generalize ints (atR (fun i=>jw xs (120+i)) 60)=cC at*
 have d39: ∀fr lh ds jN (u:List Nat),an fr 38= .isl .L 27 F 0 60 1→b7 lh 27=⟨F,.cells cB wB false⟩→iP pE (be pE) 44 ((u,⟨some 39,.callf 20 [.t 38],none⟩)::ds) jN ⟨fr,lh,[]⟩=if meets u jN ⟨false,Oj lh [] [.isl .L 27 F 0 60 1],[(.L,27)]⟩=true then ke pE (be pE) 44 ds (jN++ [⟨false,Oj lh [] [.isl .L 27 F 0 60 1],[(.L,27)]⟩]) (eb pE (be pE) 44 [⟨some 39,.callf 20 [.t 38],none⟩] ⟨fr,lh,[]⟩)else none:=by
  intro fr lh ds jN u g1 g2
  refine Qs ag9 rfl rfl (by simp only[qA,seval,g1]) (q:=([xB],[(.L,27,⟨F,.cells cB cB.length false⟩)])) ?_ I rfl
  simp(maxDischargeDepth:=6) only[qA,seval,zB,g2]
 have d43: ∀fr lh ds jN (u:List Nat),an fr 41= .agg [zT,aT,fT]→an fr 42= .isl .L 34 H 0 60 1→b7 lh 34=⟨H,.cells cC wC false⟩→iP pE (be pE) 44 ((u,⟨some 43,.callf 22 [.t 41,.t 42],none⟩)::ds) jN ⟨fr,lh,[]⟩=if meets u jN ⟨false,Oj lh [] [.agg [zT,aT,fT],.isl .L 34 H 0 60 1],if scalar oT=true then []else [(.L,34)]⟩=true then ke pE (be pE) 44 ds (jN++ [⟨false,Oj lh [] [.agg [zT,aT,fT],.isl .L 34 H 0 60 1],if scalar oT=true then []else [(.L,34)]⟩]) (eb pE (be pE) 44 [⟨some 43,.callf 22 [.t 41,.t 42],none⟩] ⟨fr,lh,[]⟩)else none:=by
  intro fr lh ds jN u g1 g2 g3
  refine Qs ahb rfl rfl (by simp only[qA,seval,g1,g2]) (q:=([.agg [zT,aT,fT],xC],[(.L,34,⟨H,.cells cC cC.length false⟩)])) ?_ K rfl
  simp(maxDischargeDepth:=6) only[qA,seval,zC,g3,z1,z2,z3]
 by_cases hs:scalar oT=true
 all_goals simp(maxDischargeDepth:=6) only[qA,jI,sW,Ee,seval,iE,q2,q3,Y,Z,vA,vB,vC,oA',oB',oC',zA,zB,zC,e1,I,K,e4,d39,d43,axB,axC,axD,axE,axF,z1,z2,z3,z4,z5,z6,r,I6,V,W,FY,S1,hs]
end
section
variable(o1 o2:List Lg)(x y:T)(hx:Lw o1 x)(hy:Lw o2 y)(m1: ∀g∈o1,g.du.length≤6)(m2: ∀g∈o2,g.du.length≤6)(l1:o1.length≤1000000000)(l2:o2.length≤1000000000)
include hx hy m1 m2 l1 l2
end
end Go.Proofs.YtcpceiclnbmgiaaGreat
namespace Go.Ev
open Go
end Go.Ev
namespace Go.Proofs.YtcpceiclnbmgiaaGreat
open Go Go.Ev
def upL(lh:iq b8)(us:List Up):iq b8:=((St.mk .nil lh []).ups us).lh
theorem adV{fr:Fr}{lh i:iq b8}{sh:List b8}{v:T}:(St.mk fr lh sh).ups (Tl i v)=⟨fr,upL lh (Tl i v),sh⟩:=by
 unfold upL Tl
 split
 ·split <;> rfl
 ·rfl
section
variable(la zT aT fT bT oT x y d u0 u1 u2 u3 u4 u5 u6 a7 a9 iv iy iw u13:T)(H0 Dr:Int)(s1 s2 s3 s4:List b8)
 (hla:froz la=true) (zz:froz1 zT=true∧froz1 aT=true∧froz1 fT=true∧froz1 oT=true∧froz1 x=true∧froz1 y=true∧froz1 d=true∧froz1 bT=true)
 (zc:froz1 u0=true∧froz1 u1=true∧froz1 u2=true∧froz1 u3=true∧froz1 u4=true∧froz1 u5=true∧froz1 u6=true∧froz1 a7=true∧froz1 a9=true∧froz1 iv=true∧froz1 iy=true∧froz1 iw=true∧froz1 u13=true)
 (Ty:be pE 9 [x,y] []=some (.b true,[])) (IZ:be pE 9 [x,d] []=some (.b true,[])) (haw:be pE 10 [] []=some (.b true,s4))
include hla zz zc Ty IZ haw
end
theorem LU: ∀l:List Fl,iA Si l (l.flatMap I9)
 | []=>rfl
 |u::l=>⟨_,_,rfl,rfl,LU l⟩
theorem Y9(xs:List Int):sZ (rm (tA xs)) Fq Fs (S2 xs):=by
 refine⟨⟨_,.inr ⟨_,rfl⟩, ?_⟩,⟨_,.inr ⟨_,rfl⟩, ?_⟩,⟨_, ?_,LU _⟩⟩
 ·exact⟨[_,_,_],_,rfl,⟨.nilsl,[],rfl,.inl ⟨rfl,rfl,rfl⟩,rfl⟩,[_,_,_],_,rfl,⟨_,_,rfl,.inr ⟨_,rfl⟩,[_,_],[_,_],rfl,rfl,[_,_],[],rfl,rfl,rfl⟩,[_,_,_],_,rfl,⟨_,_,rfl,.inr ⟨_,rfl⟩,[_,_],[],rfl,rfl,rfl⟩,rfl⟩
 ·exact⟨[_,_],_,rfl,rfl,[_,_],_,rfl,rfl,[_,_],_,rfl,rfl,rfl⟩
 ·rw[we];exact IG xs
theorem enC(xs:List Int)(k:Nat→Nat)(hk: ∀i,k i≤2)(r:List Ru)(D:List Co)(cr:List Ex)(I:r.Sublist lQ)(J:D.Sublist n6)(K: ∀x∈cr,x∈It)(V:cr.length≤1)(a7 a8 a9 iv iy iw:T)(W:tp (Ag k r D cr) a7 a8 a9 iv iy iw)(H:Nat)(N:H≤2):
  ∃v s,be pE 8 [.agg [Fq,Fs,S2 xs],.agg (jB (Ag k r D cr) a7 a8 a9 iv iy iw),oTB xs,.i .i64 (H:Int)] []=some (.tup [v,.i .i64 0],s)∧Lw (pU (tq (tA xs)) (jn (Ag k r D cr) (rm (tA xs)).fl) (nG (Mq (oA xs) (tq (tA xs)))) (FT (rm (tA xs)) (Ag k r D cr)) (ue (rm (tA xs)) (Ag k r D cr)) H) v:=by
 have Z:=ug (tA xs)
 have hl:=we (tA xs)
 have X:=Y6 k hk r D cr I J K
 have Y:IsSl (oTB xs) (Mq (oA xs) (tq (tA xs))).length (ints (Mq (oA xs) (tq (tA xs)))):=by
  have:=wj xs
  unfold Mq
  rw[List.length_map]
  exact this
 obtain⟨v,s,e,O⟩:=YE (rm (tA xs)) (Ag k r D cr) Fq Fs (S2 xs) a7 a8 a9 iv iy iw (Y9 xs) W X (by omega) _ _ Y (by have:=Qf (oA xs) (tq (tA xs));omega) (H:Int)
 have hc:=NY k hk r D cr I J K V
 have F:=akc k hk r D cr
 have U:=akb (tA xs) (oA xs) (Ag k r D cr) F H N
 unfold aj2 at U
 rw[if_pos (adt (tA xs) (oA xs) _ hc H N),Int.toNat_natCast,if_neg U]at e
 rw[Int.toNat_natCast,hl]at O
 exact⟨v,s,e,O⟩
section
variable(t:Tt)(c:Ct)(zT aT fT a7 a8 a9 iv iy iw:T)(vs:List T)(hT:sZ t zT aT fT)
theorem aB1(hT:sZ t zT aT fT)(d:List (Int×Bool))(J:T)(O:H4 d J)(N:d.length≤1000)(r:Bool)(hr:r=d.all fun k=>rS t.fl.length k.1)(o:Out)(U:o=if r=true then .ext 0 else .ret)(fr:Fr)(lh:iq b8)(sh:List b8)
  (F:an fr 0=stV c zT aT fT a7 a8 a9 iv iy iw vs) (H:an fr 16=J) (D:an fr 17= .i .i64 (d.length:Int)) (I:an fr 18= .i .i64 0):
  wS 48 xf fr lh sh o∧((r=false→an (tO pE 48 xf fr lh sh) 4= .i .i64 6)∧oH pE 48 xf fr lh sh=sh):=by
 refine nH (fun k st=> ∃(fr:Fr) (lh:iq b8),st=⟨fr,lh,sh⟩∧r=((d.drop k).all fun k=>rS t.fl.length k.1)∧an fr 0=stV c zT aT fT a7 a8 a9 iv iy iw vs∧an fr 16=J∧an fr 17= .i .i64 (d.length:Int)∧an fr 18= .i .i64 (k:Int)) (fun V iR W=>(r=false→an V 4= .i .i64 6)∧W=sh) o d.length ?_ ?_ fr lh sh ⟨fr,lh,rfl,hr,F,H,D,I⟩
 ·rintro k _ hk ⟨fr,lh,rfl,hr,F,H,D,I⟩
  have X:(k:Int)<d.length:=by omega
  have Y:=iN (k:=k) (by omega)
  obtain⟨rr,Z⟩:=wU O k hk
  rw[ajl hk]at hr
  obtain⟨fc,f1,f2⟩:=hT.f
  have K:=Xx zT aT fT (jB c a7 a8 a9 iv iy iw++vs) fc t.fl.length f1 d[k].1
  rw[show decide (0≤d[k].1∧d[k].1<(t.fl.length:Int))=rS t.fl.length d[k].1 from rfl]at K
  unfold stV at*
  generalize d[k]=y at*
  cases hv:rS t.fl.length y.1 <;> rw[hv]at K hr <;> simp only[Bool.true_and,Bool.false_and]at hr
  all_goals simp only[qA,seval,xf,F,H,D,I,X,Y,Z,K,ahl]
  all_goals first
   |exact AY ⟨by rw[U,hr];rfl,fun _=>(by simp only[qA,seval]),rfl⟩
   |exact mW ⟨_,_,rfl,hr,by simp only[qA,seval,F],by simp only[qA,seval,H],by simp only[qA,seval,D],by simp only[qA,seval]⟩
 ·rintro _ ⟨fr,lh,rfl,hr,F,H,D,I⟩
  rw[List.drop_length]at hr
  simp only[qA,seval,xf,D,I,Int.lt_irrefl]
  grind [oZ]
theorem aB2(hT:sZ t zT aT fT)(d:List (Int×Bool))(J:T)(I:H4 d J)(D:1≤d.length)(N:d.length≤1000)(O: ∀k∈d,rS t.fl.length k.1=true)(r:Bool)(hr:r=Mj c t.fl d)(o:Out)(V:o=if r=true then .ext 2 else .ret)(fr:Fr)(lh:iq b8)(sh:List b8)
  (F:an fr 0=stV c zT aT fT a7 a8 a9 iv iy iw vs) (D:an fr 1=J) (H:an fr 7= .i .i64 1):
  wS 48 Ax fr lh sh o∧((r=false→an (tO pE 48 Ax fr lh sh) 4= .i .i64 14)∧oH pE 48 Ax fr lh sh=sh):=by
 refine nH (fun k st=> ∃(fr:Fr),st=⟨fr,lh,sh⟩∧r=Mj c t.fl (d.drop k)∧an fr 0=stV c zT aT fT a7 a8 a9 iv iy iw vs∧an fr 1=J∧an fr 7= .i .i64 ((k+1:Nat):Int)) (fun W iR X=>(r=false→an W 4= .i .i64 14)∧X=sh) o (d.length-1) ?_ ?_ fr lh sh ⟨fr,rfl,hr,F,D,H⟩
 ·rintro k _ hk ⟨fr,rfl,hr,F,D,H⟩
  have K:((k+1:Nat):Int)<d.length:=by omega
  have Y:=iN (k:=k+1) (by omega)
  have Ty:wr .i64 (((k+1:Nat):Int)-1)=(k:Int):=by rw[js (by omega)];omega
  obtain⟨rr,Z⟩:=wU I k (by omega)
  obtain⟨r2,TF⟩:=wU I (k+1) (by omega)
  rw[ajk c t.fl (by omega:k+1<d.length)]at hr
  have U:=XB t c zT aT fT a7 a8 a9 iv iy iw vs hT (O _ (List.getElem_mem (by omega:k<d.length))) (O _ (List.getElem_mem (by omega:k+1<d.length)))
  unfold stV at*
  generalize d[k]=x at*
  generalize d[k+1]=y at*
  cases hv:BQ c t.fl x.1 y.1 <;> rw[hv]at U hr <;> simp only[Bool.true_and,Bool.false_and]at hr
  all_goals simp only[qA,seval,jI,iE,Ax,F,D,H,I.choose_spec.1.lenI,K,Y,Ty,Z,TF,U,ayf,ayg]
  all_goals first
   |exact AY ⟨by rw[V,hr];rfl,fun _=>(by simp only[qA,seval]),rfl⟩
   |exact mW ⟨_,rfl,hr,by simp only[qA,seval,F],by simp only[qA,seval,D],by simp only[qA,seval]⟩
 ·rintro _ ⟨fr,rfl,hr,F,D,H⟩
  rw[acK c t.fl (by omega)]at hr
  have K: ¬((d.length-1+1:Nat):Int)<d.length:=by omega
  simp only[qA,seval,Ax,D,H,I.choose_spec.1.lenI,K]
  grind [oZ]
theorem ale(hT:sZ t zT aT fT)(d:List (Int×Bool))(D:T)(F:H4 d D)(r:d.length≤1000):be pE 67 [stV c zT aT fT a7 a8 a9 iv iy iw vs,D] []=some (.i .i64 (uE c t.fl d),[]):=by
 have ZU:=fun fr lh sh H J K N=>aB1 t c zT aT fT a7 a8 a9 iv iy iw vs hT d D F r _ rfl _ rfl fr lh sh H J K N
 have Za:=F.choose_spec.1.lenI
 rw[il ap1 (by simp[c67])]
 unfold uE
 cases I:d.all fun k=>rS t.fl.length k.1 <;> rw[I]at ZU
 ·simp only[qB,seval,c67,ZU,Za,itI]
 ·by_cases O:1≤d.length
  ·have FM:=fun fr lh sh H DM U=>aB2 t c zT aT fT a7 a8 a9 iv iy iw vs hT d D F O r (List.all_eq_true.1 I) _ rfl _ rfl fr lh sh H DM U
   cases hc:Mj c t.fl d <;> rw[hc]at FM
   all_goals simp only[qB,seval,c67,TU,FM,ZU,Za,itI]
  ·have DM:(d.length:Int)<1:=by omega
   simp only[qB,seval,c67,Za,DM]
end
def nU(A:List Int)(l:RL):List (List Nat):=(l.filter fun u=>decide (u.2.val A=0)).map Prod.fst
theorem Zb(A:List Int)(l:RL):nU A l= []↔wV A l=true:=by
 unfold nU wV
 rw[List.map_eq_nil_iff,List.filter_eq_nil_iff,List.all_eq_true]
 simp
theorem Zc(A:List Int)(l:RL)(k:Nat)(h:k<l.length):nU A (l.take (k+1))=if l[k].2.val A=0 then nU A (l.take k)++ [l[k].1]else nU A (l.take k):=by
 unfold nU
 rw[List.take_succ_eq_append_getElem h,List.filter_append,List.map_append]
 by_cases i:l[k].2.val A=0 <;> simp[i]
theorem Qt(A:List Int)(l:RL):(nU A l).length≤l.length:=by
 unfold nU
 rw[List.length_map]
 exact List.length_filter_le _ _
section
variable(c:Ct)(zT aT fT a7 a8 a9 iv iy iw m r1 r2 r3 c1 c2 c3 cr nb:T)(A:List Int)(qx:T)(kR:IsSl qx A.length (ints A))
include kR
theorem aB3(l:RL)(hr:I2 4 l r1)(tW: ∀u∈l,Fi A u.2)(O:l.length≤1000)(fr:Fr)(lh:iq b8)(sh:List b8)(F:an fr 0=stV c zT aT fT a7 a8 a9 iv iy iw (GR m r1 r2 r3 c1 c2 c3 cr nb))(U:an fr 1= .i .i64 1)(V:an fr 2=qx)(h7:an fr 7= .nilsl)(CI:an fr 19= .i .i64 (l.length:Int))(J:an fr 20= .i .i64 0):
  Lp pE 46 xg fr lh sh (.ext 0) fun f q s=>s=sh∧jG q (an f 7) 43 1 (nU A l).length ((nU A l).map T.s):=by
 refine ky JD (fun k f q s=>an f 20= .i .i64 (k:Int)∧s=sh∧jG q (an f 7) 43 1 (nU A (l.take k)).length ((nU A (l.take k)).map T.s)) l.length ⟨J,rfl,by rw[h7];exact jG.nil⟩ ?_ ?_
 ·rintro k f q _ hk H ⟨Mo,rfl,r⟩
  have W:(k:Int)<l.length:=by omega
  have X:=iN (k:=k) (by omega)
  obtain⟨b,cb,rr,Y,m9,sx⟩:=(Ic hr).2 k hk
  have Z:=Eu A qx kR l[k].2 b cb rr m9 sx (tW _ (List.getElem_mem hk))
  have hz:=kR.froz
  have K:=Qt A (l.take k)
  rw[List.length_take]at K
  have I:=fun(x:T) (iR:iq b8) (iT:List b8) (e:b7 iR 43=b7 q 43)=>m6 (sh:=iT) (r.congr e) [x] rfl (bytes:=16) (by unfold roomy;omega) true
  have N:=r.notS
  rw[Zc A l k hk]
  generalize nU A (l.take k)=B at*
  generalize D:an f 7=v7 at r I N
  generalize l[k]=u at*
  generalize u.2.val A=x at*
  unfold stV jB GR at F
  simp only[List.cons_append,List.nil_append]at F
  by_cases hx:x=0
  ·simp(maxDischargeDepth:=6) only[qA,seval,gd,repl,k9,xg,H,F,U,V,CI,Mo,D,W,Y,X,Z,hz,AD,hx,I,N]
   obtain⟨_,k1,k2⟩:=I (.s u.1) q _ rfl
   rw[show(B++ [u.1]).map T.s=B.map T.s++ [.s u.1]by simp,show(B++ [u.1]).length=B.length+1 by simp]
   exact k1
  ·simp(maxDischargeDepth:=6) only[qA,seval,gd,repl,k9,xg,H,F,U,V,CI,Mo,D,W,Y,X,Z,hz,AD,hx,I,N]
   exact r
 ·rintro f q _ H ⟨Mo,rfl,r⟩
  rw[List.take_length]at r
  simp only[qA,seval,gd,xg,H,CI,Mo,Int.lt_irrefl]
  exact r
theorem alf(l:RL)(hr:I2 4 l r1)(F: ∀u∈l,Fi A u.2)(r:l.length≤1000):be pE 69 [stV c zT aT fT a7 a8 a9 iv iy iw (GR m r1 r2 r3 c1 c2 c3 cr nb),.i .i64 1,qx] []=some (lu (nU A l).length ((nU A l).map T.s),[]):=by
 have H:=fun fr lh sh=>aB3 c zT aT fT a7 a8 a9 iv iy iw m r1 r2 r3 c1 c2 c3 cr nb A qx kR l hr F r fr lh sh
 have Cd:=If A qx kR
 have I:=(Ic hr).1
 have J:=kR.froz
 unfold stV jB GR at*
 simp only[List.cons_append,List.nil_append]at*
 rw[il ap3 (by simp[c69])]
 simp(maxDischargeDepth:=6) only[qA,seval,k9,c69,Cd,I,J,ahn]
 generalize K:DC pE 46 (.loop xg) _=D
 obtain⟨O,l2,s2,rfl,⟨rfl,N⟩,U⟩:=Ba JD K (H _ _ _ (by simp only[qA,seval]) (by simp only[qA,seval]) (by simp only[qA,seval]) (by simp only[qA,seval]) (by simp only[qA,seval]) (by simp only[qA,seval]))
 have e:=N.fzV (sh:=([]:List b8)) (keep:=false)
 simp(maxDischargeDepth:=6) only[qA,Ee,seval,e]
end
def S3(l:List (List Nat)):List T:=l.flatMap fun s=> [.i .i64 1,.i .i64 0,.s s]
theorem auR(l:List (List Nat))(K:l.length≤1000):be pE 68 [.nilsl,.i .i64 1,.i .i64 0,lu l.length (l.map T.s)] []=some (lu l.length (S3 l),[]):=by
 have hl:IsSl (lu l.length (l.map T.s)) l.length (l.map T.s):=mV fun h=>by rw[List.length_eq_zero_iff.1 h];rfl
 have V:=hl.lenI
 have hz:=hl.froz
 have W: ∀fr lh sh,an fr 0= .nilsl→an fr 1= .i .i64 1→an fr 2= .i .i64 0→an fr 11=lu l.length (l.map T.s)→an fr 12= .i .i64 (l.length:Int)→an fr 13= .i .i64 0→Lp pE 26 Ay fr lh sh (.ext 0) fun f q s=>s=sh∧jG q (an f 0) 23 3 l.length (S3 l):=by
  intro fr lh sh X Y Z H F qf
  refine ky JC (fun k f q s=>an f 13= .i .i64 (k:Int)∧s=sh∧jG q (an f 0) 23 3 k (S3 (l.take k))) l.length ⟨qf,rfl,by rw[X];exact jG.nil⟩ ?_ ?_
  ·rintro k f q _ hk I ⟨TC,rfl,r⟩
   have iX:(k:Int)<l.length:=by omega
   have hw:=iN (k:=k) (by omega)
   have N:=fun kk=>hl.ia (sz:=1) (k:=k) (kk:=kk) (by rw[List.length_map,Nat.mul_one]) hk
   rw[Nat.mul_one,List.drop_eq_getElem_cons (by rw[List.length_map];exact hk),List.getElem_map]at N
   have O:=fun(x:T) (iR:iq b8) (iT:List b8) (e:b7 iR 23=b7 q 23)=>m6 (sh:=iT) (r.congr e) [.i .i64 1,.i .i64 0,x] rfl (bytes:=32) (by unfold roomy;omega) true
   have U:=r.notS
   rw[List.take_succ_eq_append_getElem hk,show S3 (l.take k++ [l[k]])=S3 (l.take k)++ [.i .i64 1,.i .i64 0,.s l[k]]by unfold S3;rw[List.flatMap_append];rfl]
   generalize S3 (l.take k)=B at*
   generalize J:an f 0=v7 at r O U
   simp(maxDischargeDepth:=6) only[qA,seval,gd,repl,Ay,I,Y,Z,H,F,TC,J,iX,N,hw,O,U]
  ·rintro f q _ I ⟨TC,rfl,r⟩
   rw[List.take_length]at r
   simp only[qA,seval,gd,Ay,I,F,TC,Int.lt_irrefl]
   exact r
 rw[il ap2 (by simp[c68])]
 simp(maxDischargeDepth:=6) only[qA,seval,c68,V]
 generalize hD:DC pE 26 (.loop Ay) _=D
 obtain⟨f2,l2,s2,rfl,⟨rfl,r⟩,mM⟩:=Ba JC hD (W _ _ _ (by simp only[qA,seval]) (by simp only[qA,seval]) (by simp only[qA,seval]) (by simp only[qA,seval]) (by simp only[qA,seval]) (by simp only[qA,seval]))
 have e:=r.fzV (sh:=([]:List b8)) (keep:=false)
 simp(maxDischargeDepth:=6) only[qA,Ee,seval,e]
end Go.Proofs.YtcpceiclnbmgiaaGreat
