/- Walks of functions of the program and of the reference, and their plain laws, part 34. Conditions: the theorems' own. -/
import Derived.Test.YtcpceiclnbmgiaaGreatM33
import Derived.KernelRfl
set_option maxRecDepth 100000
set_option linter.unusedSimpArgs false
set_option linter.unusedVariables false
set_option maxHeartbeats 16000000
namespace Go.Proofs.YtcpceiclnbmgiaaGreat
open Go Go.Ev
def qp(b:Nat→Int):List T:=jz (rO b) (Tf b) (Lz (rO b).ru.length ((rO b).ru.flatMap px)) (Lz (rO b).co.length ((rO b).co.flatMap ve)) (Lz (rO b).cr.length ((rO b).cr.flatMap nL)) .nilsl .nilsl
theorem auw(b:Nat→Int): ∃s,be pE 47 [.s (pZ (SC b))] []=some (.tup [.agg (qp b),.i .i64 0,.i .i64 0],s):=by
 obtain⟨K,N⟩:=akD b
 have hl:=P6 b
 have O:M4 (rO b):=YK _ (Yo b) _ _ _ (lB _ _ _) (lB _ _ _) (Eu b).1
 have D:=akE b
 have hs:qc (rO b)=true:=by
  by_cases h:qc (rO b)=true
  ·exact h
  ·unfold mW at D
   simp[h]at D
   split at D <;> simp at D
 have H:=YL (rO b) _ _ _ _ _ _ (af6 b) (O.sm hs)
 rw[D]at H
 have Q7:(rO b).cr.length≤1:=(Eu b).2
 have hc:(rO b).cr.flatMap nL= []∨((rO b).cr.flatMap nL).length=4:=by
  cases h:(rO b).cr with
  |nil=>exact .inl rfl
  |cons x r=>
   rw[h]at Q7
   have:r= []:=List.length_eq_zero_iff.1 (by simpa using Q7)
   subst this
   exact .inr (by simp[zM])
 have I:=fun q lh=>akB (iY:=Tf b) (sn:=snU) (x0:= .i .i64 (rpB (kB b 0))) (x1:= .i .i64 (rlB (kB b 1))) (x2:= .i .i64 (Nv (kB b 2))) (x3:= .i .i64 (Fv (kB b 3))) (x4:= .i .i64 (lyB (kB b 4))) (x5:= .i .i64 (nfB (kB b 5))) (x6:= .i .i64 (ntB (kB b 5))) (hx:=⟨rfl,rfl,rfl,rfl,rfl,rfl,rfl,rfl⟩) (n:=(rO b).ru.length) (m:=(rO b).co.length) (rs:=(rO b).ru.flatMap px) (ks:=(rO b).co.flatMap ve) (cr:=(rO b).cr.flatMap nL) (hr:=pJ (fun u=>by unfold px;rw[List.length_cons,List.length_cons,zM]) _) (hk:=pJ (fun u=>by unfold ve;rw[List.length_cons,zM]) _) (hc:=hc) (q:=q) (lh:=lh)
 have F:(if(rO b).cr.flatMap nL= []then 0 else 1)=(rO b).cr.length:=by
  cases h:(rO b).cr with
  |nil=>rfl
  |cons x r=>
   rw[h]at Q7
   have:r= []:=List.length_eq_zero_iff.1 (by simpa using Q7)
   subst this
   obtain⟨d,e,_⟩:=jb x
   rw[List.flatMap_cons,e]
   rfl
 simp only[F]at I
 have J:=akA b
 unfold auv at J
 exact YJ (SC b) K N (by omega) _ (qp b) _ rfl (fun q lh=>I q lh) J _ H
theorem akF(xs:List Int)(la:T)(hl:IsSl la xs.length (ints xs)):be pE 20 [la] []=some (.agg (qp (jv xs)),[]):=by
 obtain⟨s,H⟩:=auw (jv xs)
 have I:=adh xs la hl
 have J:=hl.froz
 have r:(qp (jv xs)).length=14:=rfl
 have K:(qp (jv xs)).all froz1=true:=by
  unfold qp jz Tf Lz
  repeat' split
  all_goals rfl
 have Pt:(qp (jv xs)).take 14=qp (jv xs):=by rw[←r];exact List.take_length
 have D:=rQ [T.i IntKind.i64 0,T.i IntKind.i64 0,T.i IntKind.i64 0,T.i IntKind.i64 0,T.i IntKind.i64 0,T.i IntKind.i64 0,T.i IntKind.i64 0,T.nilsl,T.nilsl,T.nilsl,T.nilsl,T.nilsl,T.nilsl,T.i IntKind.i64 0] (qp (jv xs)) (by rw[r];rfl)
 generalize qp (jv xs)=cs at*
 have F:=fun m lh sh keep=>DR (m:=m) (lh:=lh) (sh:=sh) (keep:=keep) K
 rw[il agH (by simp[c20])]
 simp(maxDischargeDepth:=6) only[qA,seval,c20,repl,I,H,J,axs,axr,r,Pt,D,F]
end Go.Proofs.YtcpceiclnbmgiaaGreat
namespace Go.Ev
open Go
def NP(lh:iw b8)(sh:List b8)(args:List T):List (Sp×Nat):=(ja (fz false iG) args).log (St.mk .nil lh sh).get sh.length
theorem SK(r:List (Sp×Nat)):mh r []=true:=by unfold mh;rw[List.all_eq_true];intro x _;rfl
theorem P8{E:Env}{call:pU}{n:Nat}{fr:Fr}{lh:iw b8}{sh:List b8}{ds:List (List Nat×dy)}{jJ:List FP}{u:List Nat}{d:Option Nat}{f:Nat}{af:ij}{i:List iF}{args:List T}(D:E.fn f=some af)(F:af.eff=false)(H:af.own=none)(I:i.map (rd fr)=args){q:List T×List Up}(r:B4 lh sh false args=some q){v:T}{s:List b8}(hc:call f q.1 []=some (v,s)){w:List (Sp×Nat)}(J:(if scalar v=true then []else ki q.2)=w):
  iN E call n ((u,⟨d,.callf f i,none⟩)::ds) jJ ⟨fr,lh,sh⟩=if meets u jJ ⟨false,NP lh sh args,w⟩=true then ke E call n ds (jJ++ [⟨false,NP lh sh args,w⟩]) (dE E call n [⟨d,.callf f i,none⟩] ⟨fr,lh,sh⟩)else none:=by
 subst I J
 refine uk fun O=> ?_
 unfold jT lS
 have K:jr (St.mk fr lh sh).rho (.callf f i)=some (some (f,i.map (rd fr))):=by rw[lj];rfl
 unfold B4 at r
 unfold NP
 rw[←qO (fr:=fr)]at r ⊢
 simp only[K,D,F,r]
 have N:inB (St.mk fr lh sh) q.2=true:=DT (fun t p h=>Wp _ _ t p h) _ _ r
 simp only[N,Bool.not_true,Bool.false_eq_true,if_false,H,hc]
end Go.Ev
namespace Go.Proofs.YtcpceiclnbmgiaaGreat
open Go Go.Ev
def baT:T:= .sl [.s [65,65,65],.s [66,66,66]] 2 true
theorem akH:be pE 21 [] []=some (baT,[]):=by
 rw[il agI (by simp[c21])]
 unfold baT
 simp(maxDischargeDepth:=6) only[qA,seval,c21,repl]
theorem YM{q:iw b8}{v:T}{k:Nat}{cs:List T}(h:jO q v k 1 60 cs): ∃g wm,v= .isl .L k g 0 60 1∧b7 q k=⟨g,.cells cs wm false⟩∧ ∀(lh:iw b8) (sh:List b8) (keep:Bool),b7 lh k=⟨g,.cells cs wm false⟩→fzV lh sh keep (.isl .L k g 0 60 1)=some (lN 60 cs,[(.L,k,⟨g,.cells cs cs.length false⟩)]):=by
 rcases h with⟨r,_⟩|⟨g,wm,rfl,ho,hl,hp⟩
 ·cases r
 ·refine⟨g,wm,rfl,ho,fun lh sh keep i=> ?_⟩
  have D:jO lh (.isl .L k g 0 60 1) k 1 60 cs:=Or.inr ⟨g,wm,rfl,i,hl,hp⟩
  rw[D.fzV]
  unfold fzU
  simp only[i]
section
variable(xs:List Int)(la:T)(hl:IsSl la xs.length (ints xs))
include hl
def tA(xs:List Int):Nat→Int:=jv (atR (jv xs) 60)
def wu(xs:List Int):Nat→Int:=jv (atR (fun i=>jv xs (60+i)) 60)
def oA(xs:List Int):Nat→Int:=jv (atR (fun i=>jv xs (120+i)) 60)
def Tg(xs:List Int):T:=lN (uw (tA xs)) ((wo (tA xs)).fl.flatMap IV)
def oTB(xs:List Int):T:=lN (Ij (oA xs) (uw (tA xs))).length (ints ((Ij (oA xs) (uw (tA xs))).map Int.ofNat))
omit hl in
theorem Iv(xs:List Int):IsSl (Tg xs) (uw (tA xs)) ((wo (tA xs)).fl.flatMap IV):=od fun h=>by
 have:=tT (tA xs);omega
omit hl in
theorem vW(xs:List Int):IsSl (oTB xs) (Ij (oA xs) (uw (tA xs))).length (ints ((Ij (oA xs) (uw (tA xs))).map Int.ofNat)):=od fun h=>by
 rw[List.length_eq_zero_iff.1 h];rfl
theorem adB:be pE 7 [la] []=some (.tup [.agg [FM,FN,Tg xs],.agg (qp (wu xs)),baT,oTB xs],[]):=by
 have hL:=fun fr lh sh=>aAd xs la hl fr lh sh
 have hz:=hl.froz
 have h6:=fun(f:Nat→Int)=>PZ f 60
 have N: ∀f:Nat→Int,IsSl (lN 60 (ints (atR f 60))) (atR f 60).length (ints (atR f 60)):=fun f=>by
  rw[PZ];exact od fun h=>by cases h
 obtain⟨v,e1,hv⟩:=ajL (atR (jv xs) 60) _ (N _)
 have I:=akF _ _ (N fun i=>jv xs (60+i))
 have J:=Iv xs
 have K:=ajM _ _ (N fun i=>jv xs (120+i)) FM FN (Tg xs) _ _ J (by have:=tT (tA xs);omega) ⟨rfl,rfl,J.froz1⟩
 have e4:=akH
 have O:v=Tg xs:=hv
 subst O
 have K:be pE 22 [.agg [FM,FN,Tg xs],lN 60 (ints (atR (fun i=>jv xs (120+i)) 60))] []=some (oTB xs,[]):=K
 have I:be pE 20 [lN 60 (ints (atR (fun i=>jv xs (60+i)) 60))] []=some (.agg (qp (wu xs)),[]):=I
 have z1:froz1 FM=true:=rfl
 have z2:froz1 FN=true:=rfl
 have z3:=J.froz1
 have z4:=(vW xs).froz1
 have z5:froz1 baT=true:=rfl
 have z6:froz (oTB xs)=true:=(vW xs).froz
 have k3:froz (Tg xs)=true:=J.froz
 have r:(qp (wu xs)).length=14:=rfl
 have FO:(qp (wu xs)).all froz1=true:=by
  unfold qp jz Tf Lz
  repeat' split
  all_goals rfl
 have U:qp (wu xs)=(qp (wu xs)).take 14:=(List.take_length (l:=qp (wu xs))).symm
 have V:=rQ [T.i IntKind.i64 0,T.i IntKind.i64 0,T.i IntKind.i64 0,T.i IntKind.i64 0,T.i IntKind.i64 0,T.i IntKind.i64 0,T.i IntKind.i64 0,T.nilsl,T.nilsl,T.nilsl,T.nilsl,T.nilsl,T.nilsl,T.i IntKind.i64 0] (qp (wu xs)) (by rw[r];rfl)
 generalize oTB xs=oT at*
 generalize Tg xs=fT at*
 generalize FM=zT at*
 generalize FN=aT at*
 generalize baT=bT at*
 generalize qp (wu xs)=cs at*
 have Pt:cs.take 14=cs:=U.symm
 have W:=fun m lh sh keep=>DR (m:=m) (lh:=lh) (sh:=sh) (keep:=keep) FO
 rw[il fn7 (by simp[c7])]
 simp(maxDischargeDepth:=6) only[qA,seval,c7,repl]
 generalize hD:DC pE 44 (.loop FU) _=D
 obtain⟨f2,l2,s2,rfl,⟨rfl,hA,hB,hC,o2,o3⟩,X⟩:=Cq N5 hD (hL _ _ _ (by simp only[qA,seval]) (by simp only[qA,seval]) (by simp only[qA,seval]) (by simp only[qA,seval]) (by simp only[qA,seval]))
 have q2:an f2 2= .ptr .L 2 1 0:=by rw[X 2 (by decide)];simp only[qA,seval]
 have q3:an f2 3= .ptr .L 3 1 0:=by rw[X 3 (by decide)];simp only[qA,seval]
 have Y:b7 l2 2=⟨1,.cells [.nilsl,.nilsl,.nilsl] 0 true⟩:=by rw[o2];simp only[qA,seval]
 have Z:b7 l2 3=⟨1,.cells [T.i IntKind.i64 0,T.i IntKind.i64 0,T.i IntKind.i64 0,T.i IntKind.i64 0,T.i IntKind.i64 0,T.i IntKind.i64 0,T.i IntKind.i64 0,T.nilsl,T.nilsl,T.nilsl,T.nilsl,T.nilsl,T.nilsl,T.i IntKind.i64 0] 0 true⟩:=by rw[o3];simp only[qA,seval]
 obtain⟨gA,wA,vA,oA',zA⟩:=YM hA
 obtain⟨F,wB,vB,oB',zB⟩:=YM hB
 obtain⟨H,wC,vC,oC',zC⟩:=YM hC
 clear X hL hA hB hC o2 o3 hD
 generalize lN 60 (ints (atR (jv xs) 60))=xA at*
 generalize lN 60 (ints (atR (fun i=>jv xs (60+i)) 60))=xB at*
 generalize lN 60 (ints (atR (fun i=>jv xs (120+i)) 60))=xC at*
 generalize ints (atR (jv xs) 60)=cA at*
 generalize ints (atR (fun i=>jv xs (60+i)) 60)=cB at*
 generalize ints (atR (fun i=>jv xs (120+i)) 60)=cC at*
 have d39: ∀fr lh ds jJ (u:List Nat),an fr 38= .isl .L 27 F 0 60 1→b7 lh 27=⟨F,.cells cB wB false⟩→iN pE (be pE) 44 ((u,⟨some 39,.callf 20 [.t 38],none⟩)::ds) jJ ⟨fr,lh,[]⟩=if meets u jJ ⟨false,NP lh [] [.isl .L 27 F 0 60 1],[(.L,27)]⟩=true then ke pE (be pE) 44 ds (jJ++ [⟨false,NP lh [] [.isl .L 27 F 0 60 1],[(.L,27)]⟩]) (dE pE (be pE) 44 [⟨some 39,.callf 20 [.t 38],none⟩] ⟨fr,lh,[]⟩)else none:=by
  intro fr lh ds jJ u g1 g2
  refine P8 agH rfl rfl (by simp only[qA,seval,g1]) (q:=([xB],[(.L,27,⟨F,.cells cB cB.length false⟩)])) ?_ I rfl
  simp(maxDischargeDepth:=6) only[qA,seval,zB,g2]
 have d43: ∀fr lh ds jJ (u:List Nat),an fr 41= .agg [zT,aT,fT]→an fr 42= .isl .L 34 H 0 60 1→b7 lh 34=⟨H,.cells cC wC false⟩→iN pE (be pE) 44 ((u,⟨some 43,.callf 22 [.t 41,.t 42],none⟩)::ds) jJ ⟨fr,lh,[]⟩=if meets u jJ ⟨false,NP lh [] [.agg [zT,aT,fT],.isl .L 34 H 0 60 1],if scalar oT=true then []else [(.L,34)]⟩=true then ke pE (be pE) 44 ds (jJ++ [⟨false,NP lh [] [.agg [zT,aT,fT],.isl .L 34 H 0 60 1],if scalar oT=true then []else [(.L,34)]⟩]) (dE pE (be pE) 44 [⟨some 43,.callf 22 [.t 41,.t 42],none⟩] ⟨fr,lh,[]⟩)else none:=by
  intro fr lh ds jJ u g1 g2 g3
  refine P8 agJ rfl rfl (by simp only[qA,seval,g1,g2]) (q:=([.agg [zT,aT,fT],xC],[(.L,34,⟨H,.cells cC cC.length false⟩)])) ?_ K rfl
  simp(maxDischargeDepth:=6) only[qA,seval,zC,g3,z1,z2,z3]
 by_cases hs:scalar oT=true
 all_goals simp(maxDischargeDepth:=6) only[qA,jG,sN,Fw,seval,iE,q2,q3,Y,Z,vA,vB,vC,oA',oB',oC',zA,zB,zC,e1,I,K,e4,d39,d43,axg,axh,axi,axj,axk,z1,z2,z3,z4,z5,z6,r,Pt,V,W,FO,SK,hs]
end
section
variable(o1 o2:List Lg)(x y:T)(hx:Nn o1 x)(hy:Nn o2 y)(m1: ∀g∈o1,g.du.length≤6)(m2: ∀g∈o2,g.du.length≤6)(l1:o1.length≤1000000000)(l2:o2.length≤1000000000)
include hx hy m1 m2 l1 l2
end
end Go.Proofs.YtcpceiclnbmgiaaGreat
namespace Go.Ev
open Go
end Go.Ev
namespace Go.Proofs.YtcpceiclnbmgiaaGreat
open Go Go.Ev
section
variable(la zT aT fT bT oT x y d u0 u1 u2 u3 u4 u5 u6 a7 a9 iq iy iv u13:T)(H0 Dr:Int)(s1 s2 s3 s4:List b8)
 (hla:froz la=true) (zz:froz1 zT=true∧froz1 aT=true∧froz1 fT=true∧froz1 oT=true∧froz1 x=true∧froz1 y=true∧froz1 d=true∧froz1 bT=true)
 (zc:froz1 u0=true∧froz1 u1=true∧froz1 u2=true∧froz1 u3=true∧froz1 u4=true∧froz1 u5=true∧froz1 u6=true∧froz1 a7=true∧froz1 a9=true∧froz1 iq=true∧froz1 iy=true∧froz1 iv=true∧froz1 u13=true)
 (S7:be pE 9 [x,y] []=some (.b true,[])) (GC:be pE 9 [x,d] []=some (.b true,[])) (haw:be pE 10 [] []=some (.b true,s4))
include hla zz zc S7 GC haw
end
theorem LB: ∀l:List Fl,iA RX l (l.flatMap IV)
 | []=>rfl
 |u::l=>⟨_,_,rfl,rfl,LB l⟩
theorem af8(xs:List Int):uf (wo (tA xs)) FM FN (Tg xs):=by
 refine⟨⟨_,.inr ⟨_,rfl⟩, ?_⟩,⟨_,.inr ⟨_,rfl⟩, ?_⟩,⟨_, ?_,LB _⟩⟩
 ·exact⟨[_,_,_],_,rfl,⟨.nilsl,[],rfl,.inl ⟨rfl,rfl,rfl⟩,rfl⟩,[_,_,_],_,rfl,⟨_,_,rfl,.inr ⟨_,rfl⟩,[_,_],[_,_],rfl,rfl,[_,_],[],rfl,rfl,rfl⟩,[_,_,_],_,rfl,⟨_,_,rfl,.inr ⟨_,rfl⟩,[_,_],[],rfl,rfl,rfl⟩,rfl⟩
 ·exact⟨[_,_],_,rfl,rfl,[_,_],_,rfl,rfl,[_,_],_,rfl,rfl,rfl⟩
 ·rw[vR];exact Iv xs
theorem enC(xs:List Int)(k:Nat→Nat)(hk: ∀i,k i≤2)(r:List Ru)(D:List Co)(cr:List Ex)(I:r.Sublist l0)(J:D.Sublist pb)(K: ∀x∈cr,x∈Ii)(V:cr.length≤1)(a7 a8 a9 iq iy iv:T)(W:um (Cy k r D cr) a7 a8 a9 iq iy iv)(H:Nat)(N:H≤2):
  ∃v s,be pE 8 [.agg [FM,FN,Tg xs],.agg (jz (Cy k r D cr) a7 a8 a9 iq iy iv),oTB xs,.i .i64 (H:Int)] []=some (.tup [v,.i .i64 0],s)∧Nn (qo (uw (tA xs)) (jn (Cy k r D cr) (wo (tA xs)).fl) (oB (PT (oA xs) (uw (tA xs)))) (Ng (wo (tA xs)) (Cy k r D cr)) (zu (wo (tA xs)) (Cy k r D cr)) H) v:=by
 have Z:=tT (tA xs)
 have hl:=vR (tA xs)
 have X:=YK k hk r D cr I J K
 have Y:IsSl (oTB xs) (PT (oA xs) (uw (tA xs))).length (ints (PT (oA xs) (uw (tA xs)))):=by
  have:=vW xs
  unfold PT
  rw[List.length_map]
  exact this
 obtain⟨v,s,e,O⟩:=Yh (wo (tA xs)) (Cy k r D cr) FM FN (Tg xs) a7 a8 a9 iq iy iv (af8 xs) W X (by omega) _ _ Y (by have:=PV (oA xs) (uw (tA xs));omega) (H:Int)
 have hc:=Nz k hk r D cr I J K V
 have F:=ajI k hk r D cr
 have U:=ajH (tA xs) (oA xs) (Cy k r D cr) F H N
 unfold ajy at U
 rw[if_pos (ada (tA xs) (oA xs) _ hc H N),Int.toNat_natCast,if_neg U]at e
 rw[Int.toNat_natCast,hl]at O
 exact⟨v,s,e,O⟩
section
variable(t:Tt)(c:Ct)(zT aT fT a7 a8 a9 iq iy iv:T)(vs:List T)(hT:uf t zT aT fT)
theorem aBz(hT:uf t zT aT fT)(d:List (Int×Bool))(J:T)(O:GG d J)(N:d.length≤1000)(r:Bool)(hr:r=d.all fun k=>xq t.fl.length k.1)(o:Out)(U:o=if r=true then .ext 0 else .ret)(fr:Fr)(lh:iw b8)(sh:List b8)
  (F:an fr 0=stV c zT aT fT a7 a8 a9 iq iy iv vs) (H:an fr 16=J) (D:an fr 17= .i .i64 (d.length:Int)) (I:an fr 18= .i .i64 0):
  wJ 48 wU fr lh sh o∧((r=false→an (tD pE 48 wU fr lh sh) 4= .i .i64 6)∧ow pE 48 wU fr lh sh=sh):=by
 refine ny (fun k st=> ∃(fr:Fr) (lh:iw b8),st=⟨fr,lh,sh⟩∧r=((d.drop k).all fun k=>xq t.fl.length k.1)∧an fr 0=stV c zT aT fT a7 a8 a9 iq iy iv vs∧an fr 16=J∧an fr 17= .i .i64 (d.length:Int)∧an fr 18= .i .i64 (k:Int)) (fun V iU W=>(r=false→an V 4= .i .i64 6)∧W=sh) o d.length ?_ ?_ fr lh sh ⟨fr,lh,rfl,hr,F,H,D,I⟩
 ·rintro k _ hk ⟨fr,lh,rfl,hr,F,H,D,I⟩
  have X:(k:Int)<d.length:=by omega
  have Y:=iO (k:=k) (by omega)
  obtain⟨rr,Z⟩:=wL O k hk
  rw[aiT hk]at hr
  obtain⟨fc,f1,f2⟩:=hT.f
  have K:=W9 zT aT fT (jz c a7 a8 a9 iq iy iv++vs) fc t.fl.length f1 d[k].1
  rw[show decide (0≤d[k].1∧d[k].1<(t.fl.length:Int))=xq t.fl.length d[k].1 from rfl]at K
  unfold stV at*
  generalize d[k]=y at*
  cases hv:xq t.fl.length y.1 <;> rw[hv]at K hr <;> simp only[Bool.true_and,Bool.false_and]at hr
  all_goals simp only[qA,seval,wU,F,H,D,I,X,Y,Z,K,agT]
  all_goals first
   |exact AM ⟨by rw[U,hr];rfl,fun _=>(by simp only[qA,seval]),rfl⟩
   |exact mR ⟨_,_,rfl,hr,by simp only[qA,seval,F],by simp only[qA,seval,H],by simp only[qA,seval,D],by simp only[qA,seval]⟩
 ·rintro _ ⟨fr,lh,rfl,hr,F,H,D,I⟩
  rw[List.drop_length]at hr
  simp only[qA,seval,wU,D,I,Int.lt_irrefl]
  grind [oS]
theorem aBA(hT:uf t zT aT fT)(d:List (Int×Bool))(J:T)(I:GG d J)(D:1≤d.length)(N:d.length≤1000)(O: ∀k∈d,xq t.fl.length k.1=true)(r:Bool)(hr:r=LV c t.fl d)(o:Out)(V:o=if r=true then .ext 2 else .ret)(fr:Fr)(lh:iw b8)(sh:List b8)
  (F:an fr 0=stV c zT aT fT a7 a8 a9 iq iy iv vs) (D:an fr 1=J) (H:an fr 7= .i .i64 1):
  wJ 48 Al fr lh sh o∧((r=false→an (tD pE 48 Al fr lh sh) 4= .i .i64 14)∧ow pE 48 Al fr lh sh=sh):=by
 refine ny (fun k st=> ∃(fr:Fr),st=⟨fr,lh,sh⟩∧r=LV c t.fl (d.drop k)∧an fr 0=stV c zT aT fT a7 a8 a9 iq iy iv vs∧an fr 1=J∧an fr 7= .i .i64 ((k+1:Nat):Int)) (fun W iU X=>(r=false→an W 4= .i .i64 14)∧X=sh) o (d.length-1) ?_ ?_ fr lh sh ⟨fr,rfl,hr,F,D,H⟩
 ·rintro k _ hk ⟨fr,rfl,hr,F,D,H⟩
  have K:((k+1:Nat):Int)<d.length:=by omega
  have Y:=iO (k:=k+1) (by omega)
  have S7:wr .i64 (((k+1:Nat):Int)-1)=(k:Int):=by rw[jw (by omega)];omega
  obtain⟨rr,Z⟩:=wL I k (by omega)
  obtain⟨r2,YN⟩:=wL I (k+1) (by omega)
  rw[aiS c t.fl (by omega:k+1<d.length)]at hr
  have U:=Xe t c zT aT fT a7 a8 a9 iq iy iv vs hT (O _ (List.getElem_mem (by omega:k<d.length))) (O _ (List.getElem_mem (by omega:k+1<d.length)))
  unfold stV at*
  generalize d[k]=x at*
  generalize d[k+1]=y at*
  cases hv:GH c t.fl x.1 y.1 <;> rw[hv]at U hr <;> simp only[Bool.true_and,Bool.false_and]at hr
  all_goals simp only[qA,seval,jG,iE,Al,F,D,H,I.choose_spec.1.lenI,K,Y,S7,Z,YN,U,axQ,axR]
  all_goals first
   |exact AM ⟨by rw[V,hr];rfl,fun _=>(by simp only[qA,seval]),rfl⟩
   |exact mR ⟨_,rfl,hr,by simp only[qA,seval,F],by simp only[qA,seval,D],by simp only[qA,seval]⟩
 ·rintro _ ⟨fr,rfl,hr,F,D,H⟩
  rw[acu c t.fl (by omega)]at hr
  have K: ¬((d.length-1+1:Nat):Int)<d.length:=by omega
  simp only[qA,seval,Al,D,H,I.choose_spec.1.lenI,K]
  grind [oS]
theorem YO(hT:uf t zT aT fT)(d:List (Int×Bool))(D:T)(F:GG d D)(r:d.length≤1000):be pE 67 [stV c zT aT fT a7 a8 a9 iq iy iv vs,D] []=some (.i .i64 (tN c t.fl d),[]):=by
 have ZF:=fun fr lh sh H J K N=>aBz t c zT aT fT a7 a8 a9 iq iy iv vs hT d D F r _ rfl _ rfl fr lh sh H J K N
 have YP:=F.choose_spec.1.lenI
 rw[il apE (by simp[c67])]
 unfold tN
 cases I:d.all fun k=>xq t.fl.length k.1 <;> rw[I]at ZF
 ·simp only[qB,seval,c67,ZF,YP,itI]
 ·by_cases O:1≤d.length
  ·have KG:=fun fr lh sh H Du U=>aBA t c zT aT fT a7 a8 a9 iq iy iv vs hT d D F O r (List.all_eq_true.1 I) _ rfl _ rfl fr lh sh H Du U
   cases hc:LV c t.fl d <;> rw[hc]at KG
   all_goals simp only[qB,seval,c67,Tu,KG,ZF,YP,itI]
  ·have Du:(d.length:Int)<1:=by omega
   simp only[qB,seval,c67,YP,Du]
end
def oC(A:List Int)(l:RL):List (List Nat):=(l.filter fun u=>decide (u.2.val A=0)).map Prod.fst
theorem YQ(A:List Int)(l:RL):oC A l= []↔wM A l=true:=by
 unfold oC wM
 rw[List.map_eq_nil_iff,List.filter_eq_nil_iff,List.all_eq_true]
 simp
theorem YR(A:List Int)(l:RL)(k:Nat)(h:k<l.length):oC A (l.take (k+1))=if l[k].2.val A=0 then oC A (l.take k)++ [l[k].1]else oC A (l.take k):=by
 unfold oC
 rw[List.take_succ_eq_append_getElem h,List.filter_append,List.map_append]
 by_cases i:l[k].2.val A=0 <;> simp[i]
theorem P9(A:List Int)(l:RL):(oC A l).length≤l.length:=by
 unfold oC
 rw[List.length_map]
 exact List.length_filter_le _ _
section
variable(c:Ct)(zT aT fT a7 a8 a9 iq iy iv m r1 r2 r3 c1 c2 c3 cr nb:T)(A:List Int)(qn:T)(kM:IsSl qn A.length (ints A))
include kM
theorem aBB(l:RL)(hr:IM 4 l r1)(sP: ∀u∈l,E4 A u.2)(N:l.length≤1000)(fr:Fr)(lh:iw b8)(sh:List b8)(F:an fr 0=stV c zT aT fT a7 a8 a9 iq iy iv (E5 m r1 r2 r3 c1 c2 c3 cr nb))(O:an fr 1= .i .i64 1)(U:an fr 2=qn)(h7:an fr 7= .nilsl)(E6:an fr 19= .i .i64 (l.length:Int))(J:an fr 20= .i .i64 0):
  Lp pE 46 wV fr lh sh (.ext 0) fun f q s=>s=sh∧jO q (an f 7) 43 1 (oC A l).length ((oC A l).map T.s):=by
 refine kE Jp (fun k f q s=>an f 20= .i .i64 (k:Int)∧s=sh∧jO q (an f 7) 43 1 (oC A (l.take k)).length ((oC A (l.take k)).map T.s)) l.length ⟨J,rfl,by rw[h7];exact jO.nil⟩ ?_ ?_
 ·rintro k f q _ hk H ⟨ZP,rfl,r⟩
  have V:(k:Int)<l.length:=by omega
  have W:=iO (k:=k) (by omega)
  obtain⟨b,cb,rr,X,mZ,sg⟩:=(H2 hr).2 k hk
  have Y:=Ec A qn kM l[k].2 b cb rr mZ sg (sP _ (List.getElem_mem hk))
  have Z:=kM.froz
  have K:=P9 A (l.take k)
  rw[List.length_take]at K
  have I:=fun(x:T) (iU:iw b8) (iX:List b8) (e:b7 iU 43=b7 q 43)=>nq (sh:=iX) (r.congr e) [x] rfl (bytes:=16) (by unfold roomy;omega) true
  have AW:=r.notS
  rw[YR A l k hk]
  generalize oC A (l.take k)=B at*
  generalize D:an f 7=v7 at r I AW
  generalize l[k]=u at*
  generalize u.2.val A=x at*
  unfold stV jz E5 at F
  simp only[List.cons_append,List.nil_append]at F
  by_cases hx:x=0
  ·simp(maxDischargeDepth:=6) only[qA,seval,gd,repl,kZ,wV,H,F,O,U,E6,ZP,D,V,X,W,Y,Z,Ar,hx,I,AW]
   obtain⟨_,k1,k2⟩:=I (.s u.1) q _ rfl
   rw[show(B++ [u.1]).map T.s=B.map T.s++ [.s u.1]by simp,show(B++ [u.1]).length=B.length+1 by simp]
   exact k1
  ·simp(maxDischargeDepth:=6) only[qA,seval,gd,repl,kZ,wV,H,F,O,U,E6,ZP,D,V,X,W,Y,Z,Ar,hx,I,AW]
   exact r
 ·rintro f q _ H ⟨ZP,rfl,r⟩
  rw[List.take_length]at r
  simp only[qA,seval,gd,wV,H,E6,ZP,Int.lt_irrefl]
  exact r
theorem akI(l:RL)(hr:IM 4 l r1)(F: ∀u∈l,E4 A u.2)(r:l.length≤1000):be pE 69 [stV c zT aT fT a7 a8 a9 iq iy iv (E5 m r1 r2 r3 c1 c2 c3 cr nb),.i .i64 1,qn] []=some (lN (oC A l).length ((oC A l).map T.s),[]):=by
 have H:=fun fr lh sh=>aBB c zT aT fT a7 a8 a9 iq iy iv m r1 r2 r3 c1 c2 c3 cr nb A qn kM l hr F r fr lh sh
 have BY:=H4 A qn kM
 have I:=(H2 hr).1
 have J:=kM.froz
 unfold stV jz E5 at*
 simp only[List.cons_append,List.nil_append]at*
 rw[il apH (by simp[c69])]
 simp(maxDischargeDepth:=6) only[qA,seval,kZ,c69,BY,I,J,agV]
 generalize K:DC pE 46 (.loop wV) _=D
 obtain⟨O,l2,s2,rfl,⟨rfl,N⟩,U⟩:=Cq Jp K (H _ _ _ (by simp only[qA,seval]) (by simp only[qA,seval]) (by simp only[qA,seval]) (by simp only[qA,seval]) (by simp only[qA,seval]) (by simp only[qA,seval]))
 have e:=N.fzV (sh:=([]:List b8)) (keep:=false)
 simp(maxDischargeDepth:=6) only[qA,Fw,seval,e]
end
def YS(l:List (List Nat)):List T:=l.flatMap fun s=> [.i .i64 1,.i .i64 0,.s s]
theorem auy(l:List (List Nat))(K:l.length≤1000):be pE 68 [.nilsl,.i .i64 1,.i .i64 0,lN l.length (l.map T.s)] []=some (lN l.length (YS l),[]):=by
 have hl:IsSl (lN l.length (l.map T.s)) l.length (l.map T.s):=od fun h=>by rw[List.length_eq_zero_iff.1 h];rfl
 have U:=hl.lenI
 have hz:=hl.froz
 have V: ∀fr lh sh,an fr 0= .nilsl→an fr 1= .i .i64 1→an fr 2= .i .i64 0→an fr 11=lN l.length (l.map T.s)→an fr 12= .i .i64 (l.length:Int)→an fr 13= .i .i64 0→Lp pE 26 Am fr lh sh (.ext 0) fun f q s=>s=sh∧jO q (an f 0) 23 3 l.length (YS l):=by
  intro fr lh sh W X Y H F Z
  refine kE Jo (fun k f q s=>an f 13= .i .i64 (k:Int)∧s=sh∧jO q (an f 0) 23 3 k (YS (l.take k))) l.length ⟨Z,rfl,by rw[W];exact jO.nil⟩ ?_ ?_
  ·rintro k f q _ hk I ⟨Td,rfl,r⟩
   have iW:(k:Int)<l.length:=by omega
   have hw:=iO (k:=k) (by omega)
   have N:=fun kk=>hl.ia (sz:=1) (k:=k) (kk:=kk) (by rw[List.length_map,Nat.mul_one]) hk
   rw[Nat.mul_one,List.drop_eq_getElem_cons (by rw[List.length_map];exact hk),List.getElem_map]at N
   have O:=fun(x:T) (iU:iw b8) (iX:List b8) (e:b7 iU 23=b7 q 23)=>nq (sh:=iX) (r.congr e) [.i .i64 1,.i .i64 0,x] rfl (bytes:=32) (by unfold roomy;omega) true
   have AW:=r.notS
   rw[List.take_succ_eq_append_getElem hk,show YS (l.take k++ [l[k]])=YS (l.take k)++ [.i .i64 1,.i .i64 0,.s l[k]]by unfold YS;rw[List.flatMap_append];rfl]
   generalize YS (l.take k)=B at*
   generalize J:an f 0=v7 at r O AW
   simp(maxDischargeDepth:=6) only[qA,seval,gd,repl,Am,I,X,Y,H,F,Td,J,iW,N,hw,O,AW]
  ·rintro f q _ I ⟨Td,rfl,r⟩
   rw[List.take_length]at r
   simp only[qA,seval,gd,Am,I,F,Td,Int.lt_irrefl]
   exact r
 rw[il apG (by simp[c68])]
 simp(maxDischargeDepth:=6) only[qA,seval,c68,U]
 generalize hD:DC pE 26 (.loop Am) _=D
 obtain⟨f2,l2,s2,rfl,⟨rfl,r⟩,nw⟩:=Cq Jo hD (V _ _ _ (by simp only[qA,seval]) (by simp only[qA,seval]) (by simp only[qA,seval]) (by simp only[qA,seval]) (by simp only[qA,seval]) (by simp only[qA,seval]))
 have e:=r.fzV (sh:=([]:List b8)) (keep:=false)
 simp(maxDischargeDepth:=6) only[qA,Fw,seval,e]
end Go.Proofs.YtcpceiclnbmgiaaGreat
