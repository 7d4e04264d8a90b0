/- Walks of functions of the program and of the reference, and their plain laws, part 34. Conditions: the theorems' own. -/
import Derived.Test.YtcpceiclnbmgiaaGreatM33
import Derived.KernelRfl
set_option maxRecDepth 100000
set_option linter.unusedSimpArgs false
set_option linter.unusedVariables false
set_option maxHeartbeats 16000000
namespace Go.Proofs.YtcpceiclnbmgiaaGreat
open Go Go.Ev
def rJ(b:Nat→Int):List T:=jE (rI b) (SJ b) (HW (rI b).ru.length ((rI b).ru.flatMap mU)) (HW (rI b).co.length ((rI b).co.flatMap ua)) (HW (rI b).cr.length ((rI b).cr.flatMap mV)) .nilsl .nilsl
theorem atS(b:Nat→Int): ∃s,be pE 47 [.s (pN (R5 b))] []=some (.tup [.agg (rJ b),.i .i64 0,.i .i64 0],s):=by
 obtain⟨K,N⟩:=akn b
 have hl:=PF b
 have O:Rs (rI b):=afE _ (X2 b) _ _ _ (kW _ _ _) (kW _ _ _) (D6 b).1
 have D:=ako b
 have hs:pT (rI b)=true:=by
  by_cases h:pT (rI b)=true
  ·exact h
  ·unfold mE at D
   simp[h]at D
   split at D <;> simp at D
 have H:=Ys (rI b) _ _ _ _ _ _ (afC b) (O.sm hs)
 rw[D]at H
 have LV:(rI b).cr.length≤1:=(D6 b).2
 have hc:(rI b).cr.flatMap mV= []∨((rI b).cr.flatMap mV).length=4:=by
  cases h:(rI b).cr with
  |nil=>exact .inl rfl
  |cons x r=>
   rw[h]at LV
   have:r= []:=List.length_eq_zero_iff.1 (by simpa using LV)
   subst this
   exact .inr (by simp[yY])
 have I:=fun q lh=>akl (iK:=SJ b) (sn:=snU) (x0:= .i .i64 (rpB (kB b 0))) (x1:= .i .i64 (rlB (kB b 1))) (x2:= .i .i64 (MW (kB b 2))) (x3:= .i .i64 (EV (kB b 3))) (x4:= .i .i64 (lyB (kB b 4))) (x5:= .i .i64 (nfB (kB b 5))) (x6:= .i .i64 (ntB (kB b 5))) (hx:=⟨rfl,rfl,rfl,rfl,rfl,rfl,rfl,rfl⟩) (n:=(rI b).ru.length) (m:=(rI b).co.length) (rs:=(rI b).ru.flatMap mU) (ks:=(rI b).co.flatMap ua) (cr:=(rI b).cr.flatMap mV) (hr:=nR (fun u=>by unfold mU;rw[List.length_cons,List.length_cons,yY]) _) (hk:=nR (fun u=>by unfold ua;rw[List.length_cons,yY]) _) (hc:=hc) (q:=q) (lh:=lh)
 have F:(if(rI b).cr.flatMap mV= []then 0 else 1)=(rI b).cr.length:=by
  cases h:(rI b).cr with
  |nil=>rfl
  |cons x r=>
   rw[h]at LV
   have:r= []:=List.length_eq_zero_iff.1 (by simpa using LV)
   subst this
   obtain⟨d,e,_⟩:=iM x
   rw[List.flatMap_cons,e]
   rfl
 simp only[F]at I
 have J:=akk b
 unfold atQ at J
 exact Yr (R5 b) K N (by omega) _ (rJ b) _ rfl (fun q lh=>I q lh) J _ H
theorem akp(xs:List Int)(la:T)(hl:IsSl la xs.length (ints xs)):be pE 20 [la] []=some (.agg (rJ (ji xs)),[]):=by
 obtain⟨s,H⟩:=atS (ji xs)
 have I:=acG xs la hl
 have J:=hl.froz
 have r:(rJ (ji xs)).length=14:=rfl
 have K:(rJ (ji xs)).all froz1=true:=by
  unfold rJ jE SJ HW
  repeat' split
  all_goals rfl
 have O4:(rJ (ji xs)).take 14=rJ (ji xs):=by rw[←r];exact List.take_length
 have D:=rj [T.i IntKind.i64 0,T.i IntKind.i64 0,T.i IntKind.i64 0,T.i IntKind.i64 0,T.i IntKind.i64 0,T.i IntKind.i64 0,T.i IntKind.i64 0,T.nilsl,T.nilsl,T.nilsl,T.nilsl,T.nilsl,T.nilsl,T.i IntKind.i64 0] (rJ (ji xs)) (by rw[r];rfl)
 generalize rJ (ji xs)=cs at*
 have F:=fun m lh sh keep=>Dv (m:=m) (lh:=lh) (sh:=sh) (keep:=keep) K
 rw[gQ aga (by simp[c20])]
 simp(maxDischargeDepth:=6) only[qA,seval,c20,repl,I,H,J,awz,awy,r,O4,D,F]
end Go.Proofs.YtcpceiclnbmgiaaGreat
namespace Go.Ev
open Go
def Nk(lh:gW b8)(sh:List b8)(args:List T):List (Sp×Nat):=(iL (fz false iq) args).log (St.mk .nil lh sh).get sh.length
theorem Sc(r:List (Sp×Nat)):lW r []=true:=by unfold lW;rw[List.all_eq_true];intro x _;rfl
theorem PH{E:Env}{call:pw}{n:Nat}{fr:Fr}{lh:gW b8}{sh:List b8}{ds:List (List Nat×dy)}{jl:List FP}{u:List Nat}{d:Option Nat}{f:Nat}{af:gP}{i:List im}{args:List T}(D:E.fn f=some af)(F:af.eff=false)(H:af.own=none)(I:i.map (rd fr)=args){q:List T×List Up}(r:BJ lh sh false args=some q){v:T}{s:List b8}(hc:call f q.1 []=some (v,s)){w:List (Sp×Nat)}(J:(if scalar v=true then []else jX q.2)=w):
  iw E call n ((u,⟨d,.callf f i,none⟩)::ds) jl ⟨fr,lh,sh⟩=if meets u jl ⟨false,Nk lh sh args,w⟩=true then ke E call n ds (jl++ [⟨false,Nk lh sh args,w⟩]) (dE E call n [⟨d,.callf f i,none⟩] ⟨fr,lh,sh⟩)else none:=by
 subst I J
 refine sk fun O=> ?_
 unfold jy lD
 have K:jd (St.mk fr lh sh).rho (.callf f i)=some (some (f,i.map (rd fr))):=by rw[ko];rfl
 unfold BJ at r
 unfold Nk
 rw[←qu (fr:=fr)]at r ⊢
 simp only[K,D,F,r]
 have N:inB (St.mk fr lh sh) q.2=true:=Dx (fun t p h=>V1 _ _ t p h) _ _ r
 simp only[N,Bool.not_true,Bool.false_eq_true,if_false,H,hc]
end Go.Ev
namespace Go.Proofs.YtcpceiclnbmgiaaGreat
open Go Go.Ev
def baT:T:= .sl [.s [65,65,65],.s [66,66,66]] 2 true
theorem akr:be pE 21 [] []=some (baT,[]):=by
 rw[gQ agb (by simp[c21])]
 unfold baT
 simp(maxDischargeDepth:=6) only[qA,seval,c21,repl]
theorem Yt{q:gW b8}{v:T}{k:Nat}{cs:List T}(h:jG q v k 1 60 cs): ∃g wm,v= .isl .L k g 0 60 1∧b7 q k=⟨g,.cells cs wm false⟩∧ ∀(lh:gW b8) (sh:List b8) (keep:Bool),b7 lh k=⟨g,.cells cs wm false⟩→fzV lh sh keep (.isl .L k g 0 60 1)=some (mQ 60 cs,[(.L,k,⟨g,.cells cs cs.length false⟩)]):=by
 rcases h with⟨r,_⟩|⟨g,wm,rfl,ho,hl,hp⟩
 ·cases r
 ·refine⟨g,wm,rfl,ho,fun lh sh keep i=> ?_⟩
  have D:jG lh (.isl .L k g 0 60 1) k 1 60 cs:=Or.inr ⟨g,wm,rfl,i,hl,hp⟩
  rw[D.fzV]
  unfold Y8
  simp only[i]
section
variable(xs:List Int)(la:T)(hl:IsSl la xs.length (ints xs))
include hl
def tA(xs:List Int):Nat→Int:=ji (atR (ji xs) 60)
def Gv(xs:List Int):Nat→Int:=ji (atR (fun i=>ji xs (60+i)) 60)
def oA(xs:List Int):Nat→Int:=ji (atR (fun i=>ji xs (120+i)) 60)
def SK(xs:List Int):T:=mQ (uK (tA xs)) ((wW (tA xs)).fl.flatMap Io)
def oTB(xs:List Int):T:=mQ (HK (oA xs) (uK (tA xs))).length (ints ((HK (oA xs) (uK (tA xs))).map Int.ofNat))
omit hl in
theorem HX(xs:List Int):IsSl (SK xs) (uK (tA xs)) ((wW (tA xs)).fl.flatMap Io):=nS fun h=>by
 have:=tE (tA xs);omega
omit hl in
theorem Cf(xs:List Int):IsSl (oTB xs) (HK (oA xs) (uK (tA xs))).length (ints ((HK (oA xs) (uK (tA xs))).map Int.ofNat)):=nS fun h=>by
 rw[List.length_eq_zero_iff.1 h];rfl
theorem ac0:be pE 7 [la] []=some (.tup [.agg [Gp,Gq,SK xs],.agg (rJ (Gv xs)),baT,oTB xs],[]):=by
 have hL:=fun fr lh sh=>azm xs la hl fr lh sh
 have hz:=hl.froz
 have h6:=fun(f:Nat→Int)=>Py f 60
 have N: ∀f:Nat→Int,IsSl (mQ 60 (ints (atR f 60))) (atR f 60).length (ints (atR f 60)):=fun f=>by
  rw[Py];exact nS fun h=>by cases h
 obtain⟨v,e1,hv⟩:=aju (atR (ji xs) 60) _ (N _)
 have I:=akp _ _ (N fun i=>ji xs (60+i))
 have J:=HX xs
 have K:=ajv _ _ (N fun i=>ji xs (120+i)) Gp Gq (SK xs) _ _ J (by have:=tE (tA xs);omega) ⟨rfl,rfl,J.froz1⟩
 have e4:=akr
 have O:v=SK xs:=hv
 subst O
 have K:be pE 22 [.agg [Gp,Gq,SK xs],mQ 60 (ints (atR (fun i=>ji xs (120+i)) 60))] []=some (oTB xs,[]):=K
 have I:be pE 20 [mQ 60 (ints (atR (fun i=>ji xs (60+i)) 60))] []=some (.agg (rJ (Gv xs)),[]):=I
 have z1:froz1 Gp=true:=rfl
 have z2:froz1 Gq=true:=rfl
 have z3:=J.froz1
 have z4:=(Cf xs).froz1
 have z5:froz1 baT=true:=rfl
 have z6:froz (oTB xs)=true:=(Cf xs).froz
 have k3:froz (SK xs)=true:=J.froz
 have r:(rJ (Gv xs)).length=14:=rfl
 have KS:(rJ (Gv xs)).all froz1=true:=by
  unfold rJ jE SJ HW
  repeat' split
  all_goals rfl
 have U:rJ (Gv xs)=(rJ (Gv xs)).take 14:=(List.take_length (l:=rJ (Gv xs))).symm
 have V:=rj [T.i IntKind.i64 0,T.i IntKind.i64 0,T.i IntKind.i64 0,T.i IntKind.i64 0,T.i IntKind.i64 0,T.i IntKind.i64 0,T.i IntKind.i64 0,T.nilsl,T.nilsl,T.nilsl,T.nilsl,T.nilsl,T.nilsl,T.i IntKind.i64 0] (rJ (Gv xs)) (by rw[r];rfl)
 generalize oTB xs=oT at*
 generalize SK xs=fT at*
 generalize Gp=zT at*
 generalize Gq=aT at*
 generalize baT=bT at*
 generalize rJ (Gv xs)=cs at*
 have O4:cs.take 14=cs:=U.symm
 have W:=fun m lh sh keep=>Dv (m:=m) (lh:=lh) (sh:=sh) (keep:=keep) KS
 rw[gQ fn7 (by simp[c7])]
 simp(maxDischargeDepth:=6) only[qA,seval,c7,repl]
 generalize hD:DC pE 44 (.loop Fc) _=D
 obtain⟨f2,l2,s2,rfl,⟨rfl,hA,hB,hC,o2,o3⟩,X⟩:=E7 Nr hD (hL _ _ _ (by simp only[qA,seval]) (by simp only[qA,seval]) (by simp only[qA,seval]) (by simp only[qA,seval]) (by simp only[qA,seval]))
 have q2:an f2 2= .ptr .L 2 1 0:=by rw[X 2 (by decide)];simp only[qA,seval]
 have q3:an f2 3= .ptr .L 3 1 0:=by rw[X 3 (by decide)];simp only[qA,seval]
 have Y:b7 l2 2=⟨1,.cells [.nilsl,.nilsl,.nilsl] 0 true⟩:=by rw[o2];simp only[qA,seval]
 have Z:b7 l2 3=⟨1,.cells [T.i IntKind.i64 0,T.i IntKind.i64 0,T.i IntKind.i64 0,T.i IntKind.i64 0,T.i IntKind.i64 0,T.i IntKind.i64 0,T.i IntKind.i64 0,T.nilsl,T.nilsl,T.nilsl,T.nilsl,T.nilsl,T.nilsl,T.i IntKind.i64 0] 0 true⟩:=by rw[o3];simp only[qA,seval]
 obtain⟨gA,wA,vA,oA',zA⟩:=Yt hA
 obtain⟨F,wB,vB,oB',zB⟩:=Yt hB
 obtain⟨H,wC,vC,oC',zC⟩:=Yt hC
 clear X hL hA hB hC o2 o3 hD
 generalize mQ 60 (ints (atR (ji xs) 60))=xA at*
 generalize mQ 60 (ints (atR (fun i=>ji xs (60+i)) 60))=xB at*
 generalize mQ 60 (ints (atR (fun i=>ji xs (120+i)) 60))=xC at*
 generalize ints (atR (ji xs) 60)=cA at*
 generalize ints (atR (fun i=>ji xs (60+i)) 60)=cB at*
 generalize ints (atR (fun i=>ji xs (120+i)) 60)=cC at*
 have d39: ∀fr lh ds jl (u:List Nat),an fr 38= .isl .L 27 F 0 60 1→b7 lh 27=⟨F,.cells cB wB false⟩→iw pE (be pE) 44 ((u,⟨some 39,.callf 20 [.t 38],none⟩)::ds) jl ⟨fr,lh,[]⟩=if meets u jl ⟨false,Nk lh [] [.isl .L 27 F 0 60 1],[(.L,27)]⟩=true then ke pE (be pE) 44 ds (jl++ [⟨false,Nk lh [] [.isl .L 27 F 0 60 1],[(.L,27)]⟩]) (dE pE (be pE) 44 [⟨some 39,.callf 20 [.t 38],none⟩] ⟨fr,lh,[]⟩)else none:=by
  intro fr lh ds jl u g1 g2
  refine PH aga rfl rfl (by simp only[qA,seval,g1]) (q:=([xB],[(.L,27,⟨F,.cells cB cB.length false⟩)])) ?_ I rfl
  simp(maxDischargeDepth:=6) only[qA,seval,zB,g2]
 have d43: ∀fr lh ds jl (u:List Nat),an fr 41= .agg [zT,aT,fT]→an fr 42= .isl .L 34 H 0 60 1→b7 lh 34=⟨H,.cells cC wC false⟩→iw pE (be pE) 44 ((u,⟨some 43,.callf 22 [.t 41,.t 42],none⟩)::ds) jl ⟨fr,lh,[]⟩=if meets u jl ⟨false,Nk lh [] [.agg [zT,aT,fT],.isl .L 34 H 0 60 1],if scalar oT=true then []else [(.L,34)]⟩=true then ke pE (be pE) 44 ds (jl++ [⟨false,Nk lh [] [.agg [zT,aT,fT],.isl .L 34 H 0 60 1],if scalar oT=true then []else [(.L,34)]⟩]) (dE pE (be pE) 44 [⟨some 43,.callf 22 [.t 41,.t 42],none⟩] ⟨fr,lh,[]⟩)else none:=by
  intro fr lh ds jl u g1 g2 g3
  refine PH agc rfl rfl (by simp only[qA,seval,g1,g2]) (q:=([.agg [zT,aT,fT],xC],[(.L,34,⟨H,.cells cC cC.length false⟩)])) ?_ K rfl
  simp(maxDischargeDepth:=6) only[qA,seval,zC,g3,z1,z2,z3]
 by_cases hs:scalar oT=true
 all_goals simp(maxDischargeDepth:=6) only[qA,jq,qw,EW,seval,ig,q2,q3,Y,Z,vA,vB,vC,oA',oB',oC',zA,zB,zC,e1,I,K,e4,d39,d43,awk,awl,awm,awn,awo,z1,z2,z3,z4,z5,z6,r,O4,V,W,KS,Sc,hs]
end
section
variable(o1 o2:List Lg)(x y:T)(hx:RS o1 x)(hy:RS o2 y)(m1: ∀g∈o1,g.du.length≤6)(m2: ∀g∈o2,g.du.length≤6)(l1:o1.length≤1000000000)(l2:o2.length≤1000000000)
include hx hy m1 m2 l1 l2
theorem wi1(i:Nat)(hi:i<o1.length)(mj:o1[i]∈o2)(fr:Fr)(lh:gW b8)(sh:List b8)(h0:an fr 0=x)(N:an fr 1=y)(h5:an fr 5= .i .i64 (i:Int))(h6:an fr 6= .b false)(h7:an fr 7= .i .i64 0):
  Lp pE 34 Fe fr lh sh (.ext 2) fun f l s=>l=lh∧s=sh∧an f 6= .b true:=by
 have _:=l1
 obtain⟨ac,a1,a2⟩:=hx
 obtain⟨bc,O,U⟩:=hy
 have r:=O.lenI
 refine kK Ns (fun k f l s=>an f 7= .i .i64 (k:Int)∧l=lh∧s=sh∧ ∃b,an f 6= .b b∧(o1[i]∈o2.take k→b=true)) o2.length ⟨h7,rfl,rfl,false,h6,by simp⟩ ?_ ?_
 ·rintro k f l s hk H ⟨I,rfl,rfl,b,D,F⟩
  have iP:(k:Int)<o2.length:=by omega
  have hw:=iJ (k:=k) (by omega)
  obtain⟨ca,ra,ea,V⟩:=a2.drop SG.len i hi
  obtain⟨cb,rb,eb,W⟩:=U.drop SG.len k hk
  have X:=fun kk=>a1.ia (sz:=7) (k:=i) (kk:=kk) (a2.len SG.len) hi
  have Y:=fun kk=>O.ia (sz:=7) (k:=k) (kk:=kk) (U.len SG.len) hk
  have hg:=m1 o1[i] (List.getElem_mem hi)
  have hg':=m2 o2[k] (List.getElem_mem hk)
  unfold SG at V W
  subst V W
  rw[ea]at X
  rw[eb]at Y
  have O4:o1[i]∈o2.take (k+1)↔o1[i]∈o2.take k∨o2[k]=o1[i]:=by
   rw[List.take_succ_eq_append_getElem hk,List.mem_append,List.mem_singleton]
   exact or_congr Iff.rfl eq_comm
  have J: ∃q,be pE 26 [.agg (og o1[i] (.sl (px o1[i].du) o1[i].du.length false)),.agg (og o2[k] (.sl (px o2[k].du) o2[k].du.length false))] []=some (.b q,[])∧(o2[k]=o1[i]→q=true):=by
   by_cases Z:o2[k]=o1[i]
   ·rw[Z]
    exact⟨true,aiP o1[i] _ _ (.inr ⟨_,rfl⟩) (.inr ⟨_,rfl⟩) (by omega),fun _=>rfl⟩
   ·obtain⟨q,K⟩:=ajr o1[i] o2[k] (.sl (px o1[i].du) o1[i].du.length false) (.sl (px o2[k].du) o2[k].du.length false) (.inr ⟨_,rfl⟩) (.inr ⟨_,rfl⟩) (by omega) (by omega)
    exact⟨q,K,fun h=>absurd h Z⟩
  obtain⟨q,J,K⟩:=J
  rw[O4]
  unfold og at*
  cases b
  all_goals
   simp(maxDischargeDepth:=6) only[qA,jq,qw,seval,ig,gd,Fe,H,h0,N,h5,I,D,r,iP,hw,X,Y,J,awp,awq]
  ·exact⟨_,rfl,fun h=>h.elim (fun h=>absurd (F h) (by simp)) K⟩
  ·exact⟨_,rfl,fun _=>rfl⟩
 ·rintro f l s H ⟨I,rfl,rfl,b,D,F⟩
  rw[List.take_length]at F
  rw[F mj]at D
  simp only[qA,seval,gd,Fe,H,N,r,I,Int.lt_irrefl]
  exact D
theorem wi2(K: ∀g∈o1,g∈o2)(fr:Fr)(lh:gW b8)(sh:List b8)(H:an fr 0=x)(I:an fr 1=y)(N:an fr 5= .i .i64 0):
  Lp pE 34 Ff fr lh sh (.ext 0) fun f l s=>l=lh∧s=sh:=by
 have Rm:=hx.choose_spec.1.lenI
 refine kK Nt (fun k f l s=>an f 5= .i .i64 (k:Int)∧l=lh∧s=sh) o1.length ⟨N,rfl,rfl⟩ ?_ ?_
 ·rintro k f l s hk r ⟨F,rfl,rfl⟩
  have O:(k:Int)<o1.length:=by omega
  have U:=iJ (k:=k) (by omega)
  simp(maxDischargeDepth:=6) only[qA,seval,gd,Ff,r,H,I,F,Rm,O]
  generalize J:DC pE 34 (.loop Fe) _=D
  obtain⟨V,l2,s2,rfl,⟨rfl,rfl,W⟩,X⟩:=E7 Ns J (wi1 o1 o2 x y hx hy m1 m2 l1 l2 k hk (K _ (List.getElem_mem hk)) _ _ _ (by simp only[qA,seval,r,H]) (by simp only[qA,seval,r,I]) (by simp only[qA,seval,F]) (by simp only[qA,seval]) (by simp only[qA,seval]))
  have Y:an V 5= .i .i64 (k:Int):=by rw[X 5 (by decide)];simp only[qA,seval,F]
  clear J
  simp(maxDischargeDepth:=6) only[qA,seval,gd,W,Y,U]
 ·rintro f l s r ⟨F,rfl,rfl⟩
  simp only[qA,seval,gd,Ff,r,H,Rm,F,Int.lt_irrefl]
theorem Yu(i: ∀g∈o1,g∈o2):be pE 9 [x,y] []=some (.b true,[]):=by
 have r:=fun fr lh sh=>wi2 o1 o2 x y hx hy m1 m2 l1 l2 i fr lh sh
 rw[gQ fn9 (by simp[c9])]
 simp(maxDischargeDepth:=6) only[qA,seval,c9]
 generalize F:DC pE 34 (.loop Ff) _=D
 obtain⟨H,l2,s2,rfl,⟨rfl,rfl⟩,I⟩:=E7 Nt F (r _ _ _ (by simp only[qA,seval]) (by simp only[qA,seval]) (by simp only[qA,seval]))
 simp(maxDischargeDepth:=6) only[qA,seval]
end
end Go.Proofs.YtcpceiclnbmgiaaGreat
namespace Go.Ev
open Go
theorem ac1{E:Env}{call:pw}{n:Nat}{fr:Fr}{lh:gW b8}{sh:List b8}{ds:List (List Nat×dy)}{jl:List FP}{u:List Nat}{i sz bytes:Nat}{s x:im}{ex:Bool}(hs:rd fr s= .nilsl)(hx:rd fr x= .sl [] 0 ex):iw E call n ((u,⟨some i,.app sz bytes s x false false,none⟩)::ds) jl ⟨fr,lh,sh⟩=
  ke E call n ds (jl++ [nz]) (dE E call n [⟨some i,.app sz bytes s x false false,none⟩] ⟨fr,lh,sh⟩):=by
 rw[sk (fp:=nz),ux,if_pos rfl]
 intro D
 have F:jm sz (rd fr x)= .ret (0,[]):=by rw[hx];simp[jm]
 obtain⟨v,H,hr,r⟩:=tU (q:=oh i sz bytes (rd fr s) (rd fr x) false false) (by rfl) (by rw[ko];rfl) D
 have I:=He (by rw[hs];rfl) hr
 have r:=r (by rw[I];simp)
 rw[r]
 unfold oh at hr ⊢
 rw[F]at hr ⊢
 rw[hs]at hr ⊢
 simp[Q.bind,Q.run]at hr
 obtain⟨rfl,rfl⟩:=hr
 rfl
theorem aks{sz m k:Nat}{cs:List T}(hk:k≤m)(hc:cs.length=m*sz):Ad sz (.sl cs m false) 0 k=some (.sl (cs.take (k*sz)) k false):=by
 simp[Ad,hk,hc]
theorem akt{sz m k:Nat}{cs:List T}(hk:k≤m)(hc:cs.length=m*sz):Ad sz (.sl cs m false) k m=some (.sl (cs.drop (k*sz)) (m-k) false):=by
 have i:(cs.drop (k*sz)).take ((m-k)*sz)=cs.drop (k*sz):=List.take_of_length_le (by rw[List.length_drop,hc,Nat.sub_mul];exact Nat.le_refl _)
 simp[Ad,hk,hc,i]
end Go.Ev
namespace Go.Proofs.YtcpceiclnbmgiaaGreat
open Go Go.Ev
theorem Gw{lh:gW b8}{sh:List b8}{v:T}{k n q sz bytes d:Nat}{cs ps:List T}(h:jG lh v k sz n cs)(J:n=0→q≠0→k=d)(i:ps.length=q*sz)(hr:(n+q)*bytes≤roomy)(ex:Bool):
  appW lh sh d sz bytes v (.sl ps q ex)=some (nxV lh sh d sz bytes v (.sl ps q ex),Ov lh sh d sz bytes v (.sl ps q ex))∧jG (Ov lh sh d sz bytes v (.sl ps q ex)) (nxV lh sh d sz bytes v (.sl ps q ex)) k sz (n+q) (cs++ps)∧(∀j,j≠k→b7 (Ov lh sh d sz bytes v (.sl ps q ex)) j=b7 lh j):=by
 have D: ∃F r,appW lh sh d sz bytes v (.sl ps q ex)=some (F,r)∧jG r F k sz (n+q) (cs++ps)∧ ∀j,j≠k→b7 r j=b7 lh j:=by
  unfold appW
  rw[G6,if_pos i,Option.bind_some]
  cases q with
  |zero=>
   have:ps= []:=List.length_eq_zero_iff.1 (by rw[i,Nat.zero_mul])
   subst this
   refine⟨v,lh, ?_,by simpa using h,fun _ _=>rfl⟩
   rcases h with⟨_,rfl,_⟩|⟨g,wm,rfl,_⟩ <;> rfl
  |succ q=>
   rcases h with⟨rfl,rfl,rfl⟩|⟨g,wm,rfl,H,h3,h4⟩
   ·have hk:=J rfl (by omega)
    subst hk
    rw[yn,if_pos (by simpa using hr)]
    refine⟨_,_,rfl,Or.inr ⟨_,_,by rw[Nat.zero_add],sg _ _ _,by simpa using i,by omega⟩,fun j I=>jh _ _ I⟩
   ·rw[Dt,H,wF,if_pos ⟨rfl,rfl,hr,rfl,h3.symm⟩]
    refine⟨_,_,rfl,Or.inr ⟨_,_,rfl,sg _ _ _,by rw[List.length_append,h3,i,Nat.add_mul n (q+1)],by omega⟩,fun j I=>jh _ _ I⟩
 obtain⟨F,r,e,K,H⟩:=D
 unfold nxV Ov
 rw[e]
 exact⟨rfl,K,H⟩
def upL(lh:gW b8)(us:List Up):gW b8:=((St.mk .nil lh []).ups us).lh
theorem ac2{fr:Fr}{lh i:gW b8}{sh:List b8}{v:T}:(St.mk fr lh sh).ups (Y8 i v)=⟨fr,upL lh (Y8 i v),sh⟩:=by
 unfold upL Y8
 split
 ·split <;> rfl
 ·rfl
section
variable(la zT aT fT bT oT x y d u0 u1 u2 u3 u4 u5 u6 a7 a9 gX hU gZ u13:T)(H0 Dr:Int)(s1 s2 s3 s4:List b8)
 (Rm:froz la=true) (zz:froz1 zT=true∧froz1 aT=true∧froz1 fT=true∧froz1 oT=true∧froz1 x=true∧froz1 y=true∧froz1 d=true∧froz1 bT=true)
 (zc:froz1 u0=true∧froz1 u1=true∧froz1 u2=true∧froz1 u3=true∧froz1 u4=true∧froz1 u5=true∧froz1 u6=true∧froz1 a7=true∧froz1 a9=true∧froz1 gX=true∧froz1 hU=true∧froz1 gZ=true∧froz1 u13=true)
 (SA:be pE 9 [x,y] []=some (.b true,[])) (F1:be pE 9 [x,d] []=some (.b true,[])) (haw:be pE 10 [] []=some (.b true,s4))
include Rm zz zc SA F1 haw
theorem aAH(r:be pE 7 [la] []=some (.tup [.agg [zT,aT,fT],.agg [u0,u1,u2,u3,u4,u5,u6,a7,.nilsl,a9,gX,hU,gZ,u13],bT,oT],[]))
  (X:be pE 8 [.agg [zT,aT,fT],.agg [u0,u1,u2,u3,u4,u5,u6,a7,.nilsl,a9,gX,hU,gZ,u13],oT,.i .i64 (H0%2)] []=some (.tup [x,.i .i64 0],s1))
  (Y:be pE 8 [.agg [zT,aT,fT],.agg [u0,u1,u2,u3,u4,u5,u6,a7,.nilsl,a9,gX,hU,gZ,u13],oT,.i .i64 (H0%2+1)] []=some (.tup [y,.i .i64 0],s2)) (D:d=x):
  ∃s,be pE 3 [la,.i .i64 H0,.i .i64 Dr] []=some (.b true,s):=by
 subst D
 obtain⟨Z,z2,z3,z4,z5,z6,z7,z8⟩:=zz
 obtain⟨c0,c1,c2,F,H,I,J,K,N,O,U,V,W⟩:=zc
 have f5:froz d=true:=by cases d <;> simp_all[froz1,froz]
 have f6:froz y=true:=by cases y <;> simp_all[froz1,froz]
 have f8:froz oT=true:=by cases oT <;> simp_all[froz1,froz]
 have w1:wr .i64 (H0%2+1)=H0%2+1:=jj (by omega)
 rw[gQ fn3 (by simp[c3])]
 simp(maxDischargeDepth:=6) only[qA,jq,qw,EW,seval,ig,c3,r,dc7,dc8,dc9,aoG,Rm,Z,z2,z3,z4,z5,z6,z7,z8,c0,c1,c2,F,H,I,J,K,N,O,U,V,W,X,Y,SA,F1,haw,w1,f5,f6,f8,ahX]
theorem aAN(cs:List T)(m:Nat)(hm:0<m)(hm2:m≤1000)(O:cs.length=m*6)
  (U:be pE 7 [la] []=some (.tup [.agg [zT,aT,fT],.agg [u0,u1,u2,u3,u4,u5,u6,a7,.sl cs m false,a9,gX,hU,gZ,u13],bT,oT],[]))
  (h1:be pE 8 [.agg [zT,aT,fT],.agg [u0,u1,u2,u3,u4,u5,u6,a7,.sl cs m false,a9,gX,hU,gZ,u13],oT,.i .i64 (H0%2)] []=some (.tup [x,.i .i64 0],s1))
  (h2:be pE 8 [.agg [zT,aT,fT],.agg [u0,u1,u2,u3,u4,u5,u6,a7,.sl cs m false,a9,gX,hU,gZ,u13],oT,.i .i64 (H0%2+1)] []=some (.tup [y,.i .i64 0],s2))
  (k:Nat) (hk:k<m) (YY:(k:Int)=Dr%65536%m)
  (h3:be pE 8 [.agg [zT,aT,fT],.agg [u0,u1,u2,u3,u4,u5,u6,a7,mQ (m-1) (cs.take (k*6)++cs.drop ((k+1)*6)),a9,gX,hU,gZ,u13],oT,.i .i64 (H0%2)] []=some (.tup [d,.i .i64 0],s3)):
  ∃s,be pE 3 [la,.i .i64 H0,.i .i64 Dr] []=some (.b true,s):=by
 obtain⟨z1,z2,z3,z4,z5,z6,z7,z8⟩:=zz
 obtain⟨c0,c1,c2,V,W,X,Y,Z,c9',aku,akv,akw,akx⟩:=zc
 have f5:froz x=true:=by cases x <;> simp_all[froz1,froz]
 have f6:froz y=true:=by cases y <;> simp_all[froz1,froz]
 have f7:froz d=true:=by cases d <;> simp_all[froz1,froz]
 have f8:froz oT=true:=by cases oT <;> simp_all[froz1,froz]
 have w1:wr .i64 (H0%2+1)=H0%2+1:=jj (by omega)
 have w2:wr .i64 ((k:Int)+1)=((k+1:Nat):Int):=iJ (k:=k) (by omega)
 have hm':(0:Int)<(m:Int):=by omega
 have hm0: ¬(m:Int)=0:=by omega
 have ht:(Dr%65536).tmod (m:Int)=(k:Int):=by rw[YY,lb (by omega)]
 generalize H:cs.take (k*6)=P1 at*
 generalize I:cs.drop ((k+1)*6)=P2 at*
 have J:P1.length=k*6:=by rw[←H,List.length_take,O];omega
 have lP2:P2.length=(m-(k+1))*6:=by rw[←I,List.length_drop,O];omega
 have K:=aks (sz:=6) (m:=m) (cs:=cs) (k:=k) (by omega) O
 have N:=akt (sz:=6) (m:=m) (cs:=cs) (k:=k+1) (by omega) O
 rw[H]at K
 rw[I]at N
 have A2:0+k+(m-(k+1))=m-1:=by omega
 obtain⟨p,hp,hp2,D⟩: ∃p:Nat,(k≠0→p=43)∧(k=0→p=49)∧(p≠7∧p≠8∧p≠11):=by
  by_cases F:k=0
  ·exact⟨49,fun h=>absurd F h,fun _=>rfl,by omega⟩
  ·exact⟨43,fun _=>rfl,fun h=>absurd h F,by omega⟩
 have A:=fun(lh:gW b8) (sh:List b8)=>Gw (sh:=sh) (lh:=lh) (v:= .nilsl) (k:=p) (n:=0) (q:=k) (sz:=6) (bytes:=80) (d:=43) (cs:= []) (ps:=P1) jG.nil (fun _=>hp) J (by unfold roomy;omega) false
 have B:=fun(lh:gW b8) (sh r:List b8)=>Gw (sh:=r) (q:=m-(k+1)) (bytes:=80) (d:=49) (ps:=P2) (A lh sh).2.1 (fun h _=>hp2 (by omega)) lP2 (by unfold roomy;omega) false
 rw[A2]at B
 have A1:=fun lh sh=>(A lh sh).1
 have A7:=fun lh sh=>(A lh sh).2.2 7 (Ne.symm D.1)
 have A8:=fun lh sh=>(A lh sh).2.2 8 (Ne.symm D.2.1)
 have A11:=fun lh sh=>(A lh sh).2.2 11 (Ne.symm D.2.2)
 have AS:=fun lh sh=>(A lh sh).2.1.notS
 have B1:=fun lh sh r=>(B lh sh r).1
 have B7:=fun lh sh r=>(B lh sh r).2.2 7 (Ne.symm D.1)
 have B8:=fun lh sh r=>(B lh sh r).2.2 8 (Ne.symm D.2.1)
 have B11:=fun lh sh r=>(B lh sh r).2.2 11 (Ne.symm D.2.2)
 have BC:=fun lh sh r=>(B lh sh r).2.1.cells
 have BN:=fun lh sh r=>(B lh sh r).2.1.noTup
 have BZ:=fun lh sh r e n keep=>((B lh sh r).2.1.congr (jh _ e D.2.2)).fzW (m:=n) (sh:=r) (keep:=keep)
 rw[List.nil_append]at BZ
 clear A B
 obtain⟨fp,hfa,d43⟩: ∃fp:FP,apart fp ⟨false,[(.L,8)],[]⟩=true∧ ∀fr lh ds jl,an fr 42= .sl P1 k false→iw pE (be pE) 97 (([],⟨some 43,.app 6 80 (.c .nilsl) (.t 42) false false,none⟩)::ds) jl ⟨fr,lh,[]⟩=ke pE (be pE) 97 ds (jl++ [fp]) (dE pE (be pE) 97 [⟨some 43,.app 6 80 (.c .nilsl) (.t 42) false false,none⟩] ⟨fr,lh,[]⟩):=by
  by_cases F:k=0
  ·have hP:P1= []:=List.length_eq_zero_iff.1 (by rw[J,F])
   refine⟨nz,rfl,fun fr lh ds jl h=>ac1 (ex:=false) rfl ?_⟩
   rw[F,hP]at h
   exact h
  ·refine⟨⟨false,[(.L,43)],[(.L,43)]⟩,rfl,fun fr lh ds jl h=> ?_⟩
   have lO:isNe (rd fr (.t 42))=true:=by
    show isNe (an fr 42)=true
    rw[h]
    cases k with
    |zero=>exact absurd rfl F
    |succ k=>rfl
   rw[V2 rfl lO]
   rfl
 by_cases hs:scalar (T.tup [d,.i .i64 0])=true
 all_goals
  rw[gQ fn3 (by simp[c3])]
  simp(maxDischargeDepth:=6) only[qA,jq,qw,EW,lR,seval,ig,c3,U,dc7,dp8,dc9,aoG,Rm,z1,z2,z3,z4,z5,z6,z7,z8,c0,c1,c2,V,W,X,Y,Z,c9',aku,akv,akw,akx,h1,h2,h3,SA,F1,haw,w1,w2,f5,f6,f7,f8,ahX,hm',hm0,ht,K,N,A1,A7,A8,A11,AS,B1,B7,B8,B11,BC,BN,BZ,hfa,d43,hs,ac2,aeW,JV]
end
theorem K1: ∀l:List Fl,hZ Rq l (l.flatMap Io)
 | []=>rfl
 |u::l=>⟨_,_,rfl,rfl,K1 l⟩
theorem atU(xs:List Int):wM (wW (tA xs)) Gp Gq (SK xs):=by
 refine⟨⟨_,.inr ⟨_,rfl⟩, ?_⟩,⟨_,.inr ⟨_,rfl⟩, ?_⟩,⟨_, ?_,K1 _⟩⟩
 ·exact⟨[_,_,_],_,rfl,⟨.nilsl,[],rfl,.inl ⟨rfl,rfl,rfl⟩,rfl⟩,[_,_,_],_,rfl,⟨_,_,rfl,.inr ⟨_,rfl⟩,[_,_],[_,_],rfl,rfl,[_,_],[],rfl,rfl,rfl⟩,[_,_,_],_,rfl,⟨_,_,rfl,.inr ⟨_,rfl⟩,[_,_],[],rfl,rfl,rfl⟩,rfl⟩
 ·exact⟨[_,_],_,rfl,rfl,[_,_],_,rfl,rfl,[_,_],_,rfl,rfl,rfl⟩
 ·rw[yQ];exact HX xs
theorem HY(u:Ru):(mU u).length=6:=by
 obtain⟨i,r,x⟩:=u
 cases x
 unfold mU mV
 first|rfl|(split <;> rfl)|simp
theorem Yv(l:List Ru):(l.flatMap mU).length=l.length*6:=nR (sz:=6) HY l
theorem K2: ∀(l:List Ru) (k:Nat),(l.flatMap mU).take (k*6)=(l.take k).flatMap mU
 |_,0=>by simp
 | [],k+1=>by simp
 |u::l,k+1=>by
  rw[List.flatMap_cons,List.take_succ_cons,List.flatMap_cons,show(k+1)*6=(mU u).length+k*6 by rw[HY];omega,List.take_length_add_append,K2 l k]
theorem K3: ∀(l:List Ru) (k:Nat),(l.flatMap mU).drop (k*6)=(l.drop k).flatMap mU
 |_,0=>by simp
 | [],k+1=>by simp
 |u::l,k+1=>by
  rw[List.flatMap_cons,List.drop_succ_cons,show(k+1)*6=(mU u).length+k*6 by rw[HY];omega,List.drop_length_add_append,K3 l k]
theorem enC(xs:List Int)(k:Nat→Nat)(hk: ∀i,k i≤2)(r:List Ru)(D:List Co)(cr:List Ex)(J:r.Sublist lU)(K:D.Sublist pM)(N: ∀x∈cr,x∈Im)(W:cr.length≤1)(a7 F a9 gX hU gZ:T)(X:uc (D5 k r D cr) a7 F a9 gX hU gZ)(H:Nat)(O:H≤2):
  ∃v s,be pE 8 [.agg [Gp,Gq,SK xs],.agg (jE (D5 k r D cr) a7 F a9 gX hU gZ),oTB xs,.i .i64 (H:Int)] []=some (.tup [v,.i .i64 0],s)∧RS (qM (uK (tA xs)) (jn (D5 k r D cr) (wW (tA xs)).fl) (pL (X3 (oA xs) (uK (tA xs)))) (OZ (wW (tA xs)) (D5 k r D cr)) (BB (wW (tA xs)) (D5 k r D cr)) H) v:=by
 have hn:=tE (tA xs)
 have hl:=yQ (tA xs)
 have Y:=afE k hk r D cr J K N
 have Z:IsSl (oTB xs) (X3 (oA xs) (uK (tA xs))).length (ints (X3 (oA xs) (uK (tA xs)))):=by
  have:=Cf xs
  unfold X3
  rw[List.length_map]
  exact this
 obtain⟨v,s,e,U⟩:=XT (wW (tA xs)) (D5 k r D cr) Gp Gq (SK xs) a7 F a9 gX hU gZ (atU xs) X Y (by omega) _ _ Z (by have:=acy (oA xs) (uK (tA xs));omega) (H:Int)
 have hc:=X1 k hk r D cr J K N W
 have I:=ajo k hk r D cr
 have V:=ajn (tA xs) (oA xs) (D5 k r D cr) I H O
 unfold ajc at V
 rw[if_pos (acz (tA xs) (oA xs) _ hc H O),Int.toNat_natCast,if_neg V]at e
 rw[Int.toNat_natCast,hl]at U
 exact⟨v,s,e,U⟩
theorem ac3(xs:List Int)(la:T)(hl:IsSl la xs.length (ints xs))(H0 Dr:Int): ∃s,be pE 3 [la,.i .i64 H0,.i .i64 Dr] []=some (.b true,s):=by
 have D:=ac0 xs la hl
 have Rm:=hl.froz
 obtain⟨s4,haw⟩:=XU
 have hn:=tE (tA xs)
 have K:=afC (Gv xs)
 have zf:=(HX xs).froz1
 have zo:=(Cf xs).froz1
 unfold rJ at D
 unfold rI at K D
 have O:=kW (fun i=>decide (Gv xs (7+i)%4=0)) 0 lU
 have W:=kW (fun i=>decide (Gv xs (30+i)%3=0)) 0 pM
 obtain⟨X,Y⟩:=D6 (Gv xs)
 have hk:=X2 (Gv xs)
 have Z:froz1 (SJ (Gv xs))=true:=rfl
 generalize j0 (fun i=>decide (Gv xs (7+i)%4=0)) 0 lU=ru at*
 generalize j0 (fun i=>decide (Gv xs (30+i)%3=0)) 0 pM=r at*
 generalize crX (Gv xs)=cr at*
 generalize SJ (Gv xs)=a7 at*
 generalize kB (Gv xs)=kk at*
 obtain⟨h,hh,h2⟩: ∃h:Nat,H0%2=(h:Int)∧h≤1:=⟨(H0%2).toNat,by omega,by omega⟩
 have z9:froz1 (HW r.length (r.flatMap ua))=true:=(yZ (n:=r.length) (cs:=r.flatMap ua) fun h=>by rw[List.length_eq_zero_iff.1 h];rfl).froz1
 have N:froz1 (HW cr.length (cr.flatMap mV))=true:=(yZ (n:=cr.length) (cs:=cr.flatMap mV) fun h=>by rw[List.length_eq_zero_iff.1 h];rfl).froz1
 have hru:(D5 kk ru r cr).ru=ru:=rfl
 have tb:(D5 kk ru r cr).co=r:=rfl
 have LV:(D5 kk ru r cr).cr=cr:=rfl
 rw[hru,tb,LV]at K D
 generalize HW r.length (r.flatMap ua)=a9 at*
 generalize HW cr.length (cr.flatMap mV)=gX at*
 obtain⟨x,s1,U,x1⟩:=enC xs kk hk ru r cr O W X Y a7 _ a9 gX .nilsl .nilsl K h (by omega)
 obtain⟨y,s2,V,y1⟩:=enC xs kk hk ru r cr O W X Y a7 _ a9 gX .nilsl .nilsl K (h+1) (by omega)
 have F:=fun c ok H=>acm (uK (tA xs)) (jn c (wW (tA xs)).fl) (pL (X3 (oA xs) (uK (tA xs)))) ok (BB (wW (tA xs)) c) (O0 (wW (tA xs)) c) H
 have I:=fun J lg ok H=>XS (uK (tA xs)) J (pL (X3 (oA xs) (uK (tA xs)))) ok lg (by omega) H
 have w1:=Yu _ _ x y x1 y1 (F _ _ _) (F _ _ _) (I _ _ _ _) (I _ _ _ _) (X0 _ _ _ _ _ _ (fun _ h=>h) h (h+1) (by omega))
 have zx:froz1 x=true:=x1.choose_spec.1.froz1
 have zy:froz1 y=true:=y1.choose_spec.1.froz1
 have zc:froz1 (.i .i64 0)=true:=rfl
 have z7:froz1 a7=true:=Z
 have e2':((h+1:Nat):Int)=H0%2+1:=by omega
 rw[e2']at V
 rw[←hh]at U
 by_cases hm:ru.length=0
 ·have hr0:ru= []:=List.length_eq_zero_iff.1 hm
  subst hr0
  exact aAH la Gp Gq (SK xs) baT (oTB xs) x y x _ _ _ _ _ _ _ a7 a9 gX .nilsl .nilsl _ H0 Dr s1 s2 s4 Rm ⟨rfl,rfl,zf,zo,zx,zy,zx,rfl⟩ ⟨rfl,rfl,rfl,rfl,rfl,rfl,rfl,z7,z9,N,rfl,rfl,rfl⟩ w1 (Yu _ _ x x x1 x1 (F _ _ _) (F _ _ _) (I _ _ _ _) (I _ _ _ _) fun _ h=>h) haw D U V rfl
 ·have aHu:ru.length≤18:=O.length_le
  obtain⟨k,hk1,YY⟩: ∃k:Nat,k<ru.length∧(k:Int)=Dr%65536%(ru.length:Int):=by
   have h1:=Int.emod_nonneg (Dr%65536) (b:=(ru.length:Int)) (by omega)
   have h2:=Int.emod_lt_of_pos (Dr%65536) (b:=(ru.length:Int)) (by omega)
   exact⟨(Dr%65536%(ru.length:Int)).toNat,by omega,by omega⟩
  have tS:(ru.take k++ru.drop (k+1)).Sublist ru:=by
   have:(ru.take k++ru.drop (k+1)).Sublist (ru.take k++ru.drop k):=List.Sublist.append (List.Sublist.refl _) (by rw[←List.drop_drop];exact List.drop_sublist _ _)
   rwa [List.take_append_drop]at this
  have vV:(ru.take k++ru.drop (k+1)).length=ru.length-1:=by rw[List.length_append,List.length_take,List.length_drop];omega
  have hT2:uc (D5 kk (ru.take k++ru.drop (k+1)) r cr) a7 (mQ (ru.length-1) ((ru.flatMap mU).take (k*6)++(ru.flatMap mU).drop ((k+1)*6))) a9 gX .nilsl .nilsl:=by
   refine⟨K.h7, ?_,K.h9,K.h10,K.h11,K.h12⟩
   rw[K2,K3,←List.flatMap_append,←vV]
   exact⟨_,nS fun h=>by rw[List.length_eq_zero_iff.1 h];rfl,Eg _⟩
  obtain⟨d,s3,e3,d1⟩:=enC xs kk hk _ r cr (tS.trans O) W X Y a7 _ a9 gX .nilsl .nilsl hT2 h (by omega)
  rw[←hh]at e3
  have zd:froz1 d=true:=d1.choose_spec.1.froz1
  have w2:=Yu _ _ x d x1 d1 (F _ _ _) (F _ _ _) (I _ _ _ _) (I _ _ _ _) (X0 _ _ _ _ _ _ (fun q hq=>X5 (wW (tA xs)) (D5 kk ru r cr) _ tS q hq) h h (Nat.le_refl _))
  have htr:HW ru.length (ru.flatMap mU)= .sl (ru.flatMap mU) ru.length false:=by unfold HW;rw[if_neg hm]
  rw[htr]at D U V
  exact aAN la Gp Gq (SK xs) baT (oTB xs) x y d _ _ _ _ _ _ _ a7 a9 gX .nilsl .nilsl _ H0 Dr s1 s2 s3 s4 Rm ⟨rfl,rfl,zf,zo,zx,zy,zd,rfl⟩ ⟨rfl,rfl,rfl,rfl,rfl,rfl,rfl,z7,z9,N,rfl,rfl,rfl⟩ w1 w2 haw (ru.flatMap mU) ru.length (by omega) (by omega) (Yv ru) D U V k hk1 YY e3
theorem Wh(la:T)(xs:List Int)(hl:IsSl la xs.length (ints xs))(H0 Dr:Int): ∃s,be pE 3 [la,.i .i64 H0,.i .i64 Dr] []=some (.b true,s):=ac3 xs la hl H0 Dr
end Go.Proofs.YtcpceiclnbmgiaaGreat
