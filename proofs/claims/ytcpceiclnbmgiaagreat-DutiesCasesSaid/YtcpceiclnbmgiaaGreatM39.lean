/- Walks of functions of the program and of the reference, and their plain laws, part 39. Conditions: the theorems' own. -/
import Derived.Test.YtcpceiclnbmgiaaGreatGS
import Derived.Test.YtcpceiclnbmgiaaGreatM11
import Derived.Test.YtcpceiclnbmgiaaGreatM16
import Derived.Test.YtcpceiclnbmgiaaGreatM20
import Derived.Test.YtcpceiclnbmgiaaGreatM23
import Derived.Test.YtcpceiclnbmgiaaGreatM24
import Derived.Test.YtcpceiclnbmgiaaGreatM25
import Derived.Test.YtcpceiclnbmgiaaGreatM26
import Derived.Test.YtcpceiclnbmgiaaGreatM38
import Derived.KernelRfl
set_option maxRecDepth 100000
set_option linter.unusedSimpArgs false
set_option linter.unusedVariables false
set_option maxHeartbeats 16000000
namespace Go.Proofs.YtcpceiclnbmgiaaGreat
open Go Go.Ev
def pU(l:List Nat):Bool:=decide (l.length≤100)&&l.all fun c=>decide (32≤c)&&decide (c≤126)
theorem tV{r:Int}(P:Int→Prop)(h0:P 0)(h1:P 1)(h2:P 2)(n:Int)(h:r=n%3):P r:=by
 have:r=0∨r=1∨r=2:=zO
 rcases this with rfl|rfl|rfl <;> assumption
theorem lo0(n:Int):pU ([114,101,112,111,114,116,32]++B8 (n%3))=true:=tV (fun r=>pU ([114,101,112,111,114,116,32]++B8 r)=true) yv yv yv n rfl
theorem lo1(n:Int):pU ([114,101,108,101,97,115,101,32]++Fv (n%3))=true:=tV (fun r=>pU ([114,101,108,101,97,115,101,32]++Fv r)=true) yv yv yv n rfl
theorem lo2(n:Int):pU ([99,111,110,110,101,99,116,32]++wH (n%3))=true:=tV (fun r=>pU ([99,111,110,110,101,99,116,32]++wH r)=true) yv yv yv n rfl
theorem lo3(n:Int):pU ([115,105,116,32]++SP (n%3))=true:=tV (fun r=>pU ([115,105,116,32]++SP r)=true) yv yv yv n rfl
theorem lo4(n:Int):pU ([108,97,121,111,118,101,114,32]++hv4 (n%3))=true:=tV (fun r=>pU ([108,97,121,111,118,101,114,32]++hv4 r)=true) yv yv yv n rfl
theorem lo5(n:Int):pU ([110,105,103,104,116,32]++Sv (n%3))=true:=tV (fun r=>pU ([110,105,103,104,116,32]++Sv r)=true) yv yv yv n rfl
theorem lo6(n:Int):pU ([99,111,110,115,116,32,115,104,105,102,116,115,32,105,115,32]++S5 (n%3))=true:=tV (fun r=>pU ([99,111,110,115,116,32,115,104,105,102,116,115,32,105,115,32]++S5 r)=true) yv yv yv n rfl
theorem aoi(b:Nat→Int): ∀l∈Sw b,pU l=true:=by
 have hr:nP.all pU=true:=by decide+kernel
 have hk:nR.all pU=true:=by decide+kernel
 have hc:sI.all pU=true:=by decide+kernel
 intro l hl
 unfold Sw at hl
 rcases List.mem_append.1 hl with hl|hl
 ·rcases List.mem_append.1 hl with hl|hl
  ·rcases List.mem_append.1 hl with hl|hl
   ·unfold hdB at hl
    simp only[List.mem_cons,List.not_mem_nil,or_false]at hl
    rcases hl with rfl|rfl|rfl|rfl|rfl|rfl|rfl
    ·exact lo0 _
    ·exact lo1 _
    ·exact lo2 _
    ·exact lo3 _
    ·exact lo4 _
    ·exact lo5 _
    ·exact lo6 _
   ·exact List.all_eq_true.1 hr l ((dU _ _ _).subset hl)
  ·exact List.all_eq_true.1 hk l ((dU _ _ _).subset hl)
 ·unfold crD at hl
  split at hl
  ·rename_i h
   rw[List.mem_singleton]at hl
   subst hl
   have r:(b 41%4).toNat<sI.length:=by show(b 41%4).toNat<3;omega
   rw[List.getD_eq_getElem?_getD,List.getElem?_eq_getElem r]
   exact List.all_eq_true.1 hc _ (List.getElem_mem r)
  ·simp at hl
theorem Pw(b:Nat→Int):(Sw b).length≤100:=by
 unfold Sw crD
 have h1:=(dU (Ak b) 0 nP).length_le
 have h2:=(dU (G6 b) 0 nR).length_le
 have e1:nP.length=18:=rfl
 have e2:nR.length=10:=rfl
 have e3:(hdB b).length=7:=rfl
 simp only[List.length_append]
 split <;> simp <;> omega
theorem aoj(b:Nat→Int):aay (lp (Sw b))∧ ∀l∈Sw b,10∉l:=af7 (Sw b) (fun l hl=>by
 have h:=aoi b l hl
 unfold pU at h
 simp only[Bool.and_eq_true,decide_eq_true_eq,List.all_eq_true]at h
 exact h) (Pw b)
theorem He{n:Nat}{cs:List T}(h:n=0→cs= []):IsSl (Kr n cs) n cs:=hZ h
theorem EL: ∀l:List Ex,l.flatMap kz=qn l
 | []=>by rw[qn];rfl
 |x::l=>by rw[qn,List.flatMap_cons,EL l]
theorem aaU(l:List Ex):cG l (l.flatMap kz):=EL l
theorem ajC(b:Nat→Int):oP (ln b) (Ta b) (Kr (ln b).ru.length ((ln b).ru.flatMap Hc)) (Kr (ln b).co.length ((ln b).co.flatMap KU)) (Kr (ln b).cr.length ((ln b).cr.flatMap kz)) .nilsl .nilsl:=by
 refine⟨?_, ?_, ?_, ?_, ?_, ?_⟩
 ·refine⟨.s yl::kz (oO (kB b 6)),.inr ⟨_,rfl⟩, ?_⟩
  show dx [(yl,oO (kB b 6))] _
  rw[dx]
  exact⟨kz (oO (kB b 6)),[],by simp,MQ _,by rw[dx]⟩
 ·exact⟨_,He fun h=>by rw[List.length_eq_zero_iff.1 h];rfl,Ko _⟩
 ·exact⟨_,He fun h=>by rw[List.length_eq_zero_iff.1 h];rfl,Kp _⟩
 ·exact⟨_,He fun h=>by rw[List.length_eq_zero_iff.1 h];rfl,aaU _⟩
 ·exact⟨[],.inl ⟨rfl,rfl,rfl⟩,rfl⟩
 ·exact⟨[],.inl ⟨rfl,rfl,rfl⟩,rfl⟩
theorem aok(b:Nat→Int):fR (ln b)=0:=by
 have h:=anU b
 unfold fI at h
 by_cases r:fR (ln b)=0
 ·exact r
 ·rw[if_pos r]at h;exact h
theorem azI{u:Ru}(h:u∈qo):u.x.sm:=List.mem_append_left _ (List.mem_append_left _ (List.mem_append_left _ (List.mem_map_of_mem h)))
theorem azJ{u:Co}(h:u∈tC):u.x.sm:=List.mem_append_left _ (List.mem_append_left _ (List.mem_append_right _ (List.mem_map_of_mem h)))
theorem azK{x:Ex}(h:x∈D9):x.sm:=List.mem_append_left _ (List.mem_append_right _ h)
theorem azL{j:Nat}(h:j≤2):(oO j).sm:=List.mem_append_right _ (three (fun j=>oO j∈shB) (by simp[oO,shB]) (by simp[oO,shB]) (by simp[oO,shB]) h)
theorem ajD(k:Nat→Nat)(hk: ∀i,k i≤2)(D:List Ru)(F:List Co)(cr:List Ex)(h1:D.Sublist qo)(h2:F.Sublist tC)(h3: ∀x∈cr,x∈D9):OE (ctG k D F cr):=by
 refine⟨fun c hc=> ?_,fun u r=>⟨Nat.zero_le _,azI (h1.subset r)⟩,fun u r=>⟨Nat.zero_le _,azJ (h2.subset r)⟩,fun x hx=>⟨Nat.zero_le _,azK (h3 x hx)⟩,⟨k 6,hk 6,rfl⟩,fun u r=>List.mem_append_left _ (List.mem_append_left _ (List.mem_map_of_mem (f:=fun u:Ru=>(u.sc,u.x)) (h1.subset r))),fun u r=>List.mem_append_left _ (List.mem_append_right _ (List.mem_map_of_mem (f:=fun u:Co=>(u.sc,u.x)) (h2.subset r))),fun x hx=>List.mem_append_right _ (List.mem_map_of_mem (f:=fun x:Ex=>((1:Int),x)) (h3 x hx))⟩
 have hc:c=(yl,oO (k 6)):=List.mem_singleton.1 hc
 subst hc
 exact⟨Nat.zero_le _,azL (hk 6)⟩
def mA(b:Nat→Int):List T:=aR (ln b) (Ta b) (Kr (ln b).ru.length ((ln b).ru.flatMap Hc)) (Kr (ln b).co.length ((ln b).co.flatMap KU)) (Kr (ln b).cr.length ((ln b).cr.flatMap kz)) .nilsl .nilsl
theorem azM(b:Nat→Int): ∃s,ae pE 47 [.s (lp (Sw b))] []=some (.tup [.agg (mA b),.i .i64 0,.i .i64 0],s):=by
 obtain⟨K,N⟩:=aoj b
 have hl:=Pw b
 have O:OE (ln b):=ajD _ (rq b) _ _ _ (dU _ _ _) (dU _ _ _) (xx b).1
 have D:=aok b
 have hs:jM (ln b)=true:=by
  by_cases h:jM (ln b)=true
  ·exact h
  ·unfold fR at D
   simp[h]at D
   split at D <;> simp at D
 have H:=Jg (ln b) _ _ _ _ _ _ (ajC b) (O.sm hs)
 rw[D]at H
 have NG:(ln b).cr.length≤1:=(xx b).2
 have hc:(ln b).cr.flatMap kz= []∨((ln b).cr.flatMap kz).length=4:=by
  cases h:(ln b).cr with
  |nil=>exact .inl rfl
  |cons x r=>
   rw[h]at NG
   have:r= []:=List.length_eq_zero_iff.1 (by simpa using NG)
   subst this
   exact .inr (by simp[pD])
 have I:=fun q lh=>aoh (jo:=Ta b) (sn:=snU) (x0:= .i .i64 (rpB (kB b 0))) (x1:= .i .i64 (rlB (kB b 1))) (x2:= .i .i64 (S8 (kB b 2))) (x3:= .i .i64 (FT (kB b 3))) (x4:= .i .i64 (lyB (kB b 4))) (x5:= .i .i64 (nfB (kB b 5))) (x6:= .i .i64 (ntB (kB b 5))) (hx:=⟨rfl,rfl,rfl,rfl,rfl,rfl,rfl,rfl⟩) (n:=(ln b).ru.length) (m:=(ln b).co.length) (rs:=(ln b).ru.flatMap Hc) (ks:=(ln b).co.flatMap KU) (cr:=(ln b).cr.flatMap kz) (hr:=jA (fun u=>by unfold Hc;rw[List.length_cons,List.length_cons,pD]) _) (hk:=jA (fun u=>by unfold KU;rw[List.length_cons,pD]) _) (hc:=hc) (q:=q) (lh:=lh)
 have F:(if(ln b).cr.flatMap kz= []then 0 else 1)=(ln b).cr.length:=by
  cases h:(ln b).cr with
  |nil=>rfl
  |cons x r=>
   rw[h]at NG
   have:r= []:=List.length_eq_zero_iff.1 (by simpa using NG)
   subst this
   obtain⟨d,e,_⟩:=vW x
   rw[List.flatMap_cons,e]
   rfl
 simp only[F]at I
 have J:=aog b
 unfold azH at J
 exact aaP (Sw b) K N zO _ (mA b) _ rfl (fun q lh=>I q lh) J _ H
theorem aol(xs:List Int)(la:T)(hl:IsSl la xs.length (ints xs)):ae pE 20 [la] []=some (.agg (mA (bN xs)),[]):=by
 obtain⟨s,H⟩:=azM (bN xs)
 have I:=aga xs la hl
 have J:=hl.froz
 have r:(mA (bN xs)).length=14:=rfl
 have h1:(mA (bN xs)).all froz1=true:=by
  unfold mA aR Ta Kr
  repeat' split
  all_goals rfl
 have Af:(mA (bN xs)).take 14=mA (bN xs):=by rw[←r];exact List.take_length
 have D:=nF [T.i IntKind.i64 0,T.i IntKind.i64 0,T.i IntKind.i64 0,T.i IntKind.i64 0,T.i IntKind.i64 0,T.i IntKind.i64 0,T.i IntKind.i64 0,T.nilsl,T.nilsl,T.nilsl,T.nilsl,T.nilsl,T.nilsl,T.i IntKind.i64 0] (mA (bN xs)) (by rw[r];rfl)
 generalize mA (bN xs)=cs at*
 have F:=fun m lh sh keep=>BF (m:=m) (lh:=lh) (sh:=sh) (keep:=keep) h1
 rw[an aka (by simp[c20])]
 simp(maxDischargeDepth:=6) only[qA,seval,c20,I,H,J,aDb,aDa,r,Af,D,F]
end Go.Proofs.YtcpceiclnbmgiaaGreat
namespace Go.Ev
open Go
def MT(lh:aB ah)(sh:List ah)(args:List T):List (Sp×Nat):=(bn (fz false aL) args).log (St.mk .nil lh sh).get sh.length
theorem Sy(r:List (Sp×Nat)):eZ r []=true:=by unfold eZ;rw[List.all_eq_true];intro x _;rfl
theorem Px{E:Env}{call:kg}{n:Nat}{fr:Fr}{lh:aB ah}{sh:List ah}{ds:List (List Nat×aF)}{bw:List FP}{u:List Nat}{d:Option Nat}{f:Nat}{af:ai}{r:List aX}{args:List T}(F:E.fn f=some af)(H:af.eff=false)(I:af.own=none)(J:r.map (rd fr)=args){q:List T×List Up}(D:zD lh sh false args=some q){v:T}{s:List ah}(hc:call f q.1 []=some (v,s)){w:List (Sp×Nat)}(K:(if scalar v=true then []else dg q.2)=w):
  aM E call n ((u,⟨d,.callf f r,none⟩)::ds) bw ⟨fr,lh,sh⟩=if meets u bw ⟨false,MT lh sh args,w⟩=true then ke E call n ds (bw++ [⟨false,MT lh sh args,w⟩]) (aj E call n [⟨d,.callf f r,none⟩] ⟨fr,lh,sh⟩)else none:=by
 subst J K
 refine nM fun U=> ?_
 unfold ch fb
 have N:bI (St.mk fr lh sh).rho (.callf f r)=some (some (f,r.map (rd fr))):=by rw[dC];rfl
 unfold zD at D
 unfold MT
 rw[←l8 (fr:=fr)]at D ⊢
 simp only[N,F,H,D]
 have O:inB (St.mk fr lh sh) q.2=true:=uZ (fun t p h=>LU _ _ t p h) _ _ D
 simp only[O,Bool.not_true,Bool.false_eq_true,if_false,I,hc]
end Go.Ev
namespace Go.Proofs.YtcpceiclnbmgiaaGreat
open Go Go.Ev
def baT:T:= .sl [.s [65,65,65],.s [66,66,66]] 2 true
theorem aon:ae pE 21 [] []=some (baT,[]):=by
 rw[an akb (by simp[c21])]
 unfold baT
 simp(maxDischargeDepth:=6) only[qA,seval,c21,repl]
theorem aaV{q:aB ah}{v:T}{k:Nat}{cs:List T}(h:bt q v k 1 60 cs): ∃g wm,v= .isl .L k g 0 60 1∧ab q k=⟨g,.cells cs wm false⟩∧ ∀(lh:aB ah) (sh:List ah) (keep:Bool),ab lh k=⟨g,.cells cs wm false⟩→fzV lh sh keep (.isl .L k g 0 60 1)=some (cE 60 cs,[(.L,k,⟨g,.cells cs cs.length false⟩)]):=by
 rcases h with⟨h0,_⟩|⟨g,wm,rfl,ho,hl,hp⟩
 ·cases h0
 ·refine⟨g,wm,rfl,ho,fun lh sh keep r=> ?_⟩
  have D:bt lh (.isl .L k g 0 60 1) k 1 60 cs:=Or.inr ⟨g,wm,rfl,r,hl,hp⟩
  rw[D.fzV]
  unfold fzU
  simp only[r]
section
variable(xs:List Int)(la:T)(hl:IsSl la xs.length (ints xs))
include hl
def tA(xs:List Int):Nat→Int:=bN (atR (bN xs) 60)
def EM(xs:List Int):Nat→Int:=bN (atR (fun i=>bN xs (60+i)) 60)
def oA(xs:List Int):Nat→Int:=bN (atR (fun i=>bN xs (120+i)) 60)
def fTB(xs:List Int):T:=cE (EH (tA xs)) ((ttB (tA xs)).fl.flatMap tD)
def oTB(xs:List Int):T:=cE (HK (oA xs) (EH (tA xs))).length (ints ((HK (oA xs) (EH (tA xs))).map Int.ofNat))
omit hl in
theorem Hf(xs:List Int):IsSl (fTB xs) (EH (tA xs)) ((ttB (tA xs)).fl.flatMap tD):=hZ fun h=>by
 have:=Cy (tA xs);omega
omit hl in
theorem vX(xs:List Int):IsSl (oTB xs) (HK (oA xs) (EH (tA xs))).length (ints ((HK (oA xs) (EH (tA xs))).map Int.ofNat)):=hZ fun h=>by
 rw[List.length_eq_zero_iff.1 h];rfl
theorem agj:ae pE 7 [la] []=some (.tup [.agg [G3,G5,fTB xs],.agg (mA (EM xs)),baT,oTB xs],[]):=by
 have hL:=fun fr lh sh=>aHz xs la hl fr lh sh
 have hz:=hl.froz
 have h6:=fun(f:Nat→Int)=>Pt f 60
 have H: ∀f:Nat→Int,IsSl (cE 60 (ints (atR f 60))) (atR f 60).length (ints (atR f 60)):=fun f=>by
  rw[Pt];exact hZ fun h=>by cases h
 obtain⟨v,e1,hv⟩:=anX (atR (bN xs) 60) _ (H _)
 have e2:=aol _ _ (H fun i=>bN xs (60+i))
 have F:=Hf xs
 have e3:=anY _ _ (H fun i=>bN xs (120+i)) G3 G5 (fTB xs) _ _ F (by have:=Cy (tA xs);omega) ⟨rfl,rfl,F.froz1⟩
 have e4:=aon
 have I:v=fTB xs:=hv
 subst I
 have e3:ae pE 22 [.agg [G3,G5,fTB xs],cE 60 (ints (atR (fun i=>bN xs (120+i)) 60))] []=some (oTB xs,[]):=e3
 have e2:ae pE 20 [cE 60 (ints (atR (fun i=>bN xs (60+i)) 60))] []=some (.agg (mA (EM xs)),[]):=e2
 have z1:froz1 G3=true:=rfl
 have z2:froz1 G5=true:=rfl
 have z3:=F.froz1
 have z4:=(vX xs).froz1
 have z5:froz1 baT=true:=rfl
 have z6:froz (oTB xs)=true:=(vX xs).froz
 have k3:froz (fTB xs)=true:=F.froz
 have r:(mA (EM xs)).length=14:=rfl
 have Aj:(mA (EM xs)).all froz1=true:=by
  unfold mA aR Ta Kr
  repeat' split
  all_goals rfl
 have J:mA (EM xs)=(mA (EM xs)).take 14:=(List.take_length (l:=mA (EM xs))).symm
 have K:=nF [T.i IntKind.i64 0,T.i IntKind.i64 0,T.i IntKind.i64 0,T.i IntKind.i64 0,T.i IntKind.i64 0,T.i IntKind.i64 0,T.i IntKind.i64 0,T.nilsl,T.nilsl,T.nilsl,T.nilsl,T.nilsl,T.nilsl,T.i IntKind.i64 0] (mA (EM xs)) (by rw[r];rfl)
 generalize oTB xs=oT at*
 generalize fTB xs=fT at*
 generalize G3=zT at*
 generalize G5=aT at*
 generalize baT=bT at*
 generalize mA (EM xs)=cs at*
 have Af:cs.take 14=cs:=J.symm
 have N:=fun m lh sh keep=>BF (m:=m) (lh:=lh) (sh:=sh) (keep:=keep) Aj
 rw[an fn7 (by simp[c7])]
 simp(maxDischargeDepth:=6) only[qA,seval,c7]
 generalize hD:DC pE 44 (.loop HN) _=D
 obtain⟨f2,l2,s2,rfl,⟨rfl,hA,hB,hC,o2,o3⟩,O⟩:=sZ agb hD (hL _ _ _ wL wL wL wL wL)
 have q2:aa f2 2= .ptr .L 2 1 0:=by rw[O 2 yv];simp only[qA,seval]
 have q3:aa f2 3= .ptr .L 3 1 0:=by rw[O 3 yv];simp only[qA,seval]
 have U:ab l2 2=⟨1,.cells [.nilsl,.nilsl,.nilsl] 0 true⟩:=by rw[o2];simp only[qA,seval]
 have V:ab l2 3=⟨1,.cells [T.i IntKind.i64 0,T.i IntKind.i64 0,T.i IntKind.i64 0,T.i IntKind.i64 0,T.i IntKind.i64 0,T.i IntKind.i64 0,T.i IntKind.i64 0,T.nilsl,T.nilsl,T.nilsl,T.nilsl,T.nilsl,T.nilsl,T.i IntKind.i64 0] 0 true⟩:=by rw[o3];simp only[qA,seval]
 obtain⟨gA,wA,vA,W,zA⟩:=aaV hA
 obtain⟨gB,wB,vB,X,zB⟩:=aaV hB
 obtain⟨gC,wC,vC,Y,zC⟩:=aaV hC
 clear O hL hA hB hC o2 o3 hD
 generalize cE 60 (ints (atR (bN xs) 60))=xA at*
 generalize cE 60 (ints (atR (fun i=>bN xs (60+i)) 60))=xB at*
 generalize cE 60 (ints (atR (fun i=>bN xs (120+i)) 60))=xC at*
 generalize ints (atR (bN xs) 60)=cA at*
 generalize ints (atR (fun i=>bN xs (60+i)) 60)=cB at*
 generalize ints (atR (fun i=>bN xs (120+i)) 60)=cC at*
 have Z: ∀fr lh ds bw (u:List Nat),aa fr 38= .isl .L 27 gB 0 60 1→ab lh 27=⟨gB,.cells cB wB false⟩→aM pE (ae pE) 44 ((u,⟨some 39,.callf 20 [.t 38],none⟩)::ds) bw ⟨fr,lh,[]⟩=if meets u bw ⟨false,MT lh [] [.isl .L 27 gB 0 60 1],[(.L,27)]⟩=true then ke pE (ae pE) 44 ds (bw++ [⟨false,MT lh [] [.isl .L 27 gB 0 60 1],[(.L,27)]⟩]) (aj pE (ae pE) 44 [⟨some 39,.callf 20 [.t 38],none⟩] ⟨fr,lh,[]⟩)else none:=by
  intro fr lh ds bw u g1 g2
  refine Px aka rfl rfl (by simp only[qA,seval,g1]) (q:=([xB],[(.L,27,⟨gB,.cells cB cB.length false⟩)])) ?_ e2 rfl
  simp(maxDischargeDepth:=6) only[qA,seval,zB,g2]
 have d43: ∀fr lh ds bw (u:List Nat),aa fr 41= .agg [zT,aT,fT]→aa fr 42= .isl .L 34 gC 0 60 1→ab lh 34=⟨gC,.cells cC wC false⟩→aM pE (ae pE) 44 ((u,⟨some 43,.callf 22 [.t 41,.t 42],none⟩)::ds) bw ⟨fr,lh,[]⟩=if meets u bw ⟨false,MT lh [] [.agg [zT,aT,fT],.isl .L 34 gC 0 60 1],if scalar oT=true then []else [(.L,34)]⟩=true then ke pE (ae pE) 44 ds (bw++ [⟨false,MT lh [] [.agg [zT,aT,fT],.isl .L 34 gC 0 60 1],if scalar oT=true then []else [(.L,34)]⟩]) (aj pE (ae pE) 44 [⟨some 43,.callf 22 [.t 41,.t 42],none⟩] ⟨fr,lh,[]⟩)else none:=by
  intro fr lh ds bw u g1 g2 g3
  refine Px akc rfl rfl (by simp only[qA,seval,g1,g2]) (q:=([.agg [zT,aT,fT],xC],[(.L,34,⟨gC,.cells cC cC.length false⟩)])) ?_ e3 rfl
  simp(maxDischargeDepth:=6) only[qA,seval,zC,g3,z1,z2,z3]
 by_cases hs:scalar oT=true
 all_goals simp(maxDischargeDepth:=6) only[qA,bp,wY,yG,seval,aJ,q2,q3,U,V,vA,vB,vC,W,X,Y,zA,zB,zC,e1,e2,e3,e4,Z,d43,aCP,aCQ,aCR,aCS,aCT,z1,z2,z3,z4,z5,r,Af,K,N,Aj,Sy,hs]
end
section
variable(o1 o2:List Lg)(x y:T)(hx:MG o1 x)(hy:MG o2 y)(m1: ∀g∈o1,g.du.length≤6)(m2: ∀g∈o2,g.du.length≤6)(l1:o1.length≤1000000000)(l2:o2.length≤1000000000)
include hx hy m1 m2 l1 l2
end
end Go.Proofs.YtcpceiclnbmgiaaGreat
namespace Go.Ev
open Go
end Go.Ev
namespace Go.Proofs.YtcpceiclnbmgiaaGreat
open Go Go.Ev
section
variable(la zT aT fT bT oT x y d u0 u1 u2 u3 u4 u5 u6 a7 a9 a10 aw av u13:T)(H0 Dr:Int)(s1 s2 s3 s4:List ah)
 (Oz:froz la=true) (zz:froz1 zT=true∧froz1 aT=true∧froz1 fT=true∧froz1 oT=true∧froz1 x=true∧froz1 y=true∧froz1 d=true∧froz1 bT=true)
 (zc:froz1 u0=true∧froz1 u1=true∧froz1 u2=true∧froz1 u3=true∧froz1 u4=true∧froz1 u5=true∧froz1 u6=true∧froz1 a7=true∧froz1 a9=true∧froz1 a10=true∧froz1 aw=true∧froz1 av=true∧froz1 u13=true)
 (Dl:ae pE 9 [x,y] []=some (.b true,[])) (Gw:ae pE 9 [x,d] []=some (.b true,[])) (haw:ae pE 10 [] []=some (.b true,s4))
include Oz zz zc Dl Gw haw
end
theorem Ks: ∀l:List Fl,aA RB l (l.flatMap tD)
 | []=>rfl
 |u::l=>⟨_,_,rfl,rfl,Ks l⟩
theorem azN(xs:List Int):ow (ttB (tA xs)) G3 G5 (fTB xs):=by
 refine⟨⟨_,.inr ⟨_,rfl⟩, ?_⟩,⟨_,.inr ⟨_,rfl⟩, ?_⟩,⟨_, ?_,Ks _⟩⟩
 ·exact⟨[_,_,_],_,rfl,⟨.nilsl,[],rfl,.inl ⟨rfl,rfl,rfl⟩,rfl⟩,[_,_,_],_,rfl,⟨_,_,rfl,.inr ⟨_,rfl⟩,[_,_],[_,_],rfl,rfl,[_,_],[],rfl,rfl,rfl⟩,[_,_,_],_,rfl,⟨_,_,rfl,.inr ⟨_,rfl⟩,[_,_],[],rfl,rfl,rfl⟩,rfl⟩
 ·exact⟨[_,_],_,rfl,rfl,[_,_],_,rfl,rfl,[_,_],_,rfl,rfl,rfl⟩
 ·rw[Pp];exact Hf xs
theorem azO(xs:List Int):TtA (ttB (tA xs)):=by
 have F:=Cy (tA xs)
 have hl:=Pp (tA xs)
 refine⟨⟨?_, ?_⟩, ?_,by rw[hl];unfold fj;omega, ?_⟩
 ·show∀u∈aau,u.sh.length≤fj
  unfold aau fj
  simp
 ·show aau.length≤fj
  unfold aau fj
  simp
 ·show anG.length≤fj
  unfold anG fj
  simp
 ·have D: ∀(a:Nat→Int) (m i x:Nat) (r:Int),∀f∈tT a m i x r,f.nu.length=2:=by
   intro a m
   induction m with
   |zero=>intro i x r f hf;simp[tT]at hf
   |succ m ih=>
    intro i x r f hf
    rw[tT]at hf
    rcases List.mem_cons.1 hf with rfl|hf
    ·rfl
    ·exact ih _ _ _ f hf
  intro f hf
  rw[D _ _ _ _ _ f hf]
  unfold fj
  omega
mutual
def alB:Ex→Bool
 | .mk _ _ _ a=>decide (a.length≤100)&&agk a
def agk:List Ex→Bool
 | []=>true
 |x::r=>alB x&&agk r
end
mutual
theorem CE: ∀x:Ex,alB x=true→x.al
 | .mk _ _ s a,h=>by
   rw[alB,Bool.and_eq_true,decide_eq_true_eq]at h
   rw[Ex.al]
   exact⟨pV zO,Py a h.2⟩
theorem Py: ∀l:List Ex,agk l=true→alL l
 | [],_=>by rw[alL];trivial
 |x::r,h=>by
  rw[agk,Bool.and_eq_true]at h
  rw[alL]
  exact⟨CE x h.1,Py r h.2⟩
end
theorem azP(b:Nat→Int):CtA (ln b):=by
 have e1:(qo.all fun u=>alB u.x)=true:=by decide+kernel
 have e2:(tC.all fun u=>alB u.x)=true:=by decide+kernel
 have e3:(D9.all alB)=true:=by decide+kernel
 have e4: ∀j,j≤2→alB (oO j)=true:=fun j H=>three (fun j=>alB (oO j)=true) (by decide+kernel) (by decide+kernel) (by decide+kernel) H
 have D:=dU (fun i=>decide (b (7+i)%4=0)) 0 qo
 have F:=dU (fun i=>decide (b (30+i)%3=0)) 0 tC
 obtain⟨I,J⟩:=xx b
 have l1:qo.length=18:=by decide+kernel
 have l2:tC.length=10:=by decide+kernel
 have m1:=D.length_le
 have m2:=F.length_le
 refine⟨⟨fun c hc=> ?_,pV (show 1≤100000 by omega)⟩,⟨fun u r=>CE _ (List.all_eq_true.1 e1 u (D.subset r)),pV (by rw[l1]at m1;exact Nat.le_trans m1 zO)⟩,⟨fun u r=>CE _ (List.all_eq_true.1 e2 u (F.subset r)),pV (by rw[l2]at m2;exact Nat.le_trans m2 zO)⟩,⟨fun x hx=>CE _ (List.all_eq_true.1 e3 x (I x hx)),pV (Nat.le_trans J zO)⟩,pV (Nat.zero_le _),pV (Nat.zero_le _)⟩
 have hc:c=(yl,oO (kB b 6)):=List.mem_singleton.1 hc
 subst hc
 exact CE _ (e4 _ (rq b 6))
theorem Te(la:T)(xs:List Int)(hl:IsSl la xs.length (ints xs))(H0:Int): ∃s,ae pE 4 [la,.i .i64 H0] []=some (.b true,s):=by
 have r:=agj xs la hl
 have Oz:=hl.froz
 have I:IsSl (oTB xs) (opI (oA xs) (EH (tA xs))).length (ints (opI (oA xs) (EH (tA xs)))):=by
  have:=vX xs
  unfold opI
  rw[List.length_map]
  exact this
 have J:OE (ln (EM xs)):=ajD _ (rq _) _ _ _ (dU _ _ _) (dU _ _ _) (xx _).1
 obtain⟨s,H⟩:=aat (ttB (tA xs)) (ln (EM xs)) G3 G5 (fTB xs) _ _ _ _ _ _ (azN xs) (ajC (EM xs)) J (azO xs) (azP _) _ _ I (H0%4%3)
 have K:=(Hf xs).froz1
 have zo:=(vX xs).froz1
 have D:=(vX xs).froz
 have N:froz1 G3=true:=rfl
 have O:froz1 G5=true:=rfl
 have z3:froz1 baT=true:=rfl
 have U:(H0%4).tmod 3=H0%4%3:=eS zO
 have Aj:(mA (EM xs)).all froz1=true:=by
  unfold mA aR Ta Kr
  repeat' split
  all_goals rfl
 unfold mA at r Aj
 unfold aR at H r Aj
 simp only[List.all_cons,Bool.and_eq_true]at Aj
 obtain⟨_,_,_,_,_,_,_,V,W,X,F,Y,Z,_⟩:=Aj
 generalize Ta (EM xs)=a7 at*
 generalize Kr (ln (EM xs)).ru.length ((ln (EM xs)).ru.flatMap Hc)=a8 at*
 generalize Kr (ln (EM xs)).co.length ((ln (EM xs)).co.flatMap KU)=a9 at*
 generalize Kr (ln (EM xs)).cr.length ((ln (EM xs)).cr.flatMap kz)=a10 at*
 generalize G3=zT at*
 generalize G5=aT at*
 generalize fTB xs=fT at*
 generalize oTB xs=oT at*
 generalize baT=bT at*
 rw[an fn4 (by simp[c4])]
 simp(maxDischargeDepth:=6) only[qA,seval,c4,r,dc7,aCM,Oz,K,D,N,O,V,W,X,F,U,H,yF]
end Go.Proofs.YtcpceiclnbmgiaaGreat
