/- The names in an expression: the reference's list, the arguments' names. The names in an expression: the reference's answer. The names in an expression: both lists are the same. FoldExact. The given constants and expression: trees of bounded size. Conditions: the theorems' own. -/
import Derived.Test.YtfenhjpkomldcaaGreatM22
import Derived.KernelRfl
set_option maxRecDepth 100000
set_option linter.unusedSimpArgs false
set_option linter.unusedVariables false
set_option maxHeartbeats 16000000
namespace Go.Proofs.YtfenhjpkomldcaaGreat
open Go Go.Ev
def jr(L U:List (List Nat)):List (List Nat):=U.foldl (fun L s=>pA s L) L
theorem H7(L U V:List (List Nat)):jr L (U++V)=jr (jr L U) V:=List.foldl_append
theorem H8(s:List Nat)(L:List (List Nat)):(pA s L).length≤L.length+1:=by
 unfold pA
 have:=oE s L
 split <;> simp <;> omega
theorem yG: ∀(U L:List (List Nat)),(jr L U).length≤L.length+U.length
 | [],L=>Nat.le_refl _
 |s::U,L=>by
  have h1:=yG U (pA s L)
  have h2:=H8 s L
  have h3:jr L (s::U)=jr (pA s L) U:=rfl
  rw[h3,List.length_cons];omega
def QH(y:Ex):Prop:= ∀cs v L,bj y cs→y.al→aN v L.length (L.map T.s)→L.length+y.uses.length≤4294967296→
 ∃v',aa pE 83 [v,.agg cs] []=some (v',[])∧aN v' (jr L y.uses).length ((jr L y.uses).map T.s)
theorem H9{y:Ex}(ih:QH y){cs:List T}{b:T}{cb:List T}{lh:aQ aA}{sh:List aA}{v:T}{L:List (List Nat)}(hy:bj y cs)(fF:cs= [.i .i64 y.op,.i .i64 y.num,.s y.name,b])(hb:aN b y.args.length cb)(gH:y.al)(hv:yF lh v L)(hn:L.length+y.uses.length≤4294967296):
  ∃v' dj,(∀z fr,ar pE (aa pE) z ⟨fr,lh,sh⟩ 83 [v,.agg cs]=some (v',⟨fr,dj,sh⟩))∧aN v' (jr L y.uses).length ((jr L y.uses).map T.s)∧aE dj 3=aE lh 3:=by
 subst fF
 have hfa:froz (.agg [.i .i64 y.op,.i .i64 y.num,.s y.name,b])=true:=by
  rcases hb with⟨rfl,_,_⟩|⟨ex,rfl⟩ <;> rfl
 rcases hv with hv|⟨k,hk,hv⟩
 ·obtain⟨v',h1,h2⟩:=ih _ v L hy gH hv hn
  have hfv:froz v=true:=hv.froz
  refine⟨v',lh,fun z fr=> ?_,h2,rfl⟩
  rw[R0 (by simp only[List.all_cons,List.all_nil,hfv,hfa,Bool.and_self]),h1]
  rfl
 ·obtain⟨v',h1,h2⟩:=ih _ _ L hy gH hv.isl hn
  have hfz: ∀fr:Fr,ni lh sh false [v,.agg [.i .i64 y.op,.i .i64 y.num,.s y.name,b]]=some ([jb L.length (L.map T.s),.agg [.i .i64 y.op,.i .i64 y.num,.s y.name,b]],Hc lh v++([]++ [])):=fun fr=>by
   rw[nT,hv.fzV]
   simp only[Option.bind_some]
   rw[nT,lF hfa,Bx]
   rfl
  have hup: ∃dj,(∀fr,(if scalar v'=true then(⟨fr,lh,sh⟩:St)else(St.mk fr lh sh).ups (Hc lh v++([]++ [])))=⟨fr,dj,sh⟩)∧aE dj 3=aE lh 3:=by
   by_cases hs:scalar v'=true
   ·exact⟨lh,fun fr=>by rw[if_pos hs],rfl⟩
   ·rcases hv with⟨h0,rfl,_⟩|⟨g,wm,rfl,ho,_⟩
    ·exact⟨lh,fun fr=>by rw[if_neg hs];rfl,rfl⟩
    ·refine⟨gh lh k ⟨g,.cells (L.map T.s) (L.map T.s).length false⟩,fun fr=> ?_,cK _ _ (fun e=>hk e.symm)⟩
     rw[if_neg hs]
     have e:Hc lh (.isl .L k g 0 L.length 1)= [(.L,k,⟨g,.cells (L.map T.s) (L.map T.s).length false⟩)]:=by
      show(match aE lh k with|⟨_,.cells cs _ _⟩=> [(Sp.L,k,(⟨g,.cells cs cs.length false⟩:aA))]|_=> [])=_
      rw[ho]
     rw[e]
     rfl
  obtain⟨dj,hl,ho⟩:=hup
  refine⟨v',dj,fun z fr=> ?_,h2,ho⟩
  rw[Yf,hfz fr]
  simp only[Option.bind_some,h1,hl]
theorem LO(xs:List Ex)(ih: ∀y∈xs,QH y)(a:T)(cc:List T)(ha:aN a xs.length cc)(hx:aL xs cc)(hlen:xs.length≤iq)(gH:LI xs)(L:List (List Nat))(hL:L.length+(dw xs).length≤4294967296)(v:T)(c0 c1 c2:T)(fr:Fr)(lh:aQ aA)(sh:List aA)(hv:yF lh v L)
  (h0:an fr 0=v) (h3:an fr 3= .ptr .L 3 1 0) (h6:an fr 6= .i .i64 0) (o3:aE lh 3=⟨1,.cells [c0,c1,c2,a] 0 true⟩):
  DC pE 65 (.loop jF) ⟨fr,lh,sh⟩=some (.ext 2,⟨ev pE 65 jF fr lh sh,eP pE 65 jF fr lh sh,eJ pE 65 jF fr lh sh⟩)∧
  (yF (eP pE 65 jF fr lh sh) (an (ev pE 65 jF fr lh sh) 0) (jr L (dw xs))∧eJ pE 65 jF fr lh sh=sh):=by
 refine a6 (P:=fun g7 dj cq=>yF dj (an g7 0) (jr L (dw xs))∧cq=sh)
  (bt (fun k st=> ∃(fr:Fr) (dS:aQ aA),st=⟨fr,dS,sh⟩∧yF dS (an fr 0) (jr L (dw (xs.take k)))∧an fr 3= .ptr .L 3 1 0∧an fr 6= .i .i64 (k:Int)∧aE dS 3=⟨1,.cells [c0,c1,c2,a] 0 true⟩) _ xs.length ?_ ?_ 0 _ (Nat.zero_le _) ⟨fr,lh,rfl,by rw[h0];simpa[dw,jr]using hv,h3,h6,o3⟩)
 ·rintro k _ hk ⟨fr,dS,rfl,hl,h3,h6,o3⟩
  left
  have dN:(k:Int)<xs.length:=by omega
  have hw:=jh (k:=k) (by omega)
  obtain⟨b,cb,rr,cQ,fu,oq,hb⟩:=dV ha hx k hk
  have IY:=sC hk
  have hle:=yC (xs:=xs) (k:=k+1)
  have ads:=yG (dw (xs.take k)) L
  generalize h0:an fr 0=v1 at hl
  obtain⟨v',dj,aB,VY,ho'⟩:=H9 (sh:=sh) (ih xs[k] (List.getElem_mem hk)) hb rfl fu (oD.1 gH _ (List.getElem_mem hk)) hl (by rw[IY]at hle;simp only[List.length_append]at hle ⊢; omega)
  rw[←H7,←IY]at VY
  rw[o3]at ho'
  simp(maxDischargeDepth:=6) only[qF,ah,ai,ab,aj,ae,reduceCtorEq,Nat.reduceLT,Nat.reduceLeDiff,Nat.reduceEqDiff,jF,h0,h3,h6,o3,ha.lenI,dN,cQ,hw,aB]
  refine⟨_,rfl,_,_,rfl, ?_, ?_, ?_,ho'⟩
  ·simp(maxDischargeDepth:=6) only[ab,ae,reduceCtorEq];exact .inl VY
  all_goals (simp(maxDischargeDepth:=6) only[ab,ae,reduceCtorEq,Nat.reduceEqDiff,h3])
 ·rintro _ ⟨fr,dS,rfl,hl,h3,h6,o3⟩
  rw[List.take_length]at hl
  generalize h0:an fr 0=v1 at hl
  simp(maxDischargeDepth:=6) only[ah,ai,ab,aj,ae,ak,Nat.reduceLT,Nat.reduceEqDiff,jF,h3,h6,o3,ha.lenI,Int.lt_irrefl]
  refine⟨_,_,(by simp:Out.ext 2≠ .nrm),rfl,rfl, ?_,rfl⟩
  simp(maxDischargeDepth:=6) only[ab,ae,reduceCtorEq,h0];exact hl
end Go.Proofs.YtfenhjpkomldcaaGreat
namespace Go.Proofs.YtfenhjpkomldcaaGreat
open Go Go.Ev
theorem yF.fz{lh:aQ aA}{sh:List aA}{v:T}{L:List (List Nat)}(h:yF lh v L): ∃t us,fzV lh sh false v=some (t,us)∧vr sh us=sh∧aN t L.length (L.map T.s):=by
 rcases h with h|⟨k,_,h⟩
 ·exact⟨v,[],lF h.froz,rfl,h⟩
 ·exact⟨_,_,h.fzV,xR,h.isl⟩
theorem ji{H:aQ aA}{v:T}{L:List (List Nat)}(h:yF H v L): ∃v',Option.map (fun p=>(p.1,((St.mk .nil H []).ups p.2).sh)) (fzV H [] false v)=some (v',[])∧aN v' L.length (L.map T.s):=by
 obtain⟨t,us,e1,e2,e3⟩:=h.fz (sh:= [])
 refine⟨t, ?_,e3⟩
 rw[e1,Option.map_some,qI,e2]
theorem vZ{lh:aQ aA}{d sz bytes:Nat}{cs:List T}:oZ lh d sz bytes .nilsl (0,cs)=some (.nilsl,lh):=tO rfl
theorem v7{lh:aQ aA}{d sz jt bytes k g off len:Nat}{cs:List T}:oZ lh d sz bytes (.isl .L k g off len jt) (0,cs)=some (.isl .L k g off len jt,lh):=tO rfl
theorem N6{a0 b0 s:List Nat}{A' B':List (List Nat)}{q m:Nat}(hq:q=A'.length)(hm:B'.length=m):(a0::A'++s::b0::B').length=q+1+1+(m+1):=by subst hq;subst hm;simp;omega
theorem Vn{a0 b0 s:List Nat}{A' B':List (List Nat)}{q m N:Nat}(hN:N=q+1+(m+1))(hq:q=A'.length)(hm:B'.length=m):(a0::A'++s::b0::B').length≤N+1:=by rw[N6 hq hm,hN];omega
theorem n41:(41:Nat)≠3:=by decide
theorem n45:(45:Nat)≠3:=by decide
theorem AG{m n:Nat}(h:n≤4294967296)(hm:m≤n+1):m*16≤roomy:=by unfold roomy;omega
theorem le3{n q m:Nat}(h:n=q+1+(m+1)):q+1+1+(m+1)≤n+1:=by omega
theorem Vo{n q m:Nat}(h:n=q+1+(m+1)):n-(q+1)=m+1:=by omega
theorem lt3{n q m:Nat}(h:n=q+1+(m+1)):q+1<n∧ ¬(((q+1:Nat):Int)=(n:Int)):=by omega
theorem uA(L U:List (List Nat))(s:List Nat):jr L (s::U)=jr (pA s L) U:=rfl
theorem QI(x:Ex):QH x:=by
 induction x using Ex.ind with
 |h x ih=>
 intro cs v L hx gH hv hL
 obtain⟨a,cc,rfl,ha,g5⟩:=hx.cells
 rw[Ex.al_eq]at gH
 rw[Ex.uses_eq]at hL ⊢
 rw[aD OL (by simp[El])]
 have hvf:=hv.froz
 by_cases h6:x.op=6
 ·rw[if_pos h6]at hL ⊢
  have hC:=fun fr lh sh h0 h3 h5 o3=>ZF L v hv (by omega) x.name (.i .i64 x.op) (.i .i64 x.num) a fr lh sh h0 h3 h5 o3
  have dq:=oE x.name L
  by_cases hp:(L.drop (dB x.name L)).head?=some x.name
  ·have hi:pA x.name L=L:=if_pos hp
   have dG:dB x.name L<L.length:=by
    rcases Nat.lt_or_ge (dB x.name L) L.length with h|h
    ·exact h
    ·rw[List.drop_of_length_le h]at hp;simp at hp
   have gm:L[dB x.name L]=x.name:=by
    rw[List.head?_drop,List.getElem?_eq_getElem dG]at hp;simpa using hp
   obtain⟨cQ,hd⟩:=uy hv _ dG
   rw[hd,gm]at cQ
   have dr: ¬(dB x.name L:Int)=L.length:=by omega
   have hU:=fun fr lh sh h0 h3 h6 o3=>LO x.args ih a cc ha g5 gH.1 gH.2 L (by simp at hL;omega) v (.i .i64 x.op) (.i .i64 x.num) (.s x.name) fr lh sh (.inl hv) h0 h3 h6 o3
   simp(maxDischargeDepth:=6) only[qF,ah,ai,ab,aj,ae,ak,Nat.reduceShiftRight,Nat.reduceMod,nV,mS,bk,aY,aK,Nat.reduceAdd,reduceCtorEq,Nat.reduceLT,Nat.reduceEqDiff,bV,El,dW,h6,hC,hU,hv.lenI,dr,cQ]
   rw[uA,hi]
   refine ji (hU _ _ _ ?_ ?_ ?_ ?_).2.1
   all_goals (simp(maxDischargeDepth:=6) only[ah,ab,ae,Nat.reduceShiftRight,Nat.reduceMod,reduceCtorEq,Nat.reduceEqDiff,dW,h6])
  ·have hi:pA x.name L=L.take (dB x.name L)++x.name::L.drop (dB x.name L):=if_neg hp
   rw[List.cons_append,List.nil_append,uA,hi]
   generalize hk:dB x.name L=k at*
   generalize hA:L.take k=A at*
   generalize hB:L.drop k=B at*
   have hAB:L=A++B:=by rw[←hA,←hB,List.take_append_drop]
   have NQ:A.length=k:=by rw[←hA,List.length_take];omega
   have Wh:B.length=L.length-k:=by rw[←hB,List.length_drop]
   have abe: ∀e:Bool,True:=fun _=>trivial
   rcases hv with⟨rfl,hn0,_⟩|⟨ex,rfl⟩
   ·have qa:L= []:=List.length_eq_zero_iff.1 hn0
    have hk0:k=0:=by rw[qa]at dq;simpa using dq
    have hA0:A= []:=by rw[←hA,qa];simp
    have hB0:B= []:=by rw[←hB,qa];simp
    subst hA0 hB0
    rw[hk0]at hC
    have hr:(16:Nat)≤roomy:=by decide
    have hU:=fun fr lh sh Vp h0 h3 h6 o3=>LO x.args ih a cc ha g5 gH.1 gH.2 [x.name] (by simp at hL ⊢; omega) (.isl .L 45 1 0 1 1) (.i .i64 x.op) (.i .i64 x.num) (.s x.name) fr lh sh (.inr ⟨45,n45,.inr ⟨1,0,rfl,Vp,rfl,by simp⟩⟩) h0 h3 h6 o3
    simp(maxDischargeDepth:=6) only[qF,ah,ai,ab,aj,ae,ak,Nat.reduceShiftRight,Nat.reduceMod,appW,nV,mS,dH,dQ,splice,aF,repl,bk,aY,aK,Nat.reduceAdd,reduceCtorEq,Nat.reduceLT,Nat.reduceEqDiff,Int.reduceToNat,Int.reduceLE,bV,aV,vA,El,dW,h6,hC,hU,vW,LN,hr,vZ,v7]
    refine ji (hU _ _ _ ?_ ?_ ?_ ?_ ?_).2.1
    all_goals (simp(maxDischargeDepth:=6) only[ah,ab,ae,Nat.reduceShiftRight,Nat.reduceMod,reduceCtorEq,Nat.reduceEqDiff,dW,h6])
   ·obtain⟨n,hn⟩: ∃n,n=L.length:=⟨_,rfl⟩
    obtain⟨cs,fF⟩: ∃cs,cs=L.map T.s:=⟨_,rfl⟩
    have cQ:k<n→tJ (.sl cs n ex) (.i .i64 (k:Int)) 1=some (.vp (B.map T.s)):=fun h=>by
     rw[fF,hn,(uy (.inr ⟨ex,rfl⟩) k (by omega)).1,←List.map_drop,hB]
    have htA:cs.take k=A.map T.s:=by rw[fF,←List.map_take,hA]
    have Wi:cs.drop k=B.map T.s:=by rw[fF,←List.map_drop,hB]
    have htB:(B.map T.s).take (n-k)=B.map T.s:=List.take_of_length_le (by simp[Wh,hn])
    have LP:cs.length=n:=by rw[fF,hn];simp
    have Wj:=fun(v:T) (L':List (List Nat)) (h:L'.length≤L.length+1)=>LO x.args ih a cc ha g5 gH.1 gH.2 L' (by simp at hL;omega) v (.i .i64 x.op) (.i .i64 x.num) (.s x.name)
    have tj:k≤n:=by rw[hn];exact dq
    have UC:n≤4294967296:=by rw[hn];omega
    have Wk:L.length=A.length+B.length:=by rw[hAB,List.length_append]
    rw[←fF,←hn]at hC ⊢
    clear hA hB dq
    cases A with
    |nil=>
     obtain rfl:k=0:=by simpa using NQ.symm
     cases B with
     |nil=>
      obtain rfl:n=0:=by rw[hn,Wk];rfl
      have hr:(16:Nat)≤roomy:=by decide
      have hU:=fun fr lh sh Vp h0 h3 h6 o3=>Wj (.isl .L 45 1 0 1 1) ([]++ [x.name]) (by simp) fr lh sh (.inr ⟨45,n45,.inr ⟨1,0,rfl,Vp,rfl,by simp⟩⟩) h0 h3 h6 o3
      simp(maxDischargeDepth:=6) only[qF,ah,ai,ab,aj,ae,ak,Nat.reduceShiftRight,Nat.reduceMod,appW,nV,mS,dH,dQ,splice,aF,repl,bk,aY,aK,Nat.reduceAdd,reduceCtorEq,Nat.reduceSub,Nat.reduceLT,Nat.reduceEqDiff,Int.reduceToNat,Int.reduceLE,bV,aV,vA,El,dW,h6,hC,hU,vW,AF,vZ,v7,hr,Wi,LP,tj]
      refine ji (hU _ _ _ ?_ ?_ ?_ ?_ ?_).2.1
      all_goals (simp(maxDischargeDepth:=6) only[ah,ab,ae,Nat.reduceShiftRight,Nat.reduceMod,reduceCtorEq,Nat.reduceEqDiff,dW,h6])
     |cons b0 B'=>
      obtain⟨m,rfl⟩: ∃m,n=m+1:=⟨B'.length,by rw[hn,Wk];simp⟩
      have Bk:B'.length=m:=by simp at Wh;omega
      have dG:((0:Nat):Int)<((m+1:Nat):Int):=by omega
      have UJ: ¬b0=x.name:=by simpa using hp
      have Bo:(B'.map T.s).length=m:=by simpa using Bk
      have QJ:(T.s b0::B'.map T.s).take (m+1)=T.s b0::B'.map T.s:=List.take_of_length_le (by simp[Bk])
      have tB:0<m+1:=by omega
      have hz: ¬((0:Int)=((m+1:Nat):Int)):=by omega
      have cQ:=cQ (by omega)
      have hr:(16:Nat)≤roomy:=by decide
      have Nu:(1+(m+1))*16≤roomy:=by unfold roomy;omega
      have hU:=fun fr lh sh Vp h0 h3 h6 o3=>Wj (.isl .L 45 2 0 (1+(m+1)) 1) ([]++x.name::b0::B') (by simp[←hn,Bk]) fr lh sh (.inr ⟨45,n45,.inr ⟨2,0,by simp[Bk];omega,Vp,by simp,by simp⟩⟩) h0 h3 h6 o3
      simp(maxDischargeDepth:=6) only[qF,ah,ai,ab,aj,ae,ak,Nat.reduceShiftRight,Nat.reduceMod,bA,appW,nV,mS,dH,dQ,splice,aF,repl,bk,aY,aK,Nat.reduceAdd,reduceCtorEq,Nat.reduceLT,Nat.reduceLeDiff,Nat.reduceEqDiff,Int.reduceToNat,Int.reduceLE,bV,aV,vA,El,dW,h6,hC,hU,vW,AF,vZ,hr,Nu,Wi,QJ,Bo,tB,Nat.sub_zero,LP,tj,UJ,hz]
      refine ji (hU _ _ _ ?_ ?_ ?_ ?_ ?_).2.1
      all_goals (simp(maxDischargeDepth:=6) only[ah,ab,ae,Nat.reduceShiftRight,Nat.reduceMod,reduceCtorEq,Nat.reduceEqDiff,dW,h6])
    |cons a0 A'=>
     obtain⟨q,hq⟩: ∃q,q=A'.length:=⟨_,rfl⟩
     obtain rfl:k=q+1:=by rw[hq,←NQ];rfl
     have hqa:(A'.map T.s).length=q:=by rw[hq];simp
     have FC:0<q+1:=Nat.succ_pos _
     have hql:(A'.map T.s++ [T.s x.name]).length=q+1:=by simp[hq]
     have hr:(q+1)*16≤roomy:=AG UC (Nat.le_succ_of_le tj)
     have wv:(q+1+1)*16≤roomy:=AG UC (Nat.succ_le_succ tj)
     cases B with
     |nil=>
      obtain rfl:n=q+1:=by rw[hn,Wk,hq];rfl
      have hU:=fun fr lh sh ZG h0 h3 h6 o3=>Wj (.isl .L 41 2 0 (q+1+1) 1) (a0::A'++ [x.name]) (by simp[←hn,hq]) fr lh sh (.inr ⟨41,n41,.inr ⟨2,0,by simp[hq],ZG,by simp,by simp⟩⟩) h0 h3 h6 o3
      simp(maxDischargeDepth:=6) only[qF,ah,ai,ab,aj,ae,ak,Nat.reduceShiftRight,Nat.reduceMod,appW,nV,mS,dH,dQ,splice,aF,repl,bk,aY,aK,Nat.reduceAdd,reduceCtorEq,Nat.reduceLT,Nat.reduceEqDiff,bV,gX,aV,vA,El,dW,h6,hC,hU,vW,AF,v7,hr,wv,htA,Wi,LP,tj,hqa,Nat.sub_zero,Nat.sub_self,List.map_append]
      refine ji (hU _ _ _ ?_ ?_ ?_ ?_ ?_).2.1
      all_goals (simp(maxDischargeDepth:=6) only[ah,ab,ae,Nat.reduceShiftRight,Nat.reduceMod,reduceCtorEq,Nat.reduceEqDiff,dW,h6,List.map_append])
     |cons b0 B'=>
      obtain⟨m,hm⟩: ∃m,n=q+1+(m+1):=⟨B'.length,by rw[hn,Wk,hq];simp⟩
      have ZH:=Vo hm
      have Bk:B'.length=m:=by rw[←hn,ZH]at Wh;simpa using Wh
      have UJ: ¬b0=x.name:=by simpa using hp
      have cQ:=cQ (lt3 hm).1
      have Bo:(B'.map T.s).length=m:=by simpa using Bk
      have QJ:(T.s b0::B'.map T.s).take (m+1)=T.s b0::B'.map T.s:=List.take_of_length_le (by simp[Bk])
      have hnk:n-(q+1)=m+1:=Vo hm
      have tB:0<m+1:=Nat.succ_pos _
      have hz:=(lt3 hm).2
      have Nu:(q+1+1+(m+1))*16≤roomy:=AG UC (le3 hm)
      have hU:=fun fr lh sh ZG h0 h3 h6 o3=>Wj (.isl .L 41 3 0 (q+1+1+(m+1)) 1) (a0::A'++x.name::b0::B') (Vn (hn.symm.trans hm) hq Bk) fr lh sh (.inr ⟨41,n41,.inr ⟨3,0,by rw[N6 hq Bk],ZG,by simp,by simp⟩⟩) h0 h3 h6 o3
      simp(maxDischargeDepth:=6) only[qF,ah,ai,ab,aj,ae,ak,Nat.reduceShiftRight,Nat.reduceMod,appW,nV,mS,dH,dQ,splice,aF,repl,bk,aY,aK,Nat.reduceAdd,reduceCtorEq,Nat.reduceLT,Nat.reduceEqDiff,bV,gX,aV,vA,El,dW,h6,hC,hU,hr,wv,Nu,htA,Wi,QJ,Bo,LP,tj,cQ,UJ,hz,hqa,hnk,Nat.sub_zero,List.map_append,List.append_assoc,hql]
      refine ji (hU _ _ _ ?_ ?_ ?_ ?_ ?_).2.1
      all_goals (simp(maxDischargeDepth:=6) only[ah,ab,ae,Nat.reduceShiftRight,Nat.reduceMod,reduceCtorEq,Nat.reduceEqDiff,dW,h6,List.map_append])
 ·rw[if_neg h6]at hL ⊢
  have hU:=fun fr lh sh h0 h3 h6 o3=>LO x.args ih a cc ha g5 gH.1 gH.2 L (by simpa using hL) v (.i .i64 x.op) (.i .i64 x.num) (.s x.name) fr lh sh (.inl hv) h0 h3 h6 o3
  simp(maxDischargeDepth:=6) only[qF,ah,ai,ab,aj,ae,ak,reduceCtorEq,Nat.reduceLT,Nat.reduceEqDiff,El,h6,hU]
  refine ji (hU _ _ _ ?_ ?_ ?_ ?_).2.1
  all_goals (simp(maxDischargeDepth:=6) only[ab,ae,reduceCtorEq,Nat.reduceEqDiff])
end Go.Proofs.YtfenhjpkomldcaaGreat
namespace Go.Proofs.YtfenhjpkomldcaaGreat
open Go Go.Ev
theorem yH: ∀a:List Nat,cg a a=false
 | []=>rfl
 |x::a=>by simp[cg,yH a]
theorem j9: ∀a b:List Nat,cg a b=false→cg b a=false→a=b
 | [],[],_,_=>rfl
 | [],y::b,h,_=>by simp[cg]at h
 |x::a,[],_,h=>by simp[cg]at h
 |x::a,y::b,h1,h2=>by
  simp[cg]at h1 h2
  have:x=y:=by omega
  subst this
  rw[j9 a b (by simpa using h1) (by simpa using h2)]
theorem jj: ∀a b c:List Nat,cg a b=true→cg b c=true→cg a c=true
 | [],[],_,h,_=>by simp[cg]at h
 | [],_::_,[],_,h=>by simp[cg]at h
 | [],_::_,_::_,_,_=>rfl
 |x::a,[],_,h,_=>by simp[cg]at h
 |x::a,y::b,[],_,h=>by simp[cg]at h
 |x::a,y::b,z::c,h1,h2=>by
  simp[cg]at h1 h2 ⊢
  rcases h1 with h1|⟨rfl,h1⟩
  ·rcases h2 with h2|⟨rfl,h2⟩
   ·left;omega
   ·left;exact h1
  ·rcases h2 with h2|⟨rfl,h2⟩
   ·left;exact h2
   ·right;exact⟨rfl,jj a b c h1 h2⟩
abbrev lt(a b:List Nat):Prop:=cg a b=true
def SS(L:List (List Nat)):Prop:=L.Pairwise lt
theorem Ia{a b:List Nat}(h:lt a b):a≠b:=fun e=>by subst e;rw[lt,yH]at h;cases h
theorem Ib{a b:List Nat}(h:lt a b)(k:lt b a):False:=Ia (jj _ _ _ h k) rfl
theorem Ic(s y:List Nat)(L:List (List Nat)):y∈pA s L↔y=s∨y∈L:=by
 unfold pA
 have e:y∈L↔y∈L.take (dB s L)∨y∈L.drop (dB s L):=by rw[←List.mem_append,List.take_append_drop]
 split
 ·rename_i h
  have hs:s∈L:=List.mem_of_mem_drop (List.mem_of_mem_head? h)
  exact⟨.inr,fun h=>h.elim (fun h=>h▸hs) id⟩
 ·rw[List.mem_append,List.mem_cons,e]
  constructor
  ·rintro(h|h|h)
   ·exact .inr (.inl h)
   ·exact .inl h
   ·exact .inr (.inr h)
  ·rintro(h|h|h)
   ·exact .inr (.inl h)
   ·exact .inl h
   ·exact .inr (.inr h)
theorem LQ(s:List Nat){L:List (List Nat)}(h:SS L):SS (pA s L):=by
 unfold pA
 split
 ·exact h
 ·rename_i hp
  have hT: ∀y∈L.take (dB s L),lt y s:=by
   intro y hy
   obtain⟨i,hi,rfl⟩:=List.getElem_of_mem hy
   rw[List.length_take]at hi
   rw[List.getElem_take]
   exact vX s L i (by omega)
  have hD: ∀y∈L.drop (dB s L),lt s y:=by
   intro y hy
   have dG:dB s L<L.length:=by
    rcases Nat.lt_or_ge (dB s L) L.length with h|h
    ·exact h
    ·rw[List.drop_of_length_le h]at hy;simp at hy
   have hh:=vY s L dG
   have dr:L[dB s L]≠s:=fun e=>hp (by rw[List.head?_drop,List.getElem?_eq_getElem dG,e])
   have hs:lt s L[dB s L]:=by
    cases hc:cg s L[dB s L]with
    |true=>exact hc
    |false=>exact absurd (j9 _ _ hh hc) dr
   rw[List.drop_eq_getElem_cons dG,List.mem_cons]at hy
   rcases hy with rfl|hy
   ·exact hs
   ·have hd:SS (L.drop (dB s L)):=List.Pairwise.sublist (List.drop_sublist _ _) h
    rw[List.drop_eq_getElem_cons dG]at hd
    exact jj _ _ _ hs ((List.pairwise_cons.1 hd).1 y hy)
  have hTs:SS (L.take (dB s L)):=List.Pairwise.sublist (List.take_sublist _ _) h
  have hDs:SS (L.drop (dB s L)):=List.Pairwise.sublist (List.drop_sublist _ _) h
  refine List.pairwise_append.2 ⟨hTs,List.pairwise_cons.2 ⟨hD,hDs⟩,fun a ha b hb=> ?_⟩
  rcases List.mem_cons.1 hb with rfl|hb
  ·exact hT a ha
  ·exact jj _ _ _ (hT a ha) (hD b hb)
theorem B2: ∀(U:List (List Nat)) {L:List (List Nat)},SS L→SS (jr L U)
 | [],_,h=>h
 |s::U,_,h=>B2 U (LQ s h)
theorem yI(y:List Nat): ∀(U L:List (List Nat)),y∈jr L U↔y∈L∨y∈U
 | [],L=>by simp[jr]
 |s::U,L=>by
  have e:jr L (s::U)=jr (pA s L) U:=rfl
  rw[e,yI y U,Ic,List.mem_cons]
  constructor
  ·rintro((h|h)|h)
   ·exact .inr (.inl h)
   ·exact .inl h
   ·exact .inr (.inr h)
  ·rintro(h|h|h)
   ·exact .inl (.inr h)
   ·exact .inl (.inl h)
   ·exact .inr h
theorem yJ: ∀(l:List (List Nat)) (p:List Nat),(∀y∈l,cg y p=false)→l.Pairwise (fun a b=>cg b a=false)→SS (fk p l)∧ ∀y,y∈fk p l↔y∈l∧y≠p
 | [],p,_,_=>by simp[fk,SS]
 |z::l,p,h1,h2=>by
  obtain⟨h3,h4⟩:=List.pairwise_cons.1 h2
  obtain⟨i1,i2⟩:=yJ l z h3 h4
  have hz:=h1 z (List.mem_cons_self ..)
  by_cases e:z=p
  ·subst e
   rw[fk,if_pos rfl]
   refine⟨i1,fun y=> ?_⟩
   rw[i2 y,List.mem_cons]
   constructor
   ·rintro⟨a,b⟩;exact⟨.inr a,b⟩
   ·rintro⟨rfl|a,b⟩
    ·exact absurd rfl b
    ·exact⟨a,b⟩
  ·rw[fk,if_neg e]
   have hpz:lt p z:=by
    cases hc:cg p z with
    |true=>exact hc
    |false=>exact absurd (j9 _ _ hz hc) e
   have VV: ∀y∈l,y≠z→lt z y:=fun y hy hn=>by
    cases hc:cg z y with
    |true=>exact hc
    |false=>exact absurd (j9 _ _ (h3 y hy) hc) hn
   refine⟨List.pairwise_cons.2 ⟨fun y hy=>VV y ((i2 y).1 hy).1 ((i2 y).1 hy).2,i1⟩,fun y=> ?_⟩
   rw[List.mem_cons,i2 y,List.mem_cons]
   constructor
   ·rintro(rfl|⟨a,b⟩)
    ·exact⟨.inl rfl,e⟩
    ·exact⟨.inr a,fun k=>by subst k;exact Ib hpz (VV _ a b)⟩
   ·rintro⟨rfl|a,b⟩
    ·exact .inl rfl
    ·by_cases k:y=z
     ·exact .inl k
     ·exact .inr ⟨a,k⟩
theorem Ie: ∀(l:List (List Nat)),l.Pairwise (fun a b=>cg b a=false)→SS (cL l)∧ ∀y,y∈cL l↔y∈l
 | [],_=>by simp[cL,SS]
 |z::l,h=>by
  obtain⟨h3,h4⟩:=List.pairwise_cons.1 h
  obtain⟨i1,i2⟩:=yJ l z h3 h4
  simp only[cL]
  refine⟨List.pairwise_cons.2 ⟨fun y hy=> ?_,i1⟩,fun y=> ?_⟩
  ·obtain⟨a,b⟩:=(i2 y).1 hy
   cases hc:cg z y with
   |true=>exact hc
   |false=>exact absurd (j9 _ _ (h3 y a) hc) b
  ·rw[List.mem_cons,i2 y,List.mem_cons]
   constructor
   ·rintro(h|⟨a,_⟩)
    ·exact .inl h
    ·exact .inr a
   ·rintro(h|a)
    ·exact .inl h
    ·by_cases k:y=z
     ·exact .inl k
     ·exact .inr ⟨a,k⟩
theorem N7: ∀(L M:List (List Nat)),SS L→SS M→(∀y,y∈L↔y∈M)→L=M
 | [],[],_,_,_=>rfl
 | [],y::M,_,_,h=>by have:=(h y).2 (List.mem_cons_self ..);simp at this
 |x::L,[],_,_,h=>by have:=(h x).1 (List.mem_cons_self ..);simp at this
 |x::L,y::M,hL,hM,h=>by
  obtain⟨l1,l2⟩:=List.pairwise_cons.1 hL
  obtain⟨m1,m2⟩:=List.pairwise_cons.1 hM
  have lY:x=y:=by
   rcases List.mem_cons.1 ((h x).1 (List.mem_cons_self ..))with e|hx
   ·exact e
   ·rcases List.mem_cons.1 ((h y).2 (List.mem_cons_self ..))with e|hy
    ·exact e.symm
    ·exact(Ib (l1 y hy) (m1 x hx)).elim
  subst lY
  rw[N7 L M l2 m2 fun z=> ?_]
  constructor
  ·intro hz
   rcases List.mem_cons.1 ((h z).1 (List.mem_cons_of_mem _ hz))with e|k
   ·exact absurd e.symm (Ia (l1 z hz))
   ·exact k
  ·intro hz
   rcases List.mem_cons.1 ((h z).2 (List.mem_cons_of_mem _ hz))with e|k
   ·exact absurd e.symm (Ia (m1 z hz))
   ·exact k
theorem D2(U:List (List Nat)):jr [] U=cL (gk U):=by
 have hs:(gk U).Pairwise (fun a b=>cg b a=false):=by
  have:=List.pairwise_mergeSort (le:=fun x y:List Nat=> !cg y x) (fun a b c h1 h2=>by
   simp at h1 h2 ⊢
   cases hc:cg c a with
   |false=>rfl
   |true=>
    cases B3:cg a b with
    |true=>rw[jj _ _ _ hc B3]at h2;cases h2
    |false=>
     have:=j9 _ _ B3 h1
     subst this
     rw[hc]at h2;cases h2) (fun a b=>by
   cases h1:cg b a with
   |false=>rfl
   |true=>
    cases h2:cg a b with
    |false=>rfl
    |true=>exact(Ib h1 h2).elim) U
  exact this.imp fun h=>by simpa using h
 obtain⟨c1,c2⟩:=Ie _ hs
 refine N7 _ _ (B2 U List.Pairwise.nil) c1 fun y=> ?_
 rw[yI,c2]
 unfold gk
 rw[List.mem_mergeSort]
 simp
end Go.Proofs.YtfenhjpkomldcaaGreat
namespace Go.Proofs.YtfenhjpkomldcaaGreat
open Go Go.Ev
theorem QK(L:List (List Nat))(u v:T)(hu:aN u L.length (L.map T.s))(hv:aN v L.length (L.map T.s))(hlen:L.length≤4294967296)(fr:Fr)(lh:aQ aA)(sh:List aA)
  (h0:an fr 0=u) (h1:an fr 1=v) (h5:an fr 5= .i .i64 0):
  DC pE 26 (.loop ls) ⟨fr,lh,sh⟩=some (.ext 0,⟨ev pE 26 ls fr lh sh,eP pE 26 ls fr lh sh,eJ pE 26 ls fr lh sh⟩)∧(eJ pE 26 ls fr lh sh=sh):=by
 refine a6 (P:=fun g7 dj cq=>cq=sh)
  (bt (fun k st=> ∃(fr:Fr),st=⟨fr,lh,sh⟩∧an fr 0=u∧an fr 1=v∧an fr 5= .i .i64 (k:Int)) _ L.length ?_ ?_ 0 _ (Nat.zero_le _) ⟨fr,rfl,h0,h1,h5⟩)
 ·rintro k _ hk ⟨fr,rfl,h0,h1,h5⟩
  left
  have dN:(k:Int)<L.length:=by omega
  have hw:=uz (k:=k) (by omega)
  obtain⟨ia,hd⟩:=uy hu k hk
  obtain⟨ib,_⟩:=uy hv k hk
  rw[hd]at ia ib
  simp(maxDischargeDepth:=6) only[ah,ai,ab,aj,ae,aY,aK,Nat.reduceAdd,reduceCtorEq,Nat.reduceLT,Nat.reduceEqDiff,ls,h0,h1,h5,hu.lenI,dN,ia,ib,hw]
  refine⟨_,rfl,_,rfl, ?_, ?_, ?_⟩
  all_goals (simp(maxDischargeDepth:=6) only[ab,ae,reduceCtorEq,Nat.reduceEqDiff,h0,h1])
 ·rintro _ ⟨fr,rfl,h0,h1,h5⟩
  simp(maxDischargeDepth:=6) only[ah,ai,ab,ae,ak,reduceCtorEq,Nat.reduceLT,Nat.reduceEqDiff,ls,h0,h5,hu.lenI,Int.lt_irrefl]
  exact⟨_,_,(by simp:Out.ext 0≠ .nrm),rfl,rfl,rfl⟩
theorem If(L:List (List Nat))(u v:T)(hu:aN u L.length (L.map T.s))(hv:aN v L.length (L.map T.s))(hlen:L.length≤4294967296):aa pE 46 [u,v] []=some (.b true,[]):=by
 have hL:=fun fr lh sh h0 h1 h5=>QK L u v hu hv hlen fr lh sh h0 h1 h5
 rw[aD Oz (by simp[Rt])]
 simp(maxDischargeDepth:=6) only[qF,ah,ai,ab,aj,ae,reduceCtorEq,Nat.reduceLT,Nat.reduceEqDiff,Rt,hL,hu.lenI,hv.lenI]
theorem ZI(xs:Cs)(a:T)(cc:List T)(ha:aN a xs.length cc)(hx:df xs cc)(hlen:xs.length≤iq)(gH: ∀u∈xs,u.2.al)(fr:Fr)(lh:aQ aA)(sh:List aA)
  (h0:an fr 0=a) (h3:Eh (an fr 3)=true) (hi:an fr 4= .i .i64 0):
  DC pE 25 (.loop iM) ⟨fr,lh,sh⟩=some (.ext 0,⟨ev pE 25 iM fr lh sh,eP pE 25 iM fr lh sh,eJ pE 25 iM fr lh sh⟩)∧(Eh (an (ev pE 25 iM fr lh sh) 3)=true∧eP pE 25 iM fr lh sh=lh∧eJ pE 25 iM fr lh sh=sh):=by
 refine a6 (P:=fun g7 dj cq=>Eh (an g7 3)=true∧dj=lh∧cq=sh)
  (bt (fun k st=> ∃(fr:Fr),st=⟨fr,lh,sh⟩∧an fr 0=a∧Eh (an fr 3)=true∧an fr 4= .i .i64 (k:Int)) _ xs.length ?_ ?_ 0 _ (Nat.zero_le _) ⟨fr,rfl,h0,h3,hi⟩)
 ·rintro k _ hk ⟨fr,rfl,h0,h3,hi⟩
  have dN:(k:Int)<xs.length:=by omega
  have hw:=jh (k:=k) (by omega)
  obtain⟨b,cb,rr,cQ,fu,oq,hb⟩:=fZ ha hx k hk
  obtain⟨n,hn⟩:=vQ h3
  obtain⟨m,aB⟩:=HV xs[k].2 _ hb (gH _ (List.getElem_mem hk))
  by_cases dG:n<1000
  ·left
   simp(maxDischargeDepth:=6) only[qF,ah,ai,ab,aj,ae,reduceCtorEq,Nat.reduceLT,Nat.reduceLeDiff,Nat.reduceEqDiff,iM,h0,hn,hi,ha.lenI,dN,dG,cQ,hw,fu.froz1,aB,OJ]
   refine⟨_,rfl,_,rfl, ?_, ?_, ?_⟩
   ·simp(maxDischargeDepth:=6) only[ab,ae,reduceCtorEq,h0]
   ·simp(maxDischargeDepth:=6) only[ab,ae,Nat.reduceEqDiff,qg]
   ·simp(maxDischargeDepth:=6) only[ab]
  ·right
   simp(maxDischargeDepth:=6) only[ah,ai,ab,aj,ae,ak,reduceCtorEq,Nat.reduceLT,Nat.reduceEqDiff,iM,h0,hn,hi,ha.lenI,dN,dG]
   refine⟨_,_,(by simp:Out.ext 0≠ .nrm),rfl,rfl, ?_,rfl,rfl⟩
   simp(maxDischargeDepth:=6) only[ab,ae,Nat.reduceEqDiff,hn,qg]
 ·rintro _ ⟨fr,rfl,h0,h3,hi⟩
  simp(maxDischargeDepth:=6) only[ah,ai,ab,ae,ak,reduceCtorEq,Nat.reduceLT,Nat.reduceEqDiff,iM,h0,hi,ha.lenI,Int.lt_irrefl]
  refine⟨_,_,(by simp:Out.ext 0≠ .nrm),rfl,rfl, ?_,rfl,rfl⟩
  simp(maxDischargeDepth:=6) only[ab,ae,Nat.reduceEqDiff,h3]
theorem Vq(xs:Cs)(a:T)(cc:List T)(ha:aN a xs.length cc)(hx:df xs cc)(hlen:xs.length≤iq)(gH: ∀u∈xs,u.2.al): ∃b,aa pE 44 [a] []=some (.b b,[]):=by
 have hL:=fun fr lh sh h0 h3 hi=>ZI xs a cc ha hx hlen gH fr lh sh h0 h3 hi
 rw[aD RN (by simp[Rr])]
 simp(maxDischargeDepth:=6) only[qF,ah,ai,ab,ae,reduceCtorEq,Nat.reduceLT,Nat.reduceEqDiff,Rr,qg,hL]
 generalize hX:an (ev _ _ _ _ _ _) 3=X
 obtain⟨n,hn⟩: ∃n,X= .i .i64 n:=by
  rw[←hX]
  refine vQ (hL _ _ _ ?_ ?_ ?_).2.1 <;> simp(maxDischargeDepth:=6) only[ab,ae,reduceCtorEq,Nat.reduceEqDiff,qg]
 rw[hn]
 simp(maxDischargeDepth:=6) only[qF,ah,ai,ab,aj,ae,Nat.reduceLT]
 exact⟨_,rfl⟩
theorem Vr(x:Ex)(cs:List T)(hx:bj x cs)(gH:x.al): ∃b,aa pE 45 [.agg cs] []=some (.b b,[]):=by
 obtain⟨n,hn⟩:=HV x cs hx gH
 obtain⟨a,cc,rfl,ha,g5⟩:=hx.cells
 rw[aD RO (by simp[Rs])]
 simp(maxDischargeDepth:=6) only[qF,ah,ai,ab,aj,ae,ak,Nat.reduceAdd,Nat.reduceLT,Nat.reduceEqDiff,Rs,ha.froz1,hn,OJ]
 exact⟨_,rfl⟩
theorem Ig(x:Ex)(cs mw:List T)(h1:bj x cs)(h2:bj x mw)(hn:x.nodes≤100000):aa pE 19 [.agg cs,.agg mw] []=some (.b true,[]):=by
 have h:=Lt x cs mw h1 h2 hn
 obtain⟨a,cc,rfl,ha,g5⟩:=h1.cells
 obtain⟨a',UY,rfl,Ny,UZ⟩:=h2.cells
 rw[aD Oy (by simp[Rq])]
 simp(maxDischargeDepth:=6) only[qF,ah,ai,ab,aj,ae,ak,Nat.reduceAdd,reduceCtorEq,Nat.reduceLT,Nat.reduceEqDiff,Rq,h,RW,ha.froz1,Ny.froz1]
theorem Ih(l:Cs)(scope:Int)(x:Ex)(hs:x.sm):(vN l scope x).1.nodes≤100000:=by
 unfold vN
 split
 ·simp[bz,Ex.nodes,aR]
 ·rename_i h
  have:=(pv (l:=l) (scope:=scope) (x:=x) (by simpa using h) hs).2.1
  split
  ·simp[bz,Ex.nodes,aR]
  ·show(bX l scope x).nodes≤100000
   omega
theorem Ii(x:Ex)(cs:List T)(hx:bj x cs)(gH:x.al)(hu:x.uses.length≤4294967296): ∃t,aa pE 48 [.agg cs] []=some (t,[])∧aN t x.usesN.length (x.usesN.map T.s):=by
 obtain⟨t2,ZJ,Bs⟩:=QI x cs .nilsl [] hx gH (.inl ⟨rfl,rfl,rfl⟩) (by simpa using hu)
 rw[D2]at Bs
 obtain⟨a,cc,rfl,ha,g5⟩:=hx.cells
 rw[aD OB (by simp[Rv])]
 refine⟨t2, ?_,Bs⟩
 simp(maxDischargeDepth:=6) only[qF,ah,ai,ab,aj,ae,ak,Nat.reduceAdd,Nat.reduceLT,Nat.reduceEqDiff,Rv,ha.froz1,ZJ,R0,Bs.froz]
theorem Vs(l:Cs)(lT:T)(cl:List T)(hl:aN lT l.length cl)(dq:df l cl)(hlen:l.length≤gi)(j7:DQ l)(hlS:l.length≤iq)(ZK: ∀u∈l,u.2.al)(scope:Int)(x:Ex)(cs:List T)(hx:bj x cs)(hs:x.sm)(gH:x.al)(hu:x.uses.length≤4294967296):
  ∃s,aa pE 13 [lT,.i .i64 scope,.agg cs] []=some (.b true,s):=by
 obtain⟨c1,s1,hp,jO⟩:=Lz l lT cl hl dq hlen j7 scope x cs hx (Nat.zero_le _) hs
 obtain⟨c2,hr,HD⟩:=LB l lT cl hl dq hlen j7 scope x cs hx (Nat.zero_le _) hs
 have ZL:aa pE 19 [.agg c1,.agg c2] []=some (.b true,[]):=Ig _ c1 c2 jO HD (Ih l scope x hs)
 obtain⟨s3,haw⟩:=HP
 obtain⟨b1,fu⟩:=Vq l lT cl hl dq hlS ZK
 obtain⟨b2,oq⟩:=Vr x cs hx gH
 obtain⟨t1,s4,HE,hi1⟩:=H6 x cs hx gH hu
 obtain⟨t2,ZJ,Bs⟩:=Ii x cs hx gH hu
 have h5:=If x.usesN t1 t2 hi1 Bs (by unfold Ex.usesN;exact Nat.le_trans (sD _) (by rw[mj];exact hu))
 have mK:=hl.froz
 obtain⟨a,cc,rfl,ha,g5⟩:=hx.cells
 obtain⟨p1,q1,rfl,u1,w1⟩:=jO.cells
 obtain⟨p2,q2,rfl,u2,w2⟩:=HD.cells
 generalize vN l scope x=q at*
 obtain⟨y,e⟩:=q
 simp only at*
 rw[aD XV (by simp[Q1])]
 cases b1 <;> cases b2
 all_goals simp(maxDischargeDepth:=6) only[qF,ah,ai,ab,aj,ae,ak,splice,Nat.reduceAdd,reduceCtorEq,Nat.reduceLT,Nat.reduceEqDiff,bV,aV,Q1,mK,fu,oq,X2,X3,hp,XW,hr,XX,ha.froz1,u1.froz1,u2.froz1,ZL,XY,XZ,haw,X0,X1,HE,ZJ,X6,X7,X8,X9,h5,X4,X5,hi1.froz,Bs.froz]
 all_goals exact⟨_,rfl⟩
end Go.Proofs.YtfenhjpkomldcaaGreat
namespace Go.Proofs.YtfenhjpkomldcaaGreat
open Go Go.Ev
theorem N8{v:T}{n:Nat}{cc:List T}(h:aN v n cc):qy cc≤wt v:=by
 rcases h with⟨rfl,_,rfl⟩|⟨ex,rfl⟩
 ·exact Nat.zero_le _
 ·simp only[wt];omega
theorem Ij{xs:List Ex}(ih: ∀y∈xs,∀cs,bj y cs→y.uses.length≤qy cs): ∀cc,aL xs cc→(dw xs).length≤qy cc:=by
 induction xs with
 |nil=>intro cc _;exact Nat.zero_le _
 |cons x xs Pt=>
  intro cc h
  rw[aL]at h
  obtain⟨c,r,rfl,h1,h2⟩:=h
  have a:=ih x (List.mem_cons_self ..) c h1
  have b:=Pt (fun y hy=>ih y (List.mem_cons_of_mem _ hy)) r h2
  rw[qJ,dw,List.length_append]
  omega
theorem LR(x:Ex): ∀cs,bj x cs→x.uses.length≤qy cs:=by
 induction x using Ex.ind with
 |h x ih=>
 intro cs hx
 obtain⟨a,cc,rfl,ha,g5⟩:=hx.cells
 have h1:=Ij ih cc g5
 have h2:=N8 ha
 rw[Ex.uses_eq,List.length_append]
 simp only[qy,wt]
 split
 ·simp only[List.length_cons,List.length_nil];omega
 ·simp only[List.length_nil];omega
theorem N9: ∀{l:Cs} {cc:List T},df l cc→2*l.length≤qy cc
 | [],_,_=>Nat.zero_le _
 |c::l,cc,h=>by
  rw[df]at h
  obtain⟨ex,r,rfl,h1,h2⟩:=h
  have:=N9 h2
  obtain⟨a,cd,rfl,_,_⟩:=h1.cells
  simp only[List.cons_append,List.nil_append,qy,wt,List.length_cons]
  omega
theorem QL{n m:Nat}{t0 t2:List T}(h0:gW Tryz.prog n 30 t0)(w0:qy t0≤1048576)(scope:Int)(h2:gW Tryz.prog m 25 t2)(w2:qy t2≤1048576):
  ∃lT s,t0= [lT]∧aa pE 13 [lT,.i .i64 scope,.agg t2] []=some (.b true,s):=by
 obtain⟨k,lT,len,cl,rfl,rfl,hl,hb,hr⟩:=N2 (e:=106) (by kernel_rfl) (of_decide_eq_true (by kernel_rfl)) h0
 obtain⟨l,rfl,hw,hq⟩:=vR (fun p hp=>Vh hp) len cl hr
 obtain⟨x,hx,gH,j7⟩:=N4 h2
 have dq:=sx hw
 have hn:=N9 dq
 have hs:=N8 hl
 have hu:=LR x t2 hx
 simp only[qy]at w0
 obtain⟨s,hs⟩:=Vs l lT cl hl dq (by unfold gi;omega) (fun c hc=>(hq c hc).2) hb (fun c hc=>(hq c hc).1) scope x t2 hx j7.2 gH (by omega)
 exact⟨lT,s,rfl,hs⟩
end Go.Proofs.YtfenhjpkomldcaaGreat
