/- Walks of functions of the program and of the reference, and their plain laws, part 20. Conditions: the theorems' own. -/
import Derived.Test.YtjniffjppoklpaaGreatM19
import Derived.KernelRfl
set_option maxRecDepth 100000
set_option linter.unusedSimpArgs false
set_option linter.unusedVariables false
set_option maxHeartbeats 16000000
namespace Go.Proofs.YtjniffjppoklpaaGreat
open Go Go.Ev
theorem J4(N:Nat): ∀(p:Option Int) (l:List Int),vL N p l=0→ ∀x∈l,0≤x∧x<(N:Int)
 |_,[],_=>by simp
 |p,x::l,h=>by
  rw[F8]at h
  by_cases r:0≤x∧x<(N:Int)
  ·rw[if_pos r]at h
   have E:vL N (some x) l=0:=by
    cases p with
    |none=>exact h
    |some q=>
     by_cases D:x≤q
     ·simp[D]at h
     ·simpa[D]using h
   intro y hy
   rcases List.mem_cons.1 hy with rfl|hy
   ·exact r
   ·exact J4 N _ l E y hy
  ·rw[if_neg r]at h;cases h
def vBd:Nat→Nat
 |0=>0
 |n+1=>2*(1+12*vBd n)
theorem J5{α β:Type}(f:α→List β)(B:Nat): ∀(l:List α),(∀x∈l,(f x).length≤B)→(l.flatMap f).length≤l.length*B
 | [],_=>by simp
 |x::l,h=>by
  have D:=h x List.mem_cons_self
  have E:=J5 f B l fun y r=>h y (List.mem_cons_of_mem _ r)
  rw[List.flatMap_cons,List.length_append,List.length_cons,Nat.succ_mul]
  omega
section
variable(N:Nat)(J:Nat→Nat→Bool)(iQ:Nat→Bool)(ok:List (Int×Bool)→Bool)(lg:List (Int×Bool)→Lg)(hN:N≤12)
include hN
theorem one_le(r:List (Int×Bool)→Nat→Nat→List Lg)(B:Nat)(D: ∀x g h,(r x g h).length≤B)(x:List (Int×Bool))(f h:Nat):(wu N J ok lg r x f h).length≤1+12*B:=by
 unfold wu
 rw[List.length_append]
 have F:(if ok x=true then [lg x]else []).length≤1:=by split <;> simp
 have I:=J5 (fun g=>r x g h) B (ln N J f) fun g _=>D x g h
 have E:(ln N J f).length≤12:=Nat.le_trans (Cd _ _) hN
 have K:(ln N J f).length*B≤12*B:=Nat.mul_le_mul_right B E
 omega
theorem aa0: ∀(n:Nat) (d:List (Int×Bool)) (f h:Nat),(k9 N J iQ ok lg n d f h).length≤vBd n
 |0,_,_,_=>Nat.zero_le _
 |n+1,d,f,h=>by
  have ih:=fun x g h=>aa0 n x g h
  have r:=fun x h=>one_le N J ok lg hN _ _ ih x f h
  rw[k9,List.length_append,vBd]
  have a1:(if iQ f=true then wu N J ok lg (k9 N J iQ ok lg n) (d++ [((f:Int),false)]) f h else []).length≤1+12*vBd n:=by
   split
   ·exact r _ _
   ·simp
  have a2:(if h=0 then []else wu N J ok lg (k9 N J iQ ok lg n) (d++ [((f:Int),true)]) f (h-1)).length≤1+12*vBd n:=by
   split
   ·simp
   ·exact r _ _
  omega
theorem P1(H:Nat):(ph N J iQ ok lg H).length≤1000000000:=by
 have h:=J5 (fun f=>k9 N J iQ ok lg 6 [] f H) (vBd 6) (List.range N) fun f _=>aa0 N J iQ ok lg hN 6 [] f H
 rw[List.length_range]at h
 have r:N*vBd 6≤12*vBd 6:=Nat.mul_le_mul_right _ hN
 have D:12*vBd 6≤1000000000:=by decide
 exact Nat.le_trans h (Nat.le_trans r D)
end
def UJ(r:List Lg)(v:T):Prop:= ∃cs,iJ v r.length cs∧iK LgQ r cs
theorem afU(r:List Lg): ∃v,UJ r v:=by
 obtain⟨cs,h⟩: ∃cs,iK LgQ r cs:=by
  induction r with
  |nil=>exact⟨[],rfl⟩
  |cons g r ih=>
   obtain⟨cs,h⟩:=ih
   exact⟨_,_,_,rfl,⟨.sl (nM g.du) g.du.length false,rfl,.inr ⟨_,rfl⟩⟩,h⟩
 exact⟨.sl cs r.length false,cs,.inr ⟨_,rfl⟩,h⟩
theorem nX{v:T}(h:froz1 v=true):kept1 v=true:=by cases v <;> simp_all[froz1,kept1]
theorem RR{v:T}(h:froz1 v=true):kept v=true:=by cases v <;> simp_all[froz1,kept,kept1]
section
variable(t:Tt)(c:Ct)(zT aT fT a7 a8 a9 a10 iH iG:T)(hT:ue t zT aT fT)(hC:uF c a7 a8 a9 a10 iH iG)(hA:U9 c)(hL: ∀f∈t.fl,f.nu.length≤mh)(hN:t.fl.length≤12)
include hT hC hA hN
theorem afV: ∃s,be pE 6 [.agg [zT,aT,fT],.agg (jb c a7 a8 a9 a10 iH iG)] []=some (if mi t c=0 then .tup [KA t.fl.length (jn c t.fl),.i .i64 0]else .tup [.nilsl,.i .i64 (mi t c)],s):=by
 have E:=DD t c zT aT fT a7 a8 a9 a10 iH iG hT hC
 by_cases D:mi t c=0
 ·obtain⟨s,I,r,X⟩:=ZR t c zT aT fT a7 a8 a9 a10 iH iG hT hC hA D
  obtain⟨K,O,U⟩:=id hT.f
  obtain⟨Y,F⟩:=F7 zT aT fT a7 a8 a9 a10 iH iG c I K t.fl O U (by omega)
  have V:froz1 (KA t.fl.length (jn c t.fl))=true:=rfl
  have W:froz (KA t.fl.length (jn c t.fl))=true:=rfl
  generalize KA t.fl.length (jn c t.fl)=nT at*
  unfold YtjniffjppoklpaaGreat.stV at r
  unfold jb at*
  simp only[List.cons_append,List.nil_append]at r F
  rw[iD fn6 (by simp[c6])]
  simp(maxDischargeDepth:=6) only[qA,seval,c6,E,r,F,IG,aq4,D,V,W,Fy]
 ·obtain⟨s,r⟩:=ZS t c zT aT fT a7 a8 a9 a10 iH iG hT hC hA D
  unfold jb at*
  rw[iD fn6 (by simp[c6])]
  simp(maxDischargeDepth:=6) only[qA,seval,c6,E,r,IG,D,Fy]
include hL
theorem afW: ∃s,be pE 7 [.agg [zT,aT,fT],.agg (jb c a7 a8 a9 a10 iH iG)] []=some (if mi t c=0 then .tup [ku t.fl.length (((List.range t.fl.length).map (ln t.fl.length (jn c t.fl))).map qO),.i .i64 0]else .tup [.nilsl,.i .i64 (mi t c)],s):=by
 have D:=DD t c zT aT fT a7 a8 a9 a10 iH iG hT hC
 have E:=Ju t c zT aT fT a7 a8 a9 a10 iH iG hT hC hA hL
 have F:=Ce t c zT aT fT a7 a8 a9 a10 iH iG hT hC (by omega)
 have r:froz1 (ku t.fl.length (((List.range t.fl.length).map (ln t.fl.length (jn c t.fl))).map qO))=true:=by unfold ku;split <;> rfl
 generalize ku t.fl.length (((List.range t.fl.length).map (ln t.fl.length (jn c t.fl))).map qO)=nT at*
 unfold jb at*
 rw[iD fn7 (by simp[c7])]
 by_cases I:mi t c=0
 all_goals simp(maxDischargeDepth:=6) only[qA,seval,c7,D,E,F,Oq,SU,I,r,Fy]
omit hL in
theorem afX(ops:List Int)(oT:T)(ho:iJ oT ops.length (ints ops))(U:ops.length≤1000)(H:Int): ∃s,be pE 9 [.agg [zT,aT,fT],.agg (jb c a7 a8 a9 a10 iH iG),oT,.i .i64 H] []=some (.tup [.i .i64 (if wq t c ops H=0 then G8 c t.fl ops H.toNat else 0),.i .i64 (wq t c ops H)],s):=by
 have K:=DD t c zT aT fT a7 a8 a9 a10 iH iG hT hC
 have V:=ho.froz
 have W:=ho.froz1
 unfold wq
 by_cases F:mi t c=0
 ·obtain⟨s,X,D,hS⟩:=ZR t c zT aT fT a7 a8 a9 a10 iH iG hT hC hA F
  obtain⟨Y,Z,f2⟩:=id hT.f
  have I:=aaG zT aT fT (jb c a7 a8 a9 a10 iH iG++X) Y t.fl.length Z (by omega) ops oT ho U H
  by_cases r:(if vL t.fl.length none ops=0 then(if H<0∨6<H then 5 else 0)else vL t.fl.length none ops)=(0:Int)
  ·obtain⟨E,h3⟩:vL t.fl.length none ops=0∧ ¬(H<0∨6<H):=by
    by_cases E:vL t.fl.length none ops=0
    ·rw[if_pos E]at r
     refine⟨E,fun h3=> ?_⟩
     rw[if_pos h3]at r;cases r
    ·rw[if_neg E]at r;exact absurd r E
   obtain⟨m,rfl⟩: ∃m:Nat,H=(m:Int):=⟨H.toNat,by omega⟩
   obtain⟨s1,O⟩:=RD zT aT fT a7 a8 a9 a10 iH iG c X Y t.fl Z f2 (by omega) ops oT ho U (J4 _ _ _ E) m (by omega)
   rw[RJ]at O
   rw[r]at I
   rw[if_pos F,r,if_pos rfl]
   unfold YtjniffjppoklpaaGreat.stV at D
   unfold G8
   unfold jb at*
   simp only[List.cons_append,List.nil_append]at D O I
   rw[iD fn9 (by simp[c9])]
   simp(maxDischargeDepth:=6) only[qA,seval,c9,K,D,O,I,IG,WG,ajA,V,W,Fy]
  ·rw[if_pos F,if_neg r]
   generalize hEE:(if vL t.fl.length none ops=0 then(if H<0∨6<H then 5 else 0)else vL t.fl.length none ops)=EE at*
   unfold YtjniffjppoklpaaGreat.stV at D
   unfold jb at*
   simp only[List.cons_append,List.nil_append]at D I
   rw[iD fn9 (by simp[c9])]
   simp(maxDischargeDepth:=6) only[qA,seval,c9,K,D,I,IG,WG,V,W,r,Fy]
 ·obtain⟨s,D⟩:=ZS t c zT aT fT a7 a8 a9 a10 iH iG hT hC hA F
  unfold jb at*
  rw[iD fn9 (by simp[c9])]
  simp(maxDischargeDepth:=6) only[qA,seval,c9,K,D,IG,F,Fy]
omit hL in
theorem aa1(ops:List Int)(oT:T)(ho:iJ oT ops.length (ints ops))(hl:ops.length≤1000)(H:Int): ∃v s,be pE 11 [.agg [zT,aT,fT],.agg (jb c a7 a8 a9 a10 iH iG),oT,.i .i64 H] []=some (if wq t c ops H=0 then(if 20000<G8 c t.fl ops H.toNat∨2000<(ph t.fl.length (jn c t.fl) (nk ops) (pM t c) (kh t c) H.toNat).length then .tup [.nilsl,.i .i64 10]else .tup [v,.i .i64 0])else .tup [.nilsl,.i .i64 (wq t c ops H)],s)∧aaP (ph t.fl.length (jn c t.fl) (nk ops) (pM t c) (kh t c) H.toNat) v:=by
 have V:=DD t c zT aT fT a7 a8 a9 a10 iH iG hT hC
 have X:=ho.froz
 have Y:=ho.froz1
 unfold wq
 by_cases F:mi t c=0
 ·obtain⟨s,Z,r,hS⟩:=ZR t c zT aT fT a7 a8 a9 a10 iH iG hT hC hA F
  obtain⟨ht,hc⟩:=Pp t c zT aT fT a7 a8 a9 a10 iH iG hT hC hA F
  obtain⟨fc,f1,f2⟩:=id hT.f
  have I:=aaG zT aT fT (jb c a7 a8 a9 a10 iH iG++Z) fc t.fl.length f1 (by omega) ops oT ho hl H
  by_cases D:(if vL t.fl.length none ops=0 then(if H<0∨6<H then 5 else 0)else vL t.fl.length none ops)=(0:Int)
  ·obtain⟨K,h3⟩:vL t.fl.length none ops=0∧ ¬(H<0∨6<H):=by
    by_cases K:vL t.fl.length none ops=0
    ·rw[if_pos K]at D
     refine⟨K,fun h3=> ?_⟩
     rw[if_pos h3]at D;cases D
    ·rw[if_neg K]at D;exact absurd D K
   obtain⟨m,rfl⟩: ∃m:Nat,H=(m:Int):=⟨H.toNat,by omega⟩
   obtain⟨v,s1,O,E⟩:=amN zT aT fT a7 a8 a9 a10 iH iG c Z fc t.fl f1 f2 (by omega) (pM t c) (kh t c) (Rr t c) (fun x x1 x6 hx=>afj t c zT aT fT a7 a8 a9 a10 iH iG Z hT hS ht hc x _ (GY.of (.inr ⟨_,rfl⟩)) x1 (by omega) hx) ops oT ho hl (J4 _ _ _ K) m (by omega) (P1 _ _ _ _ _ hN _)
   refine⟨v, ?_⟩
   rw[RJ]at O
   rw[D]at I
   rw[if_pos F,D,if_pos rfl,Int.toNat_natCast]
   have hvf:froz1 v=true:=E.choose_spec.1.froz1
   unfold YtjniffjppoklpaaGreat.stV at r
   unfold G8
   generalize ph t.fl.length (jn c t.fl) (nk ops) (pM t c) (kh t c) m=out at*
   generalize ni (yh t.fl.length m (cB t.fl.length (jn c t.fl) (nk ops)) 6)=W at*
   unfold jb at*
   simp only[List.cons_append,List.nil_append]at r O I
   rw[iD acr (by simp[vN])]
   by_cases U:20000<W∨2000<out.length
   ·rw[if_pos U]at O ⊢
    simp(maxDischargeDepth:=6) only[qA,seval,vN,V,r,O,I,IG,WG,aq9,X,Y]
    exact⟨_,rfl,E⟩
   ·rw[if_neg U]at O ⊢
    simp(maxDischargeDepth:=6) only[qA,seval,vN,V,r,O,I,IG,WG,aq9,X,Y,hvf]
    exact⟨_,rfl,E⟩
  ·obtain⟨v,E⟩:=JX (ph t.fl.length (jn c t.fl) (nk ops) (pM t c) (kh t c) H.toNat)
   refine⟨v, ?_⟩
   rw[if_pos F,if_neg D]
   generalize hEE:(if vL t.fl.length none ops=0 then(if H<0∨6<H then 5 else 0)else vL t.fl.length none ops)=EE at*
   unfold YtjniffjppoklpaaGreat.stV at r
   unfold jb at*
   simp only[List.cons_append,List.nil_append]at r I
   rw[iD acr (by simp[vN])]
   simp(maxDischargeDepth:=6) only[qA,seval,vN,V,r,I,IG,WG,X,Y,D]
   exact⟨_,rfl,E⟩
 ·obtain⟨s,r⟩:=ZS t c zT aT fT a7 a8 a9 a10 iH iG hT hC hA F
  obtain⟨v,E⟩:=JX (ph t.fl.length (jn c t.fl) (nk ops) (pM t c) (kh t c) H.toNat)
  refine⟨v, ?_⟩
  unfold jb at*
  rw[iD acr (by simp[vN])]
  simp(maxDischargeDepth:=6) only[qA,seval,vN,V,r,IG,F]
  exact⟨_,rfl,E⟩
theorem aa2(ops:List Int)(oT:T)(ho:iJ oT ops.length (ints ops))(hl:ops.length≤1000)(H:Int): ∃v s,be pE 12 [.agg [zT,aT,fT],.agg (jb c a7 a8 a9 a10 iH iG),oT,.i .i64 H] []=some (if wq t c ops H=0 then(if 20000<G8 c t.fl ops H.toNat∨2000<(ph t.fl.length (jn c t.fl) (nk ops) (pM t c) (kh t c) H.toNat).length then .tup [.nilsl,.i .i64 10]else .tup [v,.i .i64 0])else .tup [.nilsl,.i .i64 (wq t c ops H)],s)∧UJ (ph t.fl.length (jn c t.fl) (nk ops) (pM t c) (kh t c) H.toNat) v:=by
 have W:=DD t c zT aT fT a7 a8 a9 a10 iH iG hT hC
 have yg:=ho.froz
 have pg:=ho.froz1
 obtain⟨s0,X⟩:=JW t c zT aT fT a7 a8 a9 a10 iH iG hT hC hA hL (by omega) ops oT ho hl H
 by_cases r:wq t c ops H=0
 ·obtain⟨Y,Z,h3⟩:mi t c=0∧vL t.fl.length none ops=0∧ ¬(H<0∨6<H):=by
   unfold wq at r
   by_cases Y:mi t c=0
   ·rw[if_pos Y]at r
    by_cases Z:vL t.fl.length none ops=0
    ·rw[if_pos Z]at r
     refine⟨Y,Z,fun h3=> ?_⟩
     rw[if_pos h3]at r;cases r
    ·rw[if_neg Z]at r;exact absurd r Z
   ·rw[if_neg Y]at r;exact absurd r Y
  obtain⟨m,rfl⟩: ∃m:Nat,H=(m:Int):=⟨H.toNat,by omega⟩
  have e2:=aaJ t c zT aT fT a7 a8 a9 a10 iH iG hT hC (by omega) ops oT ho hl
  have e3:=Ce t c zT aT fT a7 a8 a9 a10 iH iG hT hC (by omega)
  rw[if_pos Z]at e2
  rw[r,if_pos rfl,Int.toNat_natCast]at X
  simp only[r,if_true,Int.toNat_natCast]
  have D:froz1 (ku t.fl.length (((List.range t.fl.length).map (ln t.fl.length (jn c t.fl))).map qO))=true:=by unfold ku;split <;> rfl
  have E:froz (ku t.fl.length (((List.range t.fl.length).map (ln t.fl.length (jn c t.fl))).map qO))=true:=by unfold ku;split <;> rfl
  have mI: ∀f,f<t.fl.length→ ∃q,∀kk,ng (ku t.fl.length (((List.range t.fl.length).map (ln t.fl.length (jn c t.fl))).map qO)) (.i kk (f:Int)) 1=some (.vp (qO (ln t.fl.length (jn c t.fl) f)::q)):=fun f hf=>by
   have hl:(((List.range t.fl.length).map (ln t.fl.length (jn c t.fl))).map qO).length=t.fl.length:=by simp
   unfold ku
   rw[if_neg (by omega)]
   refine⟨(((List.range t.fl.length).map (ln t.fl.length (jn c t.fl))).map qO).drop (f+1),fun kk=> ?_⟩
   rw[kG,if_pos ⟨by omega,by simpa using hf,by rw[hl];simp;omega⟩,Int.toNat_natCast,Nat.mul_one,List.drop_eq_getElem_cons (by rw[hl];exact hf)]
   simp
  have F:froz1 (.sl (sC (nl t.fl.length ops)) t.fl.length false)=true:=rfl
  have I:froz (.sl (sC (nl t.fl.length ops)) t.fl.length false)=true:=rfl
  obtain⟨v,s',e4,hV⟩:=aaS t c zT aT fT a7 a8 a9 a10 iH iG hT hC hA hL Y (by omega) (.sl (sC (nl t.fl.length ops)) t.fl.length false) (ku t.fl.length (((List.range t.fl.length).map (ln t.fl.length (jn c t.fl))).map qO)) I E (nk ops) (JP t.fl.length ops) rfl mI 6 [] .nilsl m [] .nilsl [] rfl (.inl ⟨rfl,rfl⟩) (.inl rfl) (by omega) (.inl ⟨rfl,rfl,rfl⟩) (by
   have:=P1 t.fl.length (jn c t.fl) (nk ops) (pM t c) (kh t c) hN m
   unfold ph at this
   simpa[wv]using this)
  have hcn:(wv t.fl.length (jn c t.fl) []).flatMap (fun f=>k9 t.fl.length (jn c t.fl) (nk ops) (pM t c) (kh t c) 6 [] f m)=ph t.fl.length (jn c t.fl) (nk ops) (pM t c) (kh t c) m:=rfl
  rw[List.nil_append,hcn]at hV
  clear hcn
  generalize hmT:T.sl (sC (nl t.fl.length ops)) t.fl.length false=mT at*
  generalize ku t.fl.length (((List.range t.fl.length).map (ln t.fl.length (jn c t.fl))).map qO)=nT at*
  unfold jb at*
  have K:(kept1 zT=true∧kept1 aT=true∧kept1 fT=true∧kept1 a7=true∧kept1 a8=true∧kept1 a9=true∧kept1 a10=true∧kept1 iH=true∧kept1 iG=true):=by
   obtain⟨⟨z1,z2,z3,z4,z5,z6,z7,z8,z9⟩,_⟩:=W
   exact⟨nX z1,nX z2,nX z3,nX z4,nX z5,nX z6,nX z7,nX z8,nX z9⟩
  have N3:kept mT=true:=RR F
  have pK:kept nT=true:=RR D
  rcases hV with⟨rfl,h5,rfl⟩|⟨g,cs,rfl,rfl,b1⟩
  ·refine⟨.nilsl, ?_⟩
   have U:UJ (ph t.fl.length (jn c t.fl) (nk ops) (pM t c) (kh t c) m) .nilsl:=⟨[],by rw[h5];exact .inl ⟨rfl,rfl,rfl⟩,by rw[h5];rfl⟩
   have O: ¬2000<(ph t.fl.length (jn c t.fl) (nk ops) (pM t c) (kh t c) m).length:=by rw[h5];simp
   rw[iD acs (by simp[vZ])]
   by_cases hW:20000<G8 c t.fl ops m
   all_goals
    simp(maxDischargeDepth:=6) only[qA,jw,oW,kP,jA,seval,iN,vZ,W,K,X,e2,e3,e4,Oo,Lz,SU,acy,acx,acw,acz,yg,pg,D,E,F,I,N3,pK,hW,O,or_self,true_or]
    exact⟨_,rfl,U⟩
  ·refine⟨.sl cs (ph t.fl.length (jn c t.fl) (nk ops) (pM t c) (kh t c) m).length false, ?_⟩
   have U:UJ (ph t.fl.length (jn c t.fl) (nk ops) (pM t c) (kh t c) m) (.sl cs (ph t.fl.length (jn c t.fl) (nk ops) (pM t c) (kh t c) m).length false):=⟨cs,.inr ⟨_,rfl⟩,b1⟩
   have ls:=b1.len LgQ.len
   have lV:lenI (T.isl .S 0 g 0 (ph t.fl.length (jn c t.fl) (nk ops) (pM t c) (kh t c) m).length 7)=some (.i .i64 ((ph t.fl.length (jn c t.fl) (nk ops) (pM t c) (kh t c) m).length:Int)):=rfl
   have hzS:=fun q lh=>ai2 (m:=q) (lh:=lh) (s:= [(⟨g,.cells cs 0 false⟩:iy)]) (k:=0) rfl ls
   rw[iD acs (by simp[vZ])]
   by_cases hW:20000<G8 c t.fl ops m
   ·simp(maxDischargeDepth:=6) only[qA,jw,oW,kP,jA,seval,iN,vZ,W,K,X,e2,e3,e4,Oo,Lz,SU,acy,acx,acw,acz,yg,pg,D,E,F,I,N3,pK,hW,true_or]
    exact⟨_,rfl,U⟩
   ·by_cases O:2000<(ph t.fl.length (jn c t.fl) (nk ops) (pM t c) (kh t c) m).length
    ·have V:(2000:Int)<((ph t.fl.length (jn c t.fl) (nk ops) (pM t c) (kh t c) m).length:Int):=by omega
     simp(maxDischargeDepth:=6) only[qA,jw,oW,kP,jA,seval,iN,vZ,W,K,X,e2,e3,e4,Oo,Lz,SU,acy,acx,acw,acz,yg,pg,D,E,F,I,N3,pK,hW,O,V,lV,or_true]
     exact⟨_,rfl,U⟩
    ·have V: ¬(2000:Int)<((ph t.fl.length (jn c t.fl) (nk ops) (pM t c) (kh t c) m).length:Int):=by omega
     simp(maxDischargeDepth:=6) only[qA,jw,oW,kP,jA,seval,iN,vZ,W,K,X,e2,e3,e4,Oo,Lz,SU,acy,acx,acw,acz,yg,pg,D,E,F,I,N3,pK,hW,O,V,lV,hzS,or_self]
     exact⟨_,rfl,U⟩
 ·obtain⟨v,U⟩:=afU (ph t.fl.length (jn c t.fl) (nk ops) (pM t c) (kh t c) H.toNat)
  refine⟨v, ?_⟩
  rw[if_neg r]
  unfold jb at*
  rw[iD acs (by simp[vZ])]
  simp(maxDischargeDepth:=6) only[qA,seval,vZ,W,X,Oo,yg,pg,r]
  exact⟨_,rfl,U⟩
end
structure TtA (t:Tt):Prop where
 z:(∀u∈t.zo,u.sh.length≤mh)∧t.zo.length≤mh
 a:t.ap.length≤mh
 f:t.fl.length≤mh∧ ∀u∈t.fl,u.nu.length≤mh
theorem aDh(zT aT fT:T)(l:List Zo)(F:List T)(h:iJ zT l.length F)(U:iK DB l F)(I:l.length≤mh)(fr:Fr)(lh:iL iy)(sh:List iy)
  (r:an fr 1= .ptr .L 1 1 0) (D:Ba (an fr 3)=true) (E:an fr 4= .i .i64 0) (K:a6 lh 1=⟨1,.cells [zT,aT,fT] 0 true⟩):
  qG 38 Bo fr lh sh (.ext 0)∧(Ba (an (pb pE 38 Bo fr lh sh) 3)=true∧nB pE 38 Bo fr lh sh=sh):=by
 refine ll (fun k st=> ∃(fr:Fr),st=⟨fr,lh,sh⟩∧an fr 1= .ptr .L 1 1 0∧Ba (an fr 3)=true∧an fr 4= .i .i64 (k:Int)) (fun V je W=>Ba (an V 3)=true∧W=sh) _ l.length ?_ ?_ fr lh sh ⟨fr,rfl,r,D,E⟩
 ·rintro k _ X ⟨fr,rfl,r,D,E⟩
  have Y:(k:Int)<l.length:=by omega
  have Z:=oO (k:=k) (by omega)
  obtain⟨sT,sc,rr,iW,rP,_⟩:=H5 h U k X
  obtain⟨n,O⟩:=vM D
  simp only[qB,seval,Bo,r,O,E,K,h.lenI,Y,iW,rP.lenI,Z]
  refine vv (fun _=> ?_) (fun _=> ?_)
  ·exact kA ⟨_,rfl,by simp only[qA,seval,r],by simp only[qA,seval,pP],by simp only[qA,seval]⟩
  ·exact mf ⟨rfl,by simp only[qA,seval,O,pP],rfl⟩
 ·rintro _ ⟨fr,rfl,r,D,E⟩
  simp only[qA,seval,Bo,r,E,K,h.lenI,Int.lt_irrefl]
  exact mf ⟨rfl,by simp only[qA,seval,D],rfl⟩
section
variable(t:Tt)(c:Ct)(zT aT fT a7 a8 a9 a10 iH iG:T)(hT:ue t zT aT fT)(hC:uF c a7 a8 a9 a10 iH iG)
theorem afY(hT:ue t zT aT fT)(hA:TtA t): ∃b,be pE 28 [.agg [zT,aT,fT]] []=some (.b b,[]):=by
 obtain⟨⟨D,r,E⟩,⟨ac,F,Z⟩,⟨fc,I,f2⟩⟩:=hT
 have hL:=fun fr lh sh K O U V=>aDh zT aT fT t.zo D r E hA.z.2 fr lh sh K O U V
 rw[iD ara (by simp[c28])]
 simp only[qA,seval,c28,hL,pP,r.lenI,F.lenI,I.lenI]
 generalize W:an (pb _ _ _ _ _ _) 3=X
 obtain⟨n,Y⟩: ∃n,X= .i .i64 n:=by
  rw[←W]
  refine vM (hL _ _ _ ?_ ?_ ?_ ?_).2.1 <;> simp only[qA,seval,pP]
 rw[Y]
 simp only[qA,seval]
 exact⟨_,rfl⟩
theorem aa3(hT:ue t zT aT fT)(hA:TtA t)(hC:uF c a7 a8 a9 a10 iH iG)(K:CtA c): ∃b,be pE 14 [.agg [zT,aT,fT],.agg (jb c a7 a8 a9 a10 iH iG)] []=some (.b b,[])∧(b=true→t.fl.length≤12):=by
 have D:=DD t c zT aT fT a7 a8 a9 a10 iH iG hT hC
 obtain⟨b,E⟩:=afY t zT aT fT hT hA
 obtain⟨O,F⟩:=aa4 c a7 a8 a9 a10 iH iG hC K
 obtain⟨_,_,⟨U,I,V⟩⟩:=hT
 rw[iD aq3 (by simp[c14])]
 unfold jb at*
 by_cases r:(t.fl.length:Int)≤12
 ·cases b
  all_goals
   simp only[qA,seval,c14,E,F,arb,ard,I.lenI,r,D]
   exact⟨_,rfl,fun _=>by omega⟩
 ·cases b
  all_goals
   simp only[qA,seval,c14,E,F,arb,ard,I.lenI,r,D]
   exact⟨_,rfl,fun h=>Bool.noConfusion h⟩
end
theorem RS(N:Nat)(J:Nat→Nat→Bool)(iQ:Nat→Bool)(ok:List (Int×Bool)→Bool)(lg:List (Int×Bool)→Lg)(PS: ∀x,(lg x).du=x): ∀(n:Nat) (d:List (Int×Bool)) (f h:Nat),∀g∈k9 N J iQ ok lg n d f h,g.du.length≤d.length+n
 |0,_,_,_,g,hg=>by simp[k9]at hg
 |n+1,d,f,h,g,hg=>by
  have one: ∀(b:Bool) (h:Nat),g∈wu N J ok lg (k9 N J iQ ok lg n) (d++ [((f:Int),b)]) f h→g.du.length≤d.length+(n+1):=by
   intro b h hg
   unfold wu at hg
   rcases List.mem_append.1 hg with hg|hg
   ·split at hg
    ·rw[List.mem_singleton.1 hg,PS,List.length_append,List.length_singleton];omega
    ·simp at hg
   ·obtain⟨x,_,r⟩:=List.mem_flatMap.1 hg
    have:=RS N J iQ ok lg PS n _ x h g r
    rw[List.length_append,List.length_singleton]at this
    omega
  rw[k9]at hg
  rcases List.mem_append.1 hg with hg|hg
  ·split at hg
   ·exact one _ _ hg
   ·simp at hg
  ·split at hg
   ·simp at hg
   ·exact one _ _ hg
theorem afZ(N:Nat)(J:Nat→Nat→Bool)(iQ:Nat→Bool)(ok:List (Int×Bool)→Bool)(lg:List (Int×Bool)→Lg)(PS: ∀x,(lg x).du=x)(H:Nat): ∀g∈ph N J iQ ok lg H,g.du.length≤6:=fun g r=>by
 obtain⟨f,_,h⟩:=List.mem_flatMap.1 r
 exact RS N J iQ ok lg PS 6 [] f H g h
theorem aDi(r:List Lg)(GK: ∀g∈r,g.du.length≤6)(Y:r.length≤1000000000)(a b:T)(ha:aaP r a)(hb:UJ r b)(fr:Fr)(lh:iL iy)(sh:List iy)(Z:an fr 0=a)(h1:an fr 1=b)(h5:an fr 5= .i .i64 0):
  Lp pE 27 Bd fr lh sh (.ext 0) fun I K O=>True:=by
 obtain⟨ac,a1,a2⟩:=ha
 obtain⟨bc,b1,b2⟩:=hb
 have D:=a1.lenI
 refine kO KH (fun k I K O=>an I 5= .i .i64 (k:Int)) r.length h5 ?_ ?_
 ·rintro k I K O E U V
  have iU:(k:Int)<r.length:=by omega
  have hw:=iX (k:=k) (by omega)
  obtain⟨ca,ra,ea,va⟩:=a2.drop LgR.len k E
  obtain⟨cb,rb,eb,vb,W,F⟩:=b2.drop LgQ.len k E
  have ia:=fun kk=>a1.ia (sz:=7) (k:=k) (kk:=kk) (a2.len LgR.len) E
  have ib:=fun kk=>b1.ia (sz:=7) (k:=k) (kk:=kk) (b2.len LgQ.len) E
  have hg:=GK r[k] (List.getElem_mem E)
  unfold LgR at va
  subst va W
  rw[ea]at ia
  rw[eb]at ib
  have e1:=amq r[k] (.sl (nM r[k].du) r[k].du.length false) vb (.inr ⟨_,rfl⟩) F (by omega)
  have X:=F.froz1
  unfold pe at*
  simp(maxDischargeDepth:=6) only[qA,jw,oW,seval,iN,gd,Bd,U,Z,h1,V,D,iU,hw,ia,ib,e1,az9,aAa,X]
 ·rintro I K O U V
  simp only[qA,seval,gd,Bd,U,Z,D,V,Int.lt_irrefl]
theorem RT(r:List Lg)(GK: ∀g∈r,g.du.length≤6)(E:r.length≤1000000000)(a b:T)(K:aaP r a)(O:UJ r b): ∃s,be pE 13 [a,b] []=some (.b true,s):=by
 have hL:=fun fr lh sh=>aDi r GK E a b K O fr lh sh
 have F:=K.choose_spec.1.lenI
 have I:=O.choose_spec.1.lenI
 rw[iD aq2 (by simp[c13])]
 simp(maxDischargeDepth:=6) only[qA,seval,c13,F,I]
 generalize U:DC pE 27 (.loop Bd) _=D
 obtain⟨V,W,X,rfl,_,Y⟩:=G6 KH U (hL _ _ _ (by simp only[qA,seval]) (by simp only[qA,seval]) (by simp only[qA,seval]))
 simp(maxDischargeDepth:=6) only[qA,seval]
 exact⟨_,rfl⟩
theorem aa5: ∃s,be pE 5 [] []=some (.b true,s):=⟨[],kQ (m:=100) (kN (by kernel_rfl))⟩
section
variable(t:Tt)(c:Ct)(zT aT fT a7 a8 a9 a10 iH iG:T)(hT:ue t zT aT fT)(hC:uF c a7 a8 a9 a10 iH iG)(hA:U9 c)(hTA:TtA t)(hCA:CtA c)(ops:List Int)(oT:T)(ho:iJ oT ops.length (ints ops))(H:Int)
include hT hC hA hTA hCA ho
theorem aa6: ∃b s,be pE 4 [.agg [zT,aT,fT],.agg (jb c a7 a8 a9 a10 iH iG),oT,.i .i64 H] []=some (.b b,s)∧(b=true→t.fl.length≤12∧ops.length≤40):=by
 have F:=DD t c zT aT fT a7 a8 a9 a10 iH iG hT hC
 have I:=ho.froz
 have K:=ho.froz1
 have D:=ho.lenI
 obtain⟨b,O,X⟩:=aa3 t c zT aT fT a7 a8 a9 a10 iH iG hT hTA hC hCA
 cases b
 ·unfold jb at*
  rw[iD fn4 (by simp[c4])]
  simp(maxDischargeDepth:=6) only[qA,seval,c4,F,O,ajy,I,K]
  exact⟨_,_,rfl,fun h=>Bool.noConfusion h⟩
 ·have U:=X rfl
  by_cases W:ops.length≤40
  ·have r: ¬(40:Int)<(ops.length:Int):=by omega
   obtain⟨s,Y⟩:=JW t c zT aT fT a7 a8 a9 a10 iH iG hT hC hA hTA.f.2 (by omega) ops oT ho (by omega) H
   generalize (if wq t c ops H=0 then G8 c t.fl ops H.toNat else 0)=V at*
   generalize wq t c ops H=E at*
   unfold jb at*
   rw[iD fn4 (by simp[c4])]
   by_cases Z:E=0 <;> by_cases hV:V≤400 <;> by_cases DQ:20000<V
   all_goals
    simp(maxDischargeDepth:=6) only[qA,seval,c4,F,O,Y,ajy,Oo,I,K,D,r,Z,hV,DQ]
    exact⟨_,_,rfl,fun _=>⟨U,W⟩⟩
  ·have r:(40:Int)<(ops.length:Int):=by omega
   unfold jb at*
   rw[iD fn4 (by simp[c4])]
   simp(maxDischargeDepth:=6) only[qA,seval,c4,F,O,ajy,I,K,D,r]
   exact⟨_,_,rfl,fun h=>Bool.noConfusion h⟩
omit hTA hCA in
theorem UK(hL: ∀f∈t.fl,f.nu.length≤mh)(hN:t.fl.length≤12)(F:ops.length≤1000): ∃x y e I K,be pE 11 [.agg [zT,aT,fT],.agg (jb c a7 a8 a9 a10 iH iG),oT,.i .i64 H] []=some (.tup [x,.i .i64 e],I)∧be pE 12 [.agg [zT,aT,fT],.agg (jb c a7 a8 a9 a10 iH iG),oT,.i .i64 H] []=some (.tup [y,.i .i64 e],K)∧(∃s,be pE 13 [x,y] []=some (.b true,s))∧froz1 x=true∧froz1 y=true:=by
 obtain⟨x,I,D,O⟩:=aa1 t c zT aT fT a7 a8 a9 a10 iH iG hT hC hA hN ops oT ho F H
 obtain⟨y,K,r,U⟩:=aa2 t c zT aT fT a7 a8 a9 a10 iH iG hT hC hA hL hN ops oT ho F H
 have V:=RT [] (by simp) (by simp) .nilsl .nilsl ⟨[],.inl ⟨rfl,rfl,rfl⟩,rfl⟩ ⟨[],.inl ⟨rfl,rfl,rfl⟩,rfl⟩
 have hs:=RT _ (afZ t.fl.length (jn c t.fl) (nk ops) (pM t c) (kh t c) (Rr t c) H.toNat) (P1 _ _ _ _ _ hN _) x y O U
 have X:=O.choose_spec.1.froz1
 have Y:=U.choose_spec.1.froz1
 by_cases W:wq t c ops H=0
 ·rw[if_pos W]at D r
  split at D
  ·rename_i E
   rw[if_pos E]at r
   exact⟨_,_,_,_,_,D,r,V,rfl,rfl⟩
  ·rename_i E
   rw[if_neg E]at r
   exact⟨_,_,_,_,_,D,r,hs,X,Y⟩
 ·rw[if_neg W]at D r
  exact⟨_,_,_,_,_,D,r,V,rfl,rfl⟩
omit hTA hCA ho in
theorem aa7(hL: ∀f∈t.fl,f.nu.length≤mh)(hN:t.fl.length≤12): ∃x y e K O,∃n:Nat,be pE 6 [.agg [zT,aT,fT],.agg (jb c a7 a8 a9 a10 iH iG)] []=some (.tup [x,.i .i64 e],K)∧be pE 7 [.agg [zT,aT,fT],.agg (jb c a7 a8 a9 a10 iH iG)] []=some (.tup [y,.i .i64 e],O)∧lenI x=some (.i .i64 (n:Int))∧lenI y=some (.i .i64 (n:Int))∧n≤12∧froz1 x=true∧froz1 y=true∧
  ∀k,k<n→ ∃a q q',froz1 a=true∧(∀kk,ng x (.i kk (k:Int)) 1=some (.vp (a::q)))∧(∀kk,ng y (.i kk (k:Int)) 1=some (.vp (a::q')))∧be pE 8 [a,a] []=some (.b true,[]):=by
 obtain⟨K,E⟩:=afV t c zT aT fT a7 a8 a9 a10 iH iG hT hC hA hN
 obtain⟨O,F⟩:=afW t c zT aT fT a7 a8 a9 a10 iH iG hT hC hA hL hN
 by_cases U:mi t c=0
 ·rw[if_pos U]at E F
  have V:(((List.range t.fl.length).map (ln t.fl.length (jn c t.fl))).map qO).length=t.fl.length:=by simp
  have Ca:iJ (ku t.fl.length (((List.range t.fl.length).map (ln t.fl.length (jn c t.fl))).map qO)) t.fl.length (((List.range t.fl.length).map (ln t.fl.length (jn c t.fl))).map qO):=oN fun h=>by rw[h];rfl
  refine⟨_,_,_,_,_,t.fl.length,E,F,rfl,Ca.lenI,hN,rfl,Ca.froz1,fun k r=> ?_⟩
  obtain⟨gT,q,W,X,h3,h4⟩:=PM t.fl.length (jn c t.fl) (by omega) k r
  have Y:=fun kk=>Ca.ia (sz:=1) (k:=k) (kk:=kk) (by omega) r
  have Z:(((List.range t.fl.length).map (ln t.fl.length (jn c t.fl))).map qO).drop (k*1)=qO (ln t.fl.length (jn c t.fl) k)::(((List.range t.fl.length).map (ln t.fl.length (jn c t.fl))).map qO).drop (k+1):=by
   rw[Nat.mul_one,List.drop_eq_getElem_cons (by rw[V];exact r)]
   simp
  rw[Z]at Y
  have hg:gT=qO (ln t.fl.length (jn c t.fl) k):=by
   have I:=W .i64
   unfold KA at I
   rw[kG,if_pos ⟨by omega,by simpa using r,by rw[V];simp;omega⟩,Int.toNat_natCast,Z]at I
   have D:=Option.some.inj I
   injection D with D
   injection D with D _
   exact D.symm
  subst hg
  have h7:(ints ((ln t.fl.length (jn c t.fl) k).map Int.ofNat)).length=(ln t.fl.length (jn c t.fl) k).length:=by rw[kb,List.length_map]
  have h8:iJ (qO (ln t.fl.length (jn c t.fl) k)) ((ln t.fl.length (jn c t.fl) k).map Int.ofNat).length (ints ((ln t.fl.length (jn c t.fl) k).map Int.ofNat)):=by rw[List.length_map];exact X
  exact⟨_,_,_,X.froz1,W,Y,amm ((ln t.fl.length (jn c t.fl) k).map Int.ofNat) _ _ h8 h8 (by rw[List.length_map];omega)⟩
 ·rw[if_neg U]at E F
  exact⟨_,_,_,_,_,0,E,F,rfl,rfl,by omega,rfl,rfl,fun k r=>by omega⟩
omit hT hC hA hTA hCA ho in
theorem aDk(x y:T)(n:Nat)(V:lenI x=some (.i .i64 (n:Int)))(hn:n≤12)(Y: ∀k,k<n→ ∃a q W,froz1 a=true∧(∀kk,ng x (.i kk (k:Int)) 1=some (.vp (a::q)))∧(∀kk,ng y (.i kk (k:Int)) 1=some (.vp (a::W)))∧be pE 8 [a,a] []=some (.b true,[]))(fr:Fr)(lh:iL iy)(sh:List iy)(X:an fr 9=x)(I:an fr 11=y)(Z:an fr 13= .i .i64 0):
  Lp pE 120 Ha fr lh sh (.ext 0) fun F D E=>D=lh∧E=sh:=by
 refine kO Qe (fun k F D E=>an F 13= .i .i64 (k:Int)∧D=lh∧E=sh) n ⟨Z,rfl,rfl⟩ ?_ ?_
 ·rintro k F D E K O ⟨r,rfl,rfl⟩
  have iU:(k:Int)<n:=by omega
  have hw:=iX (k:=k) (by omega)
  obtain⟨a,q,W,ha,i1,i2,e1⟩:=Y k K
  have U:froz a=true:=by cases a <;> simp_all[froz1,froz]
  simp(maxDischargeDepth:=6) only[qA,jw,oW,seval,iN,gd,Ha,O,X,I,r,V,iU,hw,i1,i2,e1,dc8,dd8,ha,U]
 ·rintro F D E O ⟨r,rfl,rfl⟩
  simp only[qA,seval,gd,Ha,O,X,V,r,Int.lt_irrefl]
theorem aa8: ∃s,be pE 3 [.agg [zT,aT,fT],.agg (jb c a7 a8 a9 a10 iH iG),oT,.i .i64 H] []=some (.b true,s):=by
 have I:=DD t c zT aT fT a7 a8 a9 a10 iH iG hT hC
 have K:=ho.froz
 have O:=ho.froz1
 obtain⟨s5,e5⟩:=aa5
 obtain⟨b,s4,e4,hb⟩:=aa6 t c zT aT fT a7 a8 a9 a10 iH iG hT hC hA hTA hCA ops oT ho H
 cases b
 ·unfold jb at*
  rw[iD fn3 (by simp[c3])]
  simp(maxDischargeDepth:=6) only[qA,seval,c3,I,e4,e5,dc4,dc5,K,O]
  exact⟨_,rfl⟩
 ·obtain⟨hN,h40⟩:=hb rfl
  obtain⟨x,y,e,s6,s7,n,e6,e7,lx,ly,hn,zx,zy,hk⟩:=aa7 t c zT aT fT a7 a8 a9 a10 iH iG hT hC hA hTA.f.2 hN
  obtain⟨s9,e9⟩:=afX t c zT aT fT a7 a8 a9 a10 iH iG hT hC hA hN ops oT ho (by omega) H
  obtain⟨s10,U⟩:=JW t c zT aT fT a7 a8 a9 a10 iH iG hT hC hA hTA.f.2 (by omega) ops oT ho (by omega) H
  obtain⟨u,v,e',s11,s12,W,X,⟨s13,Y⟩,zu,zv⟩:=UK t c zT aT fT a7 a8 a9 a10 iH iG hT hC hA ops oT ho H hTA.f.2 hN (by omega)
  generalize (if wq t c ops H=0 then G8 c t.fl ops H.toNat else 0)=V at*
  generalize wq t c ops H=E at*
  have Z:froz u=true:=by cases u <;> simp_all[froz1,froz]
  have zvv:froz v=true:=by cases v <;> simp_all[froz1,froz]
  unfold jb at*
  rw[iD fn3 (by simp[c3])]
  simp(maxDischargeDepth:=6) only[qA,seval,c3,I,e4,e6,e7,dc4,dc6,dc7,K,O,lx,ly,zx,zy]
  generalize hD:DC pE 120 (.loop Ha) _=D
  obtain⟨F,l2,s2,rfl,⟨rfl,rfl⟩,r⟩:=G6 Qe hD (aDk x y n lx hn hk _ _ _ (by simp only[qA,seval]) (by simp only[qA,seval]) (by simp only[qA,seval]))
  have g2:an F 2=oT:=by rw[r 2 (by decide)];simp only[qA,seval]
  have g3:an F 3= .i .i64 H:=by rw[r 3 (by decide)];simp only[qA,seval]
  have g4:an F 4= .ptr .L 4 1 0:=by rw[r 4 (by decide)];simp only[qA,seval]
  have g5:an F 5= .ptr .L 5 1 0:=by rw[r 5 (by decide)];simp only[qA,seval]
  clear r hD
  simp(maxDischargeDepth:=6) only[qA,seval,I,g2,g3,g4,g5,e9,U,W,X,Y,e5,dc9,Oo,az3,az4,az5,dc5,K,O,zu,zv,Z,zvv]
  exact⟨_,rfl⟩
end
def tyS:List TypeId:= [34,97,126,99,106,200,202,27,28,29,30,31,32,3,9,26,22,23,24,80,78,82,84,54,52,35]
theorem On:tyS.all (alx Tryz.prog tyS)=true:=by kernel_rfl
theorem awC:mD Tryz.prog 34=some [3,3,3,3,3,3,3,27,28,29,30,31,32,3]:=by kernel_rfl
theorem awD:mD Tryz.prog 97=some [3,3,9,30]:=by kernel_rfl
theorem amY:mD Tryz.prog 126=some [9,97]:=by kernel_rfl
theorem awE:mD Tryz.prog 99=some [3,9,97]:=by kernel_rfl
theorem amZ:mD Tryz.prog 106=some [3,97]:=by kernel_rfl
theorem am0:mD Tryz.prog 200=some [9,9,3,3]:=by kernel_rfl
theorem am1:mD Tryz.prog 202=some [9,3,3]:=by kernel_rfl
theorem ty3:Tryz.prog.underlying 3=some (.int .i64):=by kernel_rfl
theorem ty9:Tryz.prog.underlying 9=some .string:=by kernel_rfl
theorem Ip:reachBytes≤mh:=by decide
theorem mj: ∀{n:Nat} {ts:List T},mA Tryz.prog n 3 ts→ ∃x,ts= [.i .i64 x]
 |0,_,h=>h.elim
 |n+1,ts,h=>by grind [mA,ty3]
theorem qg: ∀{n:Nat} {ts:List T},mA Tryz.prog n 9 ts→ ∃s,ts= [.s s]∧s.length≤mh
 |0,_,h=>h.elim
 |n+1,ts,h=>by
  unfold mA at h;rw[ty9]at h
  obtain⟨s,r,D⟩:=h
  exact⟨s,r,Nat.le_trans D Ip⟩
theorem oy{α:Type}{R:α→List T→Prop}{Q:α→Prop}{K:List T→Prop}(E: ∀p,K p→ ∃x,R x p∧Q x): ∀(len:Nat) (D:List T),yt K len D→ ∃xs:List α,xs.length=len∧iK R xs D∧ ∀x∈xs,Q x
 |0,D,h=>⟨[],rfl,h,by simp⟩
 |len+1,D,h=>by
  obtain⟨p,r,rfl,F,I⟩:=h
  obtain⟨x,O,W⟩:=E p F
  obtain⟨xs,U,V,X⟩:=oy E len r I
  refine⟨x::xs,by rw[List.length_cons,U],⟨p,r,rfl,O,V⟩,fun z Y=> ?_⟩
  grind
theorem xe: ∀{xs:List Ex} {D:List T},iK mE xs D→kz xs D
 | [],D,h=>by rw[kz];exact h
 |x::xs,D,h=>by
  obtain⟨c,r,rfl,E,F⟩:=h
  exact kz.cons E (xe F)
theorem Gh: ∀{xs:Cs} {D:List T},iK (fun c cs=> ∃ex,cs=T.s c.1::ex∧mE c.2 ex) xs D→lB xs D
 | [],D,h=>by rw[lB];exact h
 |x::xs,D,h=>by
  obtain⟨c,r,rfl,⟨ex,rfl,E⟩,F⟩:=h
  rw[lB];exact⟨ex,r,rfl,E,Gh F⟩
theorem vW{t e:TypeId}(D:O7 Tryz.prog t=some e)(E:0<Tryz.prog.bytesOf e): ∀{n:Nat} {ts:List T},mA Tryz.prog n t ts→ ∃m v len r,n=m+1∧ts= [v]∧iJ v len r∧len≤mh∧yt (mA Tryz.prog m e) len r
 |0,_,h=>h.elim
 |n+1,ts,h=>by
  obtain⟨v,len,r,F,I,K,O⟩:=h.row D
  exact⟨n,v,len,r,rfl,F,I,Nat.le_trans (Nat.le_mul_of_pos_right len E) (Nat.le_trans K Ip),O⟩
theorem ai7: ∀(k n:Nat) (ts:List T),n≤k→mA Tryz.prog n 97 ts→ ∃x:Ex,mE x ts∧x.al∧x.sm
 |0,0,_,_,h=>h.elim
 |_+1,0,_,_,h=>h.elim
 |k+1,n+1,ts,hk,h=>by
  obtain⟨p1,r1,rfl,F,p2,r2,rfl,I,p3,r3,rfl,K,p4,r4,rfl,O,rfl⟩:=h.st awD
  obtain⟨op,rfl⟩:=mj F
  obtain⟨num,rfl⟩:=mj I
  obtain⟨s,rfl,hs⟩:=qg K
  obtain⟨m,v,len,D,rfl,rfl,U,V,W⟩:=vW (e:=97) (by kernel_rfl) (of_decide_eq_true (by kernel_rfl)) O
  obtain⟨xs,X,Y,E⟩:=oy (Q:=fun x:Ex=>x.al∧x.sm) (fun p Z=>ai7 k m p (by omega) Z) len D W
  subst X
  exact⟨.mk op num s xs,by rw[mE];exact⟨v,D,rfl,U,xe Y⟩,by rw[Ex.al];exact⟨V,J6.2 fun x r=>(E x r).1⟩,by rw[Ex.sm];exact⟨hs,DS.2 fun x r=>(E x r).2⟩⟩
theorem RU{n:Nat}{ts:List T}(h:mA Tryz.prog n 97 ts): ∃x:Ex,mE x ts∧x.al∧N8 x:=by
 obtain⟨x,r,D,E⟩:=ai7 n n ts (Nat.le_refl _) h
 exact⟨x,r,D,Nat.zero_le _,E⟩
theorem awF: ∀{n:Nat} {p:List T},mA Tryz.prog n 126 p→ ∃c:List Nat×Ex,(∃ex,p=T.s c.1::ex∧mE c.2 ex)∧c.2.al∧N8 c.2
 |0,_,h=>h.elim
 |n+1,p,h=>by
  obtain⟨K,O,rfl,r,D,U,rfl,E,rfl⟩:=h.st amY
  obtain⟨s,rfl,_⟩:=qg r
  obtain⟨x,F,I⟩:=RU E
  exact⟨(s,x),⟨D,by simp,F⟩,I⟩
theorem awG: ∀{n:Nat} {p:List T},mA Tryz.prog n 99 p→ ∃u:Ru,U6 u p∧u.x.al∧N8 u.x
 |0,_,h=>h.elim
 |n+1,p,h=>by
  obtain⟨O,U,rfl,r,V,W,rfl,D,X,Y,rfl,E,rfl⟩:=h.st awE
  obtain⟨k,rfl⟩:=mj r
  obtain⟨s,rfl,_⟩:=qg D
  obtain⟨x,F,I⟩:=RU E
  obtain⟨a,K,rfl,y⟩:=F.cells
  exact⟨⟨k,s,x⟩,⟨a,K,rfl,y⟩,I⟩
theorem awH: ∀{n:Nat} {p:List T},mA Tryz.prog n 106 p→ ∃u:Co,CoR u p∧u.x.al∧N8 u.x
 |0,_,h=>h.elim
 |n+1,p,h=>by
  obtain⟨K,O,rfl,r,U,V,rfl,D,rfl⟩:=h.st amZ
  obtain⟨k,rfl⟩:=mj r
  obtain⟨x,E,F⟩:=RU D
  obtain⟨a,I,rfl,y⟩:=E.cells
  exact⟨⟨k,x⟩,⟨a,I,rfl,y⟩,F⟩
theorem awI: ∀{n:Nat} {p:List T},mA Tryz.prog n 200 p→ ∃u:Li,LiR u p∧True
 |0,_,h=>h.elim
 |n+1,p,h=>by
  obtain⟨I,K,rfl,r,O,U,rfl,D,V,W,rfl,E,X,Y,rfl,F,rfl⟩:=h.st am0
  obtain⟨s,rfl,_⟩:=qg r
  obtain⟨m,rfl,_⟩:=qg D
  obtain⟨x,rfl⟩:=mj E
  obtain⟨y,rfl⟩:=mj F
  exact⟨⟨s,m,x,y⟩,rfl,trivial⟩
theorem awJ: ∀{n:Nat} {p:List T},mA Tryz.prog n 202 p→ ∃u:Of,OfR u p∧True
 |0,_,h=>h.elim
 |n+1,p,h=>by
  obtain⟨F,I,rfl,r,K,O,rfl,D,U,V,rfl,E,rfl⟩:=h.st am1
  obtain⟨s,rfl,_⟩:=qg r
  obtain⟨x,rfl⟩:=mj D
  obtain⟨y,rfl⟩:=mj E
  exact⟨⟨s,x,y⟩,rfl,trivial⟩
theorem awK: ∀{n:Nat} {p:List T},mA Tryz.prog n 34 p→ ∃(c:Ct) (a7 a8 a9 a10 iH iG:T),p=jb c a7 a8 a9 a10 iH iG∧uF c a7 a8 a9 a10 iH iG∧CtA c∧U9 c
 |0,_,h=>h.elim
 |n+1,p,h=>by
  obtain⟨p0,r0,rfl,h0,p1,r1,rfl,h1,p2,r2,rfl,h2,p3,r3,rfl,h3,p4,r4,rfl,h4,p5,r5,rfl,h5,p6,r6,rfl,h6,p7,r7,rfl,h7,p8,r8,rfl,h8,p9,r9,rfl,h9,p10,r10,rfl,F,p11,r11,rfl,I,p12,r12,rfl,K,p13,r13,rfl,nD,rfl⟩:=h.st awC
  obtain⟨x0,rfl⟩:=mj h0
  obtain⟨x1,rfl⟩:=mj h1
  obtain⟨x2,rfl⟩:=mj h2
  obtain⟨x3,rfl⟩:=mj h3
  obtain⟨x4,rfl⟩:=mj h4
  obtain⟨x5,rfl⟩:=mj h5
  obtain⟨x6,rfl⟩:=mj h6
  obtain⟨O,rfl⟩:=mj nD
  obtain⟨m7,a7,l7,c7,_,rfl,i7,b7,j7⟩:=vW (e:=126) (by kernel_rfl) (of_decide_eq_true (by kernel_rfl)) h7
  obtain⟨m8,a8,l8,c8,_,rfl,i8,b8,j8⟩:=vW (e:=99) (by kernel_rfl) (of_decide_eq_true (by kernel_rfl)) h8
  obtain⟨m9,a9,l9,c9,_,rfl,i9,b9,j9⟩:=vW (e:=106) (by kernel_rfl) (of_decide_eq_true (by kernel_rfl)) h9
  obtain⟨m10,a10,U,tE,_,rfl,V,W,yx⟩:=vW (e:=97) (by kernel_rfl) (of_decide_eq_true (by kernel_rfl)) F
  obtain⟨m11,iH,X,vN,_,rfl,Y,Z,A8⟩:=vW (e:=200) (by kernel_rfl) (of_decide_eq_true (by kernel_rfl)) I
  obtain⟨m12,iG,l12,vZ,_,rfl,i12,b12,CV⟩:=vW (e:=202) (by kernel_rfl) (of_decide_eq_true (by kernel_rfl)) K
  obtain⟨v7,rfl,w7,q7⟩:=oy (fun p D=>awF D) l7 c7 j7
  obtain⟨v8,rfl,w8,q8⟩:=oy (fun p D=>awG D) l8 c8 j8
  obtain⟨v9,rfl,w9,q9⟩:=oy (fun p D=>awH D) l9 c9 j9
  obtain⟨v10,rfl,w10,E⟩:=oy (fun p D=>RU D) U tE yx
  obtain⟨v11,rfl,w11,_⟩:=oy (fun p D=>awI D) X vN A8
  obtain⟨v12,rfl,w12,_⟩:=oy (fun p D=>awJ D) l12 vZ CV
  refine⟨⟨x0,x1,x2,x3,x4,x5,x6,v7,v8,v9,v10,v11,v12,O⟩,a7,a8,a9,a10,iH,iG,rfl,⟨⟨_,i7,Gh w7⟩,⟨_,i8,w8⟩,⟨_,i9,w9⟩,⟨_,V,xe w10⟩,⟨_,Y,w11⟩,⟨_,i12,w12⟩⟩, ?_, ?_⟩
  ·exact⟨⟨fun u r=>(q7 u r).1,b7⟩,⟨fun u r=>(q8 u r).1,b8⟩,⟨fun u r=>(q9 u r).1,b9⟩,⟨fun u r=>(E u r).1,W⟩,Z,b12⟩
  ·exact⟨fun u r=>(q7 u r).2,fun u r=>(q8 u r).2,fun u r=>(q9 u r).2,fun u r=>(E u r).2⟩
theorem awL:mD Tryz.prog 26=some [22,23,24]:=by kernel_rfl
theorem awM:mD Tryz.prog 80=some [9,3,78]:=by kernel_rfl
theorem awN:mD Tryz.prog 82=some [3,3]:=by kernel_rfl
theorem awO:mD Tryz.prog 84=some [9,9]:=by kernel_rfl
theorem awP:mD Tryz.prog 54=some [9,9,9,3,3,9,52]:=by kernel_rfl
theorem awQ:Zk Tryz.prog 52=some (3,3):=by kernel_rfl
theorem awR: ∀{n:Nat} {p:List T},mA Tryz.prog n 82 p→ ∃u:Int×Int,T8 u p∧True
 |0,_,h=>h.elim
 |n+1,p,h=>by
  obtain⟨E,F,rfl,r,I,K,rfl,D,rfl⟩:=h.st awN
  obtain⟨x,rfl⟩:=mj r
  obtain⟨y,rfl⟩:=mj D
  exact⟨(x,y),rfl,trivial⟩
theorem awS: ∀{n:Nat} {p:List T},mA Tryz.prog n 80 p→ ∃u:Zo,DB u p∧u.sh.length≤mh
 |0,_,h=>h.elim
 |n+1,p,h=>by
  obtain⟨W,X,rfl,D,Y,Z,rfl,E,p2,r2,rfl,F,rfl⟩:=h.st awM
  obtain⟨s,rfl,_⟩:=qg D
  obtain⟨x,rfl⟩:=mj E
  obtain⟨m,v,len,r,rfl,rfl,I,K,O⟩:=vW (e:=82) (by kernel_rfl) (of_decide_eq_true (by kernel_rfl)) F
  obtain⟨xs,rfl,U,_⟩:=oy (fun p V=>awR V) len r O
  exact⟨⟨s,x,xs⟩,⟨v,r,rfl,I,U⟩,K⟩
theorem awT: ∀{n:Nat} {p:List T},mA Tryz.prog n 84 p→ ∃u:Ap,N4 u p∧True
 |0,_,h=>h.elim
 |n+1,p,h=>by
  obtain⟨E,F,rfl,r,I,K,rfl,D,rfl⟩:=h.st awO
  obtain⟨x,rfl,_⟩:=qg r
  obtain⟨y,rfl,_⟩:=qg D
  exact⟨⟨x,y⟩,rfl,trivial⟩
theorem awU: ∀{n:Nat} {p:List T},mA Tryz.prog n 52 p→ ∃x y z:Int,p= [.i .i64 x,.i .i64 y,.i .i64 z]
 |0,_,h=>h.elim
 |n+1,p,h=>by
  obtain⟨r,D,rfl,E,F,I,rfl,K,O,U,rfl,V,rfl⟩:=h.arr awQ
  grind [mj]
theorem awV: ∀{n:Nat} {p:List T},mA Tryz.prog n 54 p→ ∃u:Fl,T4 u p∧u.nu.length≤mh
 |0,_,h=>h.elim
 |n+1,p,h=>by
  obtain⟨p0,r0,rfl,r,p1,r1,rfl,D,p2,r2,rfl,E,p3,r3,rfl,F,p4,r4,rfl,I,p5,r5,rfl,K,p6,r6,rfl,O,rfl⟩:=h.st awP
  obtain⟨U,rfl,V⟩:=qg r
  obtain⟨W,rfl,_⟩:=qg D
  obtain⟨X,rfl,_⟩:=qg E
  obtain⟨Y,rfl⟩:=mj F
  obtain⟨Z,rfl⟩:=mj I
  obtain⟨x5,rfl,_⟩:=qg K
  obtain⟨a,b,c,rfl⟩:=awU O
  exact⟨⟨U,W,X,Y,Z,x5,a,b,c⟩,rfl,V⟩
theorem awW: ∀{n:Nat} {p:List T},mA Tryz.prog n 26 p→ ∃(t:Tt) (zT aT fT:T),p= [zT,aT,fT]∧ue t zT aT fT∧TtA t
 |0,_,h=>h.elim
 |n+1,p,h=>by
  obtain⟨p0,r0,rfl,E,p1,r1,rfl,F,p2,r2,rfl,I,rfl⟩:=h.st awL
  obtain⟨m0,K,O,U,_,rfl,V,W,X⟩:=vW (e:=80) (by kernel_rfl) (of_decide_eq_true (by kernel_rfl)) E
  obtain⟨m1,Y,Z,c1,_,rfl,i1,b1,j1⟩:=vW (e:=84) (by kernel_rfl) (of_decide_eq_true (by kernel_rfl)) F
  obtain⟨m2,v2,l2,c2,_,rfl,i2,b2,j2⟩:=vW (e:=54) (by kernel_rfl) (of_decide_eq_true (by kernel_rfl)) I
  obtain⟨zs,rfl,w0,q0⟩:=oy (fun p r=>awS r) O U X
  obtain⟨D,rfl,w1,_⟩:=oy (fun p r=>awT r) Z c1 j1
  obtain⟨fs,rfl,w2,q2⟩:=oy (fun p r=>awV r) l2 c2 j2
  exact⟨⟨zs,D,fs⟩,K,Y,v2,rfl,⟨⟨_,V,w0⟩,⟨_,i1,w1⟩,⟨_,i2,w2⟩⟩,⟨⟨q0,W⟩,b1,b2,q2⟩⟩
theorem awX: ∀{n:Nat} {p:List T},mA Tryz.prog n 3 p→ ∃u:Int,p= [.i .i64 u]∧True:=fun h=>by
 obtain⟨x,rfl⟩:=mj h
 exact⟨x,rfl,trivial⟩
theorem Iq: ∀{xs:List Int} {D:List T},iK (fun u p=>p= [T.i .i64 u]) xs D→D=ints xs
 | [],D,h=>h
 |x::xs,D,h=>by
  obtain⟨c,r,rfl,rfl,E⟩:=h
  rw[Iq E]
  rfl
theorem SQ{F I K:Nat}{r D E:List T}(O:mA Tryz.prog F 26 r)(U:mA Tryz.prog I 34 D)(V:mA Tryz.prog K 35 E)(H:Int):
  ∃oT s,E= [oT]∧be pE 3 [.agg r,.agg D,oT,.i .i64 H] []=some (.b true,s):=by
 obtain⟨t,zT,aT,fT,rfl,hT,hA⟩:=awW O
 obtain⟨c,a7,a8,a9,a10,iH,iG,rfl,hC,W,hN⟩:=awK U
 obtain⟨m,v,len,X,_,rfl,i,b,j⟩:=vW (e:=3) (by kernel_rfl) (of_decide_eq_true (by kernel_rfl)) V
 obtain⟨xs,rfl,w,_⟩:=oy (fun p Y=>awX Y) len X j
 rw[Iq w]at i
 obtain⟨s,hs⟩:=aa8 t c zT aT fT a7 a8 a9 a10 iH iG hT hC hN hA W xs v i H
 exact⟨v,s,rfl,hs⟩
end Go.Proofs.YtjniffjppoklpaaGreat
