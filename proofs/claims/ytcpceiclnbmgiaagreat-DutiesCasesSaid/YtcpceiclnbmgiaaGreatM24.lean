/- Walks of functions of the program and of the reference, and their plain laws, part 24. Conditions: the theorems' own. -/
import Derived.Test.YtcpceiclnbmgiaaGreatGS
import Derived.Test.YtcpceiclnbmgiaaGreatM12
import Derived.Test.YtcpceiclnbmgiaaGreatM19
import Derived.Test.YtcpceiclnbmgiaaGreatM23
import Derived.KernelRfl
set_option maxRecDepth 100000
set_option linter.unusedSimpArgs false
set_option linter.unusedVariables false
set_option maxHeartbeats 16000000
namespace Go.Proofs.YtcpceiclnbmgiaaGreat
open Go Go.Ev
theorem G0(N:Nat): ∀(p:Option Int) (l:List Int),pQ N p l=0→ ∀x∈l,0≤x∧x<(N:Int)
 |_,[],_=>by simp
 |p,x::l,h=>by
  rw[Cu]at h
  by_cases hx:0≤x∧x<(N:Int)
  ·rw[if_pos hx]at h
   have h2:pQ N (some x) l=0:=by
    cases p with
    |none=>exact h
    |some q=>
     by_cases r:x≤q
     ·simp[r]at h
     ·simpa[r]using h
   intro y hy
   rcases List.mem_cons.1 hy with rfl|hy
   ·exact hx
   ·exact G0 N _ l h2 y hy
  ·rw[if_neg hx]at h;cases h
def vBd:Nat→Nat
 |0=>0
 |n+1=>2*(1+12*vBd n)
theorem G1{α β:Type}(f:α→List β)(B:Nat): ∀(l:List α),(∀x∈l,(f x).length≤B)→(l.flatMap f).length≤l.length*B
 | [],_=>by simp
 |x::l,h=>by
  have h1:=h x List.mem_cons_self
  have h2:=G1 f B l fun y r=>h y (List.mem_cons_of_mem _ r)
  rw[List.flatMap_cons,List.length_append,List.length_cons,Nat.succ_mul]
  omega
section
variable(N:Nat)(J:Nat→Nat→Bool)(aH:Nat→Bool)(ok:List (Int×Bool)→Bool)(lg:List (Int×Bool)→Lg)(hN:N≤12)
include hN
theorem one_le(r:List (Int×Bool)→Nat→Nat→List Lg)(B:Nat)(D: ∀x g h,(r x g h).length≤B)(x:List (Int×Bool))(f h:Nat):(qt N J ok lg r x f h).length≤1+12*B:=by
 unfold qt
 rw[List.length_append]
 have h1:(if ok x=true then [lg x]else []).length≤1:=by split <;> simp
 have h2:=G1 (fun g=>r x g h) B (dM N J f) fun g _=>D x g h
 have h3:(dM N J f).length≤12:=Nat.le_trans (xu _ _) hN
 have h4:(dM N J f).length*B≤12*B:=Nat.mul_le_mul_right B h3
 omega
theorem aak: ∀(n:Nat) (d:List (Int×Bool)) (f h:Nat),(dF N J aH ok lg n d f h).length≤vBd n
 |0,_,_,_=>Nat.zero_le _
 |n+1,d,f,h=>by
  have ih:=fun x g h=>aak n x g h
  have h1:=fun x h=>one_le N J ok lg hN _ _ ih x f h
  rw[dF,List.length_append,vBd]
  have a1:(if aH f=true then qt N J ok lg (dF N J aH ok lg n) (d++ [((f:Int),false)]) f h else []).length≤1+12*vBd n:=by
   split
   ·exact h1 _ _
   ·simp
  have a2:(if h=0 then []else qt N J ok lg (dF N J aH ok lg n) (d++ [((f:Int),true)]) f (h-1)).length≤1+12*vBd n:=by
   split
   ·simp
   ·exact h1 _ _
  omega
theorem MH(H:Nat):(jm N J aH ok lg H).length≤1000000000:=by
 have h:=G1 (fun f=>dF N J aH ok lg 6 [] f H) (vBd 6) (List.range N) fun f _=>aak N J aH ok lg hN 6 [] f H
 rw[List.length_range]at h
 have h2:N*vBd 6≤12*vBd 6:=Nat.mul_le_mul_right _ hN
 have h3:12*vBd 6≤1000000000:=yv
 exact Nat.le_trans h (Nat.le_trans h2 h3)
end
def Sr(r:List Lg)(v:T):Prop:= ∃cs,IsSl v r.length cs∧aA LgQ r cs
theorem af1(r:List Lg): ∃v,Sr r v:=by
 obtain⟨cs,h⟩: ∃cs,aA LgQ r cs:=by
  induction r with
  |nil=>exact⟨[],rfl⟩
  |cons g r ih=>
   obtain⟨cs,h⟩:=ih
   exact⟨_,_,_,rfl,⟨.sl (gh g.du) g.du.length false,rfl,.inr ⟨_,rfl⟩⟩,h⟩
 exact⟨.sl cs r.length false,cs,.inr ⟨_,rfl⟩,h⟩
theorem hU{v:T}(h:froz1 v=true):kept1 v=true:=by cases v <;> simp_all[froz1,kept1]
theorem Pf{v:T}(h:froz1 v=true):kept v=true:=by cases v <;> simp_all[froz1,kept,kept1]
section
variable(t:Tt)(c:Ct)(zT aT fT a7 a8 a9 a10 aw av:T)(hT:ow t zT aT fT)(hC:oP c a7 a8 a9 a10 aw av)(hA:OE c)(hL: ∀f∈t.fl,f.nu.length≤fj)(hN:t.fl.length≤12)
include hT hC hA hN
theorem af2: ∃s,ae pE 31 [.agg [zT,aT,fT],.agg (aR c a7 a8 a9 a10 aw av)] []=some (if eO t c=0 then .tup [HJ t.fl.length (jn c t.fl),.i .i64 0]else .tup [.nilsl,.i .i64 (eO t c)],s):=by
 have r:=zX t c zT aT fT a7 a8 a9 a10 aw av hT hC
 by_cases h0:eO t c=0
 ·obtain⟨s,D,e1,U⟩:=YT t c zT aT fT a7 a8 a9 a10 aw av hT hC hA h0
  obtain⟨F,I,K⟩:=id hT.f
  obtain⟨V,e2⟩:=Cq zT aT fT a7 a8 a9 a10 aw av c D F t.fl I K zO
  have O:froz1 (HJ t.fl.length (jn c t.fl))=true:=rfl
  have W:froz (HJ t.fl.length (jn c t.fl))=true:=rfl
  generalize HJ t.fl.length (jn c t.fl)=nT at*
  unfold Go.Proofs.YtcpceiclnbmgiaaGreat.stV at e1
  unfold aR at*
  simp only[List.cons_append,List.nil_append]at e1 e2
  rw[an ake (by simp[c31])]
  simp(maxDischargeDepth:=6) only[qA,seval,c31,r,e1,e2,Fk,aur,h0,O,yF]
 ·obtain⟨s,e1⟩:=YU t c zT aT fT a7 a8 a9 a10 aw av hT hC hA h0
  unfold aR at*
  rw[an ake (by simp[c31])]
  simp(maxDischargeDepth:=6) only[qA,seval,c31,r,e1,Fk,h0,yF]
include hL
theorem af3: ∃s,ae pE 32 [.agg [zT,aT,fT],.agg (aR c a7 a8 a9 a10 aw av)] []=some (if eO t c=0 then .tup [cE t.fl.length (((List.range t.fl.length).map (dM t.fl.length (jn c t.fl))).map kS),.i .i64 0]else .tup [.nilsl,.i .i64 (eO t c)],s):=by
 have D:=zX t c zT aT fT a7 a8 a9 a10 aw av hT hC
 have e1:=Gy t c zT aT fT a7 a8 a9 a10 aw av hT hC hA hL
 have e2:=xw t c zT aT fT a7 a8 a9 a10 aw av hT hC zO
 have r:froz1 (cE t.fl.length (((List.range t.fl.length).map (dM t.fl.length (jn c t.fl))).map kS))=true:=by unfold cE;split <;> rfl
 generalize cE t.fl.length (((List.range t.fl.length).map (dM t.fl.length (jn c t.fl))).map kS)=nT at*
 unfold aR at*
 rw[an aub (by simp[c32])]
 by_cases h0:eO t c=0
 all_goals simp(maxDischargeDepth:=6) only[qA,seval,c32,D,e1,e2,K7,UB,h0,r,yF]
omit hL in
theorem af4(ops:List Int)(oT:T)(ho:IsSl oT ops.length (ints ops))(F:ops.length≤1000)(H:Int): ∃s,ae pE 29 [.agg [zT,aT,fT],.agg (aR c a7 a8 a9 a10 aw av),oT,.i .i64 H] []=some (.tup [.i .i64 (if qq t c ops H=0 then Dx c t.fl ops H.toNat else 0),.i .i64 (qq t c ops H)],s):=by
 have D:=zX t c zT aT fT a7 a8 a9 a10 aw av hT hC
 have I:=ho.froz
 have MB:=ho.froz1
 unfold qq
 by_cases h0:eO t c=0
 ·obtain⟨s,K,e1,X⟩:=YT t c zT aT fT a7 a8 a9 a10 aw av hT hC hA h0
  obtain⟨O,U,V⟩:=id hT.f
  have e3:=ZU zT aT fT (aR c a7 a8 a9 a10 aw av++K) O t.fl.length U zO ops oT ho F H
  by_cases r:(if pQ t.fl.length none ops=0 then(if H<0∨6<H then 5 else 0)else pQ t.fl.length none ops)=(0:Int)
  ·obtain⟨h2,h3⟩:pQ t.fl.length none ops=0∧ ¬(H<0∨6<H):=by
    by_cases h2:pQ t.fl.length none ops=0
    ·rw[if_pos h2]at r
     refine⟨h2,fun h3=> ?_⟩
     rw[if_pos h3]at r;cases r
    ·rw[if_neg h2]at r;exact absurd r h2
   obtain⟨m,rfl⟩: ∃m:Nat,H=(m:Int):=⟨H.toNat,by omega⟩
   obtain⟨Y,e2⟩:=O5 zT aT fT a7 a8 a9 a10 aw av c K O t.fl U V zO ops oT ho F (G0 _ _ _ h2) m zO
   rw[Pb]at e2
   rw[r]at e3
   rw[if_pos h0,r,if_pos rfl]
   unfold Go.Proofs.YtcpceiclnbmgiaaGreat.stV at e1
   unfold Dx
   unfold aR at*
   simp only[List.cons_append,List.nil_append]at e1 e2 e3
   rw[an ach (by simp[c29])]
   simp(maxDischargeDepth:=6) only[qA,seval,c29,D,e1,e2,e3,Fk,UA,akn,I,yF]
  ·rw[if_pos h0,if_neg r]
   generalize W:(if pQ t.fl.length none ops=0 then(if H<0∨6<H then 5 else 0)else pQ t.fl.length none ops)=EE at*
   unfold Go.Proofs.YtcpceiclnbmgiaaGreat.stV at e1
   unfold aR at*
   simp only[List.cons_append,List.nil_append]at e1 e3
   rw[an ach (by simp[c29])]
   simp(maxDischargeDepth:=6) only[qA,seval,c29,D,e1,e3,Fk,UA,I,r,yF]
 ·obtain⟨s,e1⟩:=YU t c zT aT fT a7 a8 a9 a10 aw av hT hC hA h0
  unfold aR at*
  rw[an ach (by simp[c29])]
  simp(maxDischargeDepth:=6) only[qA,seval,c29,D,e1,Fk,h0,yF]
omit hL in
theorem aal(ops:List Int)(oT:T)(ho:IsSl oT ops.length (ints ops))(V:ops.length≤1000)(H:Int): ∃v s,ae pE 8 [.agg [zT,aT,fT],.agg (aR c a7 a8 a9 a10 aw av),oT,.i .i64 H] []=some (if qq t c ops H=0 then(if 20000<Dx c t.fl ops H.toNat∨2000<(jm t.fl.length (jn c t.fl) (fN ops) (jL t c) (cJ t c) H.toNat).length then .tup [.nilsl,.i .i64 10]else .tup [v,.i .i64 0])else .tup [.nilsl,.i .i64 (qq t c ops H)],s)∧MG (jm t.fl.length (jn c t.fl) (fN ops) (jL t c) (cJ t c) H.toNat) v:=by
 have I:=zX t c zT aT fT a7 a8 a9 a10 aw av hT hC
 have K:=ho.froz
 have MB:=ho.froz1
 unfold qq
 by_cases h0:eO t c=0
 ·obtain⟨s,O,e1,Z⟩:=YT t c zT aT fT a7 a8 a9 a10 aw av hT hC hA h0
  obtain⟨ht,hc⟩:=Mg t c zT aT fT a7 a8 a9 a10 aw av hT hC hA h0
  obtain⟨X,Y,f2⟩:=id hT.f
  have e3:=ZU zT aT fT (aR c a7 a8 a9 a10 aw av++O) X t.fl.length Y zO ops oT ho V H
  by_cases r:(if pQ t.fl.length none ops=0 then(if H<0∨6<H then 5 else 0)else pQ t.fl.length none ops)=(0:Int)
  ·obtain⟨h2,h3⟩:pQ t.fl.length none ops=0∧ ¬(H<0∨6<H):=by
    by_cases h2:pQ t.fl.length none ops=0
    ·rw[if_pos h2]at r
     refine⟨h2,fun h3=> ?_⟩
     rw[if_pos h3]at r;cases r
    ·rw[if_neg h2]at r;exact absurd r h2
   obtain⟨m,rfl⟩: ∃m:Nat,H=(m:Int):=⟨H.toNat,by omega⟩
   obtain⟨v,s1,e2,D⟩:=anB zT aT fT a7 a8 a9 a10 aw av c O X t.fl Y f2 zO (jL t c) (cJ t c) (OU t c) (fun x x1 x6 hx=>afx t c zT aT fT a7 a8 a9 a10 aw av O hT Z ht hc x _ (Dq.of (.inr ⟨_,rfl⟩)) x1 zO hx) ops oT ho V (G0 _ _ _ h2) m zO (MH _ _ _ _ _ hN _)
   refine⟨v, ?_⟩
   rw[Pb]at e2
   rw[r]at e3
   rw[if_pos h0,r,if_pos rfl,Int.toNat_natCast]
   have U:froz1 v=true:=D.choose_spec.1.froz1
   unfold Go.Proofs.YtcpceiclnbmgiaaGreat.stV at e1
   unfold Dx
   generalize jm t.fl.length (jn c t.fl) (fN ops) (jL t c) (cJ t c) m=out at*
   generalize fJ (sH t.fl.length m (cB t.fl.length (jn c t.fl) (fN ops)) 6)=W at*
   unfold aR at*
   simp only[List.cons_append,List.nil_append]at e1 e2 e3
   rw[an fn8 (by simp[c8])]
   by_cases F:20000<W∨2000<out.length
   ·rw[if_pos F]at e2 ⊢
    simp(maxDischargeDepth:=6) only[qA,seval,c8,I,e1,e2,e3,Fk,UA,at7,K]
    exact⟨_,rfl,D⟩
   ·rw[if_neg F]at e2 ⊢
    simp(maxDischargeDepth:=6) only[qA,seval,c8,I,e1,e2,e3,Fk,UA,at7,K,U]
    exact⟨_,rfl,D⟩
  ·obtain⟨v,D⟩:=GY (jm t.fl.length (jn c t.fl) (fN ops) (jL t c) (cJ t c) H.toNat)
   refine⟨v, ?_⟩
   rw[if_pos h0,if_neg r]
   generalize hEE:(if pQ t.fl.length none ops=0 then(if H<0∨6<H then 5 else 0)else pQ t.fl.length none ops)=EE at*
   unfold Go.Proofs.YtcpceiclnbmgiaaGreat.stV at e1
   unfold aR at*
   simp only[List.cons_append,List.nil_append]at e1 e3
   rw[an fn8 (by simp[c8])]
   simp(maxDischargeDepth:=6) only[qA,seval,c8,I,e1,e3,Fk,UA,K,r]
   exact⟨_,rfl,D⟩
 ·obtain⟨s,e1⟩:=YU t c zT aT fT a7 a8 a9 a10 aw av hT hC hA h0
  obtain⟨v,D⟩:=GY (jm t.fl.length (jn c t.fl) (fN ops) (jL t c) (cJ t c) H.toNat)
  refine⟨v, ?_⟩
  unfold aR at*
  rw[an fn8 (by simp[c8])]
  simp(maxDischargeDepth:=6) only[qA,seval,c8,I,e1,Fk,h0]
  exact⟨_,rfl,D⟩
theorem aam(ops:List Int)(oT:T)(ho:IsSl oT ops.length (ints ops))(V:ops.length≤1000)(H:Int): ∃v s,ae pE 35 [.agg [zT,aT,fT],.agg (aR c a7 a8 a9 a10 aw av),oT,.i .i64 H] []=some (if qq t c ops H=0 then(if 20000<Dx c t.fl ops H.toNat∨2000<(jm t.fl.length (jn c t.fl) (fN ops) (jL t c) (cJ t c) H.toNat).length then .tup [.nilsl,.i .i64 10]else .tup [v,.i .i64 0])else .tup [.nilsl,.i .i64 (qq t c ops H)],s)∧Sr (jm t.fl.length (jn c t.fl) (fN ops) (jL t c) (cJ t c) H.toNat) v:=by
 have O:=zX t c zT aT fT a7 a8 a9 a10 aw av hT hC
 have W:=ho.froz
 have MB:=ho.froz1
 obtain⟨s0,U⟩:=GX t c zT aT fT a7 a8 a9 a10 aw av hT hC hA hL zO ops oT ho V H
 by_cases r:qq t c ops H=0
 ·obtain⟨h0,h2,h3⟩:eO t c=0∧pQ t.fl.length none ops=0∧ ¬(H<0∨6<H):=by
   unfold qq at r
   by_cases h0:eO t c=0
   ·rw[if_pos h0]at r
    by_cases h2:pQ t.fl.length none ops=0
    ·rw[if_pos h2]at r
     refine⟨h0,h2,fun h3=> ?_⟩
     rw[if_pos h3]at r;cases r
    ·rw[if_neg h2]at r;exact absurd r h2
   ·rw[if_neg h0]at r;exact absurd r h0
  obtain⟨m,rfl⟩: ∃m:Nat,H=(m:Int):=⟨H.toNat,by omega⟩
  have e2:=Z1 t c zT aT fT a7 a8 a9 a10 aw av hT hC zO ops oT ho V
  have e3:=xw t c zT aT fT a7 a8 a9 a10 aw av hT hC zO
  rw[if_pos h2]at e2
  rw[r,if_pos rfl,Int.toNat_natCast]at U
  simp only[r,if_true,Int.toNat_natCast]
  have Z:froz1 (cE t.fl.length (((List.range t.fl.length).map (dM t.fl.length (jn c t.fl))).map kS))=true:=by unfold cE;split <;> rfl
  have hnF:froz (cE t.fl.length (((List.range t.fl.length).map (dM t.fl.length (jn c t.fl))).map kS))=true:=by unfold cE;split <;> rfl
  have fO: ∀f,f<t.fl.length→ ∃q,∀kk,dV (cE t.fl.length (((List.range t.fl.length).map (dM t.fl.length (jn c t.fl))).map kS)) (.i kk (f:Int)) 1=some (.vp (kS (dM t.fl.length (jn c t.fl) f)::q)):=fun f hf=>by
   have V:(((List.range t.fl.length).map (dM t.fl.length (jn c t.fl))).map kS).length=t.fl.length:=xv
   unfold cE
   rw[if_neg zO]
   refine⟨(((List.range t.fl.length).map (dM t.fl.length (jn c t.fl))).map kS).drop (f+1),fun kk=> ?_⟩
   rw[di,if_pos ⟨by omega,by simpa using hf,by rw[V];simp;omega⟩,Int.toNat_natCast,Nat.mul_one,List.drop_eq_getElem_cons (by rw[V];exact hf)]
   simp
  have hmf:froz1 (.sl (mF (inB t.fl.length ops)) t.fl.length false)=true:=rfl
  have hmF:froz (.sl (mF (inB t.fl.length ops)) t.fl.length false)=true:=rfl
  obtain⟨v,s',e4,hV⟩:=aai t c zT aT fT a7 a8 a9 a10 aw av hT hC hA hL h0 zO (.sl (mF (inB t.fl.length ops)) t.fl.length false) (cE t.fl.length (((List.range t.fl.length).map (dM t.fl.length (jn c t.fl))).map kS)) hmF hnF (fN ops) (GP t.fl.length ops) rfl fO 6 [] .nilsl m [] .nilsl [] rfl (.inl ⟨rfl,rfl⟩) (.inl rfl) zO (.inl ⟨rfl,rfl,rfl⟩) (by
   have:=MH t.fl.length (jn c t.fl) (fN ops) (jL t c) (cJ t c) hN m
   unfold jm at this
   simpa[qu]using this)
  have X:(qu t.fl.length (jn c t.fl) []).flatMap (fun f=>dF t.fl.length (jn c t.fl) (fN ops) (jL t c) (cJ t c) 6 [] f m)=jm t.fl.length (jn c t.fl) (fN ops) (jL t c) (cJ t c) m:=rfl
  rw[List.nil_append,X]at hV
  clear X
  generalize hmT:T.sl (mF (inB t.fl.length ops)) t.fl.length false=mT at*
  generalize cE t.fl.length (((List.range t.fl.length).map (dM t.fl.length (jn c t.fl))).map kS)=nT at*
  unfold aR at*
  have F:(kept1 zT=true∧kept1 aT=true∧kept1 fT=true∧kept1 a7=true∧kept1 a8=true∧kept1 a9=true∧kept1 a10=true∧kept1 aw=true∧kept1 av=true):=by
   obtain⟨⟨z1,z2,z3,z4,z5,z6,z7,z8,z9⟩,_⟩:=O
   exact⟨hU z1,hU z2,hU z3,hU z4,hU z5,hU z6,hU z7,hU z8,hU z9⟩
  have RH:kept mT=true:=Pf hmf
  have jN:kept nT=true:=Pf Z
  rcases hV with⟨rfl,h5,rfl⟩|⟨g,cs,rfl,rfl,b1⟩
  ·refine⟨.nilsl, ?_⟩
   have I:Sr (jm t.fl.length (jn c t.fl) (fN ops) (jL t c) (cJ t c) m) .nilsl:=⟨[],by rw[h5];exact .inl ⟨rfl,rfl,rfl⟩,by rw[h5];rfl⟩
   have D: ¬2000<(jm t.fl.length (jn c t.fl) (fN ops) (jL t c) (cJ t c) m).length:=by rw[h5];simp
   rw[an acj (by simp[uc])]
   by_cases Y:20000<Dx c t.fl ops m
   all_goals
    simp(maxDischargeDepth:=6) only[qA,bp,dL,seval,aJ,uc,O,F,U,e2,e3,e4,K6,K8,UB,aks,akq,akt,W,RH,jN,Y,D,or_self,true_or]
    exact⟨_,rfl,I⟩
  ·refine⟨.sl cs (jm t.fl.length (jn c t.fl) (fN ops) (jL t c) (cJ t c) m).length false, ?_⟩
   have I:Sr (jm t.fl.length (jn c t.fl) (fN ops) (jL t c) (cJ t c) m) (.sl cs (jm t.fl.length (jn c t.fl) (fN ops) (jL t c) (cJ t c) m).length false):=⟨cs,.inr ⟨_,rfl⟩,b1⟩
   have ee:=b1.len LgQ.len
   have dm:lenI (T.isl .S 0 g 0 (jm t.fl.length (jn c t.fl) (fN ops) (jL t c) (cJ t c) m).length 7)=some (.i .i64 ((jm t.fl.length (jn c t.fl) (fN ops) (jL t c) (cJ t c) m).length:Int)):=rfl
   have hzS:=fun q lh=>yu (m:=q) (lh:=lh) (s:= [(⟨g,.cells cs 0 false⟩:ah)]) (k:=0) rfl ee
   rw[an acj (by simp[uc])]
   by_cases Y:20000<Dx c t.fl ops m
   ·simp(maxDischargeDepth:=6) only[qA,seval,uc,O,U,K6,W,Y,true_or]
    exact⟨_,rfl,I⟩
   ·by_cases D:2000<(jm t.fl.length (jn c t.fl) (fN ops) (jL t c) (cJ t c) m).length
    ·have K:(2000:Int)<((jm t.fl.length (jn c t.fl) (fN ops) (jL t c) (cJ t c) m).length:Int):=zO
     simp(maxDischargeDepth:=6) only[qA,bp,dL,seval,aJ,uc,O,F,U,e2,e3,e4,K6,K8,UB,aks,akq,akt,W,RH,jN,Y,D,K,dm,or_true]
     exact⟨_,rfl,I⟩
    ·have K: ¬(2000:Int)<((jm t.fl.length (jn c t.fl) (fN ops) (jL t c) (cJ t c) m).length:Int):=zO
     simp(maxDischargeDepth:=6) only[qA,bp,dL,seval,aJ,uc,O,F,U,e2,e3,e4,K6,K8,UB,aks,akq,akt,W,RH,jN,Y,D,K,dm,hzS,or_self]
     exact⟨_,rfl,I⟩
 ·obtain⟨v,I⟩:=af1 (jm t.fl.length (jn c t.fl) (fN ops) (jL t c) (cJ t c) H.toNat)
  refine⟨v, ?_⟩
  rw[if_neg r]
  unfold aR at*
  rw[an acj (by simp[uc])]
  simp(maxDischargeDepth:=6) only[qA,seval,uc,O,U,K6,W,r]
  exact⟨_,rfl,I⟩
end
structure TtA (t:Tt):Prop where
 z:(∀u∈t.zo,u.sh.length≤fj)∧t.zo.length≤fj
 a:t.ap.length≤fj
 f:t.fl.length≤fj∧ ∀u∈t.fl,u.nu.length≤fj
theorem aHk(zT aT fT:T)(l:List Zo)(r:List T)(h:IsSl zT l.length r)(hr:aA BY l r)(D:l.length≤fj)(fr:Fr)(lh:aB ah)(sh:List ah)
  (h1:aa fr 1= .ptr .L 1 1 0) (h3:wc (aa fr 3)=true) (h4:aa fr 4= .i .i64 0) (F:ab lh 1=⟨1,.cells [zT,aT,fT] 0 true⟩):
  mI 38 rF fr lh sh (.ext 0)∧(wc (aa (kR pE 38 rF fr lh sh) 3)=true∧iF pE 38 rF fr lh sh=sh):=by
 refine dJ (fun k st=> ∃(fr:Fr),st=⟨fr,lh,sh⟩∧aa fr 1= .ptr .L 1 1 0∧wc (aa fr 3)=true∧aa fr 4= .i .i64 (k:Int)) (fun K Y O=>wc (aa K 3)=true∧O=sh) _ l.length ?_ ?_ fr lh sh ⟨fr,rfl,h1,h3,h4⟩
 ·rintro k _ hk ⟨fr,rfl,h1,h3,h4⟩
  have U:(k:Int)<l.length:=zO
  have V:=mf (k:=k) zO
  obtain⟨Z,sc,rr,W,X,_⟩:=Ee h hr k hk
  obtain⟨n,I⟩:=pG h3
  simp only[qB,seval,rF,h1,I,h4,F,h.lenI,U,W,X.lenI,V]
  refine px (fun _=> ?_) (fun _=> ?_)
  ·exact cS ⟨_,rfl,by simp only[qA,seval,h1],by simp only[qA,seval,jO],by simp only[qA,seval]⟩
  ·exact eL ⟨rfl,by simp only[qA,seval,I,jO],rfl⟩
 ·rintro _ ⟨fr,rfl,h1,h3,h4⟩
  simp only[qA,seval,rF,h1,h4,F,h.lenI,Int.lt_irrefl]
  exact eL ⟨rfl,by simp only[qA,seval,h3],rfl⟩
section
variable(t:Tt)(c:Ct)(zT aT fT a7 a8 a9 a10 aw av:T)(hT:ow t zT aT fT)(hC:oP c a7 a8 a9 a10 aw av)
theorem af5(hT:ow t zT aT fT)(hA:TtA t): ∃b,ae pE 102 [.agg [zT,aT,fT]] []=some (.b b,[]):=by
 obtain⟨⟨D,r,F⟩,⟨ac,I,W⟩,⟨Y,K,Z⟩⟩:=hT
 have hL:=fun fr lh sh h1 h3 h4 O=>aHk zT aT fT t.zo D r F hA.z.2 fr lh sh h1 h3 h4 O
 rw[an agG (by simp[Tj])]
 simp only[qA,seval,Tj,hL,jO,r.lenI,I.lenI,K.lenI]
 generalize U:aa (kR _ _ _ _ _ _) 3=X
 obtain⟨n,V⟩: ∃n,X= .i .i64 n:=by
  rw[←U]
  refine pG (hL _ _ _ ?_ ?_ ?_ ?_).2.1 <;> simp only[qA,seval,jO]
 rw[V]
 simp only[qA,seval]
 exact⟨_,rfl⟩
theorem aan(hT:ow t zT aT fT)(hA:TtA t)(hC:oP c a7 a8 a9 a10 aw av)(I:CtA c): ∃b,ae pE 61 [.agg [zT,aT,fT],.agg (aR c a7 a8 a9 a10 aw av)] []=some (.b b,[])∧(b=true→t.fl.length≤12):=by
 have D:=zX t c zT aT fT a7 a8 a9 a10 aw av hT hC
 obtain⟨b,h1⟩:=af5 t zT aT fT hT hA
 obtain⟨K,h2⟩:=Yo c a7 a8 a9 a10 aw av hC I
 obtain⟨_,_,⟨O,F,U⟩⟩:=hT
 rw[an auw (by simp[c61])]
 unfold aR at*
 by_cases r:(t.fl.length:Int)≤12
 ·cases b
  all_goals
   simp only[qA,seval,c61,h1,h2,agH,au6,F.lenI,r,D]
   exact⟨_,rfl,fun _=>by omega⟩
 ·cases b
  all_goals
   simp only[qA,seval,c61,h1,agH,F.lenI,r,D]
   exact⟨_,rfl,fun h=>Bool.noConfusion h⟩
end
theorem Pg(N:Nat)(J:Nat→Nat→Bool)(aH:Nat→Bool)(ok:List (Int×Bool)→Bool)(lg:List (Int×Bool)→Lg)(MF: ∀x,(lg x).du=x): ∀(n:Nat) (d:List (Int×Bool)) (f h:Nat),∀g∈dF N J aH ok lg n d f h,g.du.length≤d.length+n
 |0,_,_,_,g,hg=>by simp[dF]at hg
 |n+1,d,f,h,g,hg=>by
  have one: ∀(b:Bool) (h:Nat),g∈qt N J ok lg (dF N J aH ok lg n) (d++ [((f:Int),b)]) f h→g.du.length≤d.length+(n+1):=by
   intro b h hg
   unfold qt at hg
   rcases List.mem_append.1 hg with hg|hg
   ·split at hg
    ·rw[List.mem_singleton.1 hg,MF,List.length_append,List.length_singleton];omega
    ·simp at hg
   ·obtain⟨x,_,hx⟩:=List.mem_flatMap.1 hg
    have:=Pg N J aH ok lg MF n _ x h g hx
    rw[List.length_append,List.length_singleton]at this
    omega
  rw[dF]at hg
  rcases List.mem_append.1 hg with hg|hg
  ·split at hg
   ·exact one _ _ hg
   ·simp at hg
  ·split at hg
   ·simp at hg
   ·exact one _ _ hg
theorem af6(N:Nat)(J:Nat→Nat→Bool)(aH:Nat→Bool)(ok:List (Int×Bool)→Bool)(lg:List (Int×Bool)→Lg)(MF: ∀x,(lg x).du=x)(H:Nat): ∀g∈jm N J aH ok lg H,g.du.length≤6:=fun g r=>by
 obtain⟨f,_,h⟩:=List.mem_flatMap.1 r
 exact Pg N J aH ok lg MF 6 [] f H g h
theorem aHl(r:List Lg)(C8: ∀g∈r,g.du.length≤6)(W:r.length≤1000000000)(a b:T)(ha:MG r a)(hb:Sr r b)(fr:Fr)(lh:aB ah)(sh:List ah)(h0:aa fr 0=a)(h1:aa fr 1=b)(h5:aa fr 5= .i .i64 0):
  Lp pE 27 Ax fr lh sh (.ext 0) fun F I K=>True:=by
 obtain⟨ac,a1,a2⟩:=ha
 obtain⟨bc,b1,X⟩:=hb
 have Oz:=a1.lenI
 refine bV aao (fun k F I K=>aa F 5= .i .i64 (k:Int)) r.length h5 ?_ ?_
 ·rintro k F I K hk O U
  have aN:(k:Int)<r.length:=zO
  have hw:=aI (k:=k) zO
  obtain⟨ca,ra,ea,Y⟩:=a2.drop LgR.len k hk
  obtain⟨cb,rb,eb,vb,V,D⟩:=X.drop LgQ.len k hk
  have Z:=fun kk=>a1.ia (sz:=7) (k:=k) (kk:=kk) (a2.len LgR.len) hk
  have ib:=fun kk=>b1.ia (sz:=7) (k:=k) (kk:=kk) (X.len LgQ.len) hk
  have hg:=C8 r[k] (List.getElem_mem hk)
  unfold LgR at Y
  subst Y V
  rw[ea]at Z
  rw[eb]at ib
  have e1:=ang r[k] (.sl (gh r[k].du) r[k].du.length false) vb (.inr ⟨_,rfl⟩) D zO
  have Zi:=D.froz1
  unfold jl at*
  simp(maxDischargeDepth:=6) only[qA,bp,seval,aJ,gd,Ax,O,h0,h1,U,Oz,aN,hw,Z,ib,e1,aCU,aCV,Zi]
 ·rintro F I K O U
  simp only[qA,seval,gd,Ax,O,h0,Oz,U,Int.lt_irrefl]
theorem Ph(r:List Lg)(C8: ∀g∈r,g.du.length≤6)(F:r.length≤1000000000)(a b:T)(K:MG r a)(O:Sr r b): ∃s,ae pE 36 [a,b] []=some (.b true,s):=by
 have hL:=fun fr lh sh=>aHl r C8 F a b K O fr lh sh
 have Oz:=K.choose_spec.1.lenI
 have I:=O.choose_spec.1.lenI
 rw[an aud (by simp[c36])]
 simp(maxDischargeDepth:=6) only[qA,seval,c36,Oz,I]
 generalize U:DC pE 27 (.loop Ax) _=D
 obtain⟨V,W,s2,rfl,_,X⟩:=sZ aao U (hL _ _ _ wL wL wL)
 simp(maxDischargeDepth:=6) only[qA,seval]
 exact⟨_,rfl⟩
theorem aap: ∃s,ae pE 10 [] []=some (.b true,s):=⟨[],dj (m:=100) (dh (by kernel_rfl))⟩
section
variable(t:Tt)(c:Ct)(zT aT fT a7 a8 a9 a10 aw av:T)(hT:ow t zT aT fT)(hC:oP c a7 a8 a9 a10 aw av)(hA:OE c)(hTA:TtA t)(hCA:CtA c)(ops:List Int)(oT:T)(ho:IsSl oT ops.length (ints ops))(H:Int)
include hT hC hA hTA hCA ho
theorem aaq: ∃b s,ae pE 30 [.agg [zT,aT,fT],.agg (aR c a7 a8 a9 a10 aw av),oT,.i .i64 H] []=some (.b b,s)∧(b=true→t.fl.length≤12∧ops.length≤40):=by
 have F:=zX t c zT aT fT a7 a8 a9 a10 aw av hT hC
 have O:=ho.froz
 have MB:=ho.froz1
 have D:=ho.lenI
 obtain⟨b,e1,U⟩:=aan t c zT aT fT a7 a8 a9 a10 aw av hT hTA hC hCA
 cases b
 ·unfold aR at*
  rw[an aci (by simp[c30])]
  simp(maxDischargeDepth:=6) only[qA,seval,c30,F,e1,ako]
  exact⟨_,_,rfl,fun h=>Bool.noConfusion h⟩
 ·have I:=U rfl
  by_cases K:ops.length≤40
  ·have r: ¬(40:Int)<(ops.length:Int):=zO
   obtain⟨s,e2⟩:=GX t c zT aT fT a7 a8 a9 a10 aw av hT hC hA hTA.f.2 zO ops oT ho zO H
   generalize (if qq t c ops H=0 then Dx c t.fl ops H.toNat else 0)=V at*
   generalize qq t c ops H=E at*
   unfold aR at*
   rw[an aci (by simp[c30])]
   by_cases W:E=0 <;> by_cases X:V≤400 <;> by_cases Ai:20000<V
   all_goals
    simp(maxDischargeDepth:=6) only[qA,seval,c30,F,e1,e2,ako,K6,O,D,r,W,X,Ai]
    exact⟨_,_,rfl,fun _=>⟨I,K⟩⟩
  ·have r:(40:Int)<(ops.length:Int):=zO
   unfold aR at*
   rw[an aci (by simp[c30])]
   simp(maxDischargeDepth:=6) only[qA,seval,c30,F,e1,ako,D,r]
   exact⟨_,_,rfl,fun h=>Bool.noConfusion h⟩
omit hTA hCA in
theorem Ss(hL: ∀f∈t.fl,f.nu.length≤fj)(hN:t.fl.length≤12)(D:ops.length≤1000): ∃x y e F s2,ae pE 8 [.agg [zT,aT,fT],.agg (aR c a7 a8 a9 a10 aw av),oT,.i .i64 H] []=some (.tup [x,.i .i64 e],F)∧ae pE 35 [.agg [zT,aT,fT],.agg (aR c a7 a8 a9 a10 aw av),oT,.i .i64 H] []=some (.tup [y,.i .i64 e],s2)∧(∃s,ae pE 36 [x,y] []=some (.b true,s))∧froz1 x=true∧froz1 y=true:=by
 obtain⟨x,F,e1,hx⟩:=aal t c zT aT fT a7 a8 a9 a10 aw av hT hC hA hN ops oT ho D H
 obtain⟨y,s2,e2,I⟩:=aam t c zT aT fT a7 a8 a9 a10 aw av hT hC hA hL hN ops oT ho D H
 have K:=Ph [] xv xv .nilsl .nilsl ⟨[],.inl ⟨rfl,rfl,rfl⟩,rfl⟩ ⟨[],.inl ⟨rfl,rfl,rfl⟩,rfl⟩
 have hs:=Ph _ (af6 t.fl.length (jn c t.fl) (fN ops) (jL t c) (cJ t c) (OU t c) H.toNat) (MH _ _ _ _ _ hN _) x y hx I
 have U:=hx.choose_spec.1.froz1
 have V:=I.choose_spec.1.froz1
 by_cases O:qq t c ops H=0
 ·rw[if_pos O]at e1 e2
  split at e1
  ·rename_i r
   rw[if_pos r]at e2
   exact⟨_,_,_,_,_,e1,e2,K,rfl,rfl⟩
  ·rename_i r
   rw[if_neg r]at e2
   exact⟨_,_,_,_,_,e1,e2,hs,U,V⟩
 ·rw[if_neg O]at e1 e2
  exact⟨_,_,_,_,_,e1,e2,K,rfl,rfl⟩
omit hTA hCA ho in
theorem aar(hL: ∀f∈t.fl,f.nu.length≤fj)(hN:t.fl.length≤12): ∃x y e F s2,∃n:Nat,ae pE 31 [.agg [zT,aT,fT],.agg (aR c a7 a8 a9 a10 aw av)] []=some (.tup [x,.i .i64 e],F)∧ae pE 32 [.agg [zT,aT,fT],.agg (aR c a7 a8 a9 a10 aw av)] []=some (.tup [y,.i .i64 e],s2)∧lenI x=some (.i .i64 (n:Int))∧lenI y=some (.i .i64 (n:Int))∧n≤12∧froz1 x=true∧froz1 y=true∧
  ∀k,k<n→ ∃a q V,froz1 a=true∧(∀kk,dV x (.i kk (k:Int)) 1=some (.vp (a::q)))∧(∀kk,dV y (.i kk (k:Int)) 1=some (.vp (a::V)))∧ae pE 33 [a,a] []=some (.b true,[]):=by
 obtain⟨F,e1⟩:=af2 t c zT aT fT a7 a8 a9 a10 aw av hT hC hA hN
 obtain⟨s2,e2⟩:=af3 t c zT aT fT a7 a8 a9 a10 aw av hT hC hA hL hN
 by_cases I:eO t c=0
 ·rw[if_pos I]at e1 e2
  have K:(((List.range t.fl.length).map (dM t.fl.length (jn c t.fl))).map kS).length=t.fl.length:=xv
  have D:IsSl (cE t.fl.length (((List.range t.fl.length).map (dM t.fl.length (jn c t.fl))).map kS)) t.fl.length (((List.range t.fl.length).map (dM t.fl.length (jn c t.fl))).map kS):=hZ fun h=>by rw[h];rfl
  refine⟨_,_,_,_,_,t.fl.length,e1,e2,rfl,D.lenI,hN,rfl,D.froz1,fun k hk=> ?_⟩
  obtain⟨gT,q,h1,h2,h3,h4⟩:=MA t.fl.length (jn c t.fl) zO k hk
  have h5:=fun kk=>D.ia (sz:=1) (k:=k) (kk:=kk) zO hk
  have O:(((List.range t.fl.length).map (dM t.fl.length (jn c t.fl))).map kS).drop (k*1)=kS (dM t.fl.length (jn c t.fl) k)::(((List.range t.fl.length).map (dM t.fl.length (jn c t.fl))).map kS).drop (k+1):=by
   rw[Nat.mul_one,List.drop_eq_getElem_cons (by rw[K];exact hk)]
   simp
  rw[O]at h5
  have W:gT=kS (dM t.fl.length (jn c t.fl) k):=by
   have h6:=h1 .i64
   unfold HJ at h6
   rw[di,if_pos ⟨by omega,by simpa using hk,by rw[K];simp;omega⟩,Int.toNat_natCast,O]at h6
   have r:=Option.some.inj h6
   injection r with r
   injection r with r _
   exact r.symm
  subst W
  have X:(ints ((dM t.fl.length (jn c t.fl) k).map Int.ofNat)).length=(dM t.fl.length (jn c t.fl) k).length:=by rw[cD,List.length_map]
  have U:IsSl (kS (dM t.fl.length (jn c t.fl) k)) ((dM t.fl.length (jn c t.fl) k).map Int.ofNat).length (ints ((dM t.fl.length (jn c t.fl) k).map Int.ofNat)):=by rw[List.length_map];exact h2
  exact⟨_,_,_,h2.froz1,h1,h5,anb ((dM t.fl.length (jn c t.fl) k).map Int.ofNat) _ _ U U (by rw[List.length_map];omega)⟩
 ·rw[if_neg I]at e1 e2
  exact⟨_,_,_,_,_,0,e1,e2,rfl,rfl,by omega,rfl,rfl,fun k hk=>by omega⟩
omit hT hC hA hTA hCA ho in
theorem aHn(x y:T)(n:Nat)(hx:lenI x=some (.i .i64 (n:Int)))(hn:n≤12)(hk: ∀k,k<n→ ∃a q W,froz1 a=true∧(∀kk,dV x (.i kk (k:Int)) 1=some (.vp (a::q)))∧(∀kk,dV y (.i kk (k:Int)) 1=some (.vp (a::W)))∧ae pE 33 [a,a] []=some (.b true,[]))(fr:Fr)(lh:aB ah)(sh:List ah)(X:aa fr 9=x)(K:aa fr 11=y)(Y:aa fr 13= .i .i64 0):
  Lp pE 120 Ar fr lh sh (.ext 0) fun I D F=>D=lh∧F=sh:=by
 refine bV aas (fun k I D F=>aa I 13= .i .i64 (k:Int)∧D=lh∧F=sh) n ⟨Y,rfl,rfl⟩ ?_ ?_
 ·rintro k I D F O U ⟨r,rfl,rfl⟩
  have Z:(k:Int)<n:=zO
  have hw:=aI (k:=k) zO
  obtain⟨a,q,W,ha,i1,i2,e1⟩:=hk k O
  have V:froz a=true:=by cases a <;> simp_all[froz1,froz]
  simp(maxDischargeDepth:=6) only[qA,bp,seval,aJ,gd,Ar,U,X,K,r,hx,Z,hw,i1,i2,e1,aC1,aC2,V]
 ·rintro I D F U ⟨r,rfl,rfl⟩
  simp only[qA,seval,gd,Ar,U,X,hx,r,Int.lt_irrefl]
theorem aat: ∃s,ae pE 11 [.agg [zT,aT,fT],.agg (aR c a7 a8 a9 a10 aw av),oT,.i .i64 H] []=some (.b true,s):=by
 have I:=zX t c zT aT fT a7 a8 a9 a10 aw av hT hC
 have K:=ho.froz
 have MB:=ho.froz1
 obtain⟨s5,e5⟩:=aap
 obtain⟨b,s4,e4,hb⟩:=aaq t c zT aT fT a7 a8 a9 a10 aw av hT hC hA hTA hCA ops oT ho H
 cases b
 ·unfold aR at*
  rw[an aj6 (by simp[tX])]
  simp(maxDischargeDepth:=6) only[qA,seval,tX,I,e4,e5,aua,at1,K]
  exact⟨_,rfl⟩
 ·obtain⟨hN,h40⟩:=hb rfl
  obtain⟨x,y,e,s6,s7,n,e6,e7,lx,ly,hn,zx,zy,hk⟩:=aar t c zT aT fT a7 a8 a9 a10 aw av hT hC hA hTA.f.2 hN
  obtain⟨s9,e9⟩:=af4 t c zT aT fT a7 a8 a9 a10 aw av hT hC hA hN ops oT ho zO H
  obtain⟨s10,O⟩:=GX t c zT aT fT a7 a8 a9 a10 aw av hT hC hA hTA.f.2 zO ops oT ho zO H
  obtain⟨u,v,e',s11,s12,U,W,⟨s13,X⟩,zu,zv⟩:=Ss t c zT aT fT a7 a8 a9 a10 aw av hT hC hA ops oT ho H hTA.f.2 hN zO
  generalize (if qq t c ops H=0 then Dx c t.fl ops H.toNat else 0)=V at*
  generalize qq t c ops H=E at*
  have Y:froz u=true:=by cases u <;> simp_all[froz1,froz]
  have Z:froz v=true:=by cases v <;> simp_all[froz1,froz]
  unfold aR at*
  rw[an aj6 (by simp[tX])]
  simp(maxDischargeDepth:=6) only[qA,seval,tX,I,e4,e6,e7,aua,aCZ,aC0,K,lx,ly]
  generalize hD:DC pE 120 (.loop Ar) _=D
  obtain⟨F,l2,s2,rfl,⟨rfl,rfl⟩,r⟩:=sZ aas hD (aHn x y n lx hn hk _ _ _ wL wL wL)
  have g2:aa F 2=oT:=by rw[r 2 yv];simp only[qA,seval]
  have g3:aa F 3= .i .i64 H:=by rw[r 3 yv];simp only[qA,seval]
  have g4:aa F 4= .ptr .L 4 1 0:=by rw[r 4 yv];simp only[qA,seval]
  have g5:aa F 5= .ptr .L 5 1 0:=by rw[r 5 yv];simp only[qA,seval]
  clear r hD
  simp(maxDischargeDepth:=6) only[qA,seval,I,g2,g3,g4,g5,e9,O,U,W,X,e5,aCY,K6,dc8,aC3,aC4,at1,K,Y,Z]
  exact⟨_,rfl⟩
end
def aau:List Zo:= [⟨[117,116,99],0,[]⟩,⟨[111,115,108,111],60,[(1441500,120),(1444000,60)]⟩,⟨[121,111,114,107],-300,[(1442900,-240)]⟩]
def anG:List Ap:= [⟨[65,65,65],[117,116,99]⟩,⟨[66,66,66],[111,115,108,111]⟩,⟨[67,67,67],[121,111,114,107]⟩]
def Dz(k:Nat):List Nat:= [65+k,65+k,65+k]
def Ke(k:Nat):Int:=([30,45,45,60,90,150,600,780]:List Int).getD k 30
def anH(k:Nat):List Nat:=([[97,51,50,48],[98,55,51,55],[101,49,57,48]]:List (List Nat)).getD k [97,51,50,48]
def Su(n:Int)(x:Nat):Nat:=if n%7=6 then 0 else x
def Cx(n:Int)(x:Nat):Nat:=if Su n x=0 then 1+(n/8%2).toNat else if n%11=10 then 3-Su n x else 0
def G2(n r:Int):Int:=r+Ke (n/16%8).toNat
def arB(n r:Int):Int:=G2 n r+60+15*(n/128%6)
def anI(i:Nat)(n:Int)(x:Nat)(r:Int):Fl:=⟨[70,48+i],Dz (Su n x),Dz (Cx n x),G2 n r,arB n r,anH (n/1024%3).toNat,1,1,2⟩
def MI(n r:Int):Int:=if n%5=4 then G2 n r+20 else arB n r
def tT(a:Nat→Int):Nat→Nat→Nat→Int→List Fl
 |0,_,_,_=> []
 |m+1,i,x,r=>anI i (a (2+i)) x r::tT a m (i+1) (Cx (a (2+i)) x) (MI (a (2+i)) r)
def EH(a:Nat→Int):Nat:=2+(a 1%6).toNat
def ttB(a:Nat→Int):Tt:=⟨aau,anG,tT a (EH a) 0 0 (1440000+15*(a 0%96))⟩
theorem Kf(k:Nat):30≤Ke k∧Ke k≤780:=by
 unfold Ke
 have:k=0∨k=1∨k=2∨k=3∨k=4∨k=5∨k=6∨k=7∨8≤k:=zO
 rcases this with rfl|rfl|rfl|rfl|rfl|rfl|rfl|rfl|h
 all_goals first|decide|(rw[List.getD_eq_getElem?_getD,List.getElem?_eq_none (by simpa using h)];decide)
theorem aaw(n:Int)(x:Nat)(hx:x≤2):Cx n x≠Su n x∧Cx n x≤2∧Su n x≤2:=by
 have h1:Su n x≤2:=by unfold Su;split <;> omega
 unfold Cx
 have h2:(n/8%2).toNat≤1:=zO
 split
 ·omega
 ·split <;> omega
theorem Kg(a:Nat→Int): ∀(m i x:Nat) (r:Int),(tT a m i x r).length=m
 |0,_,_,_=>rfl
 |m+1,i,x,r=>by rw[tT,List.length_cons,Kg a m]
theorem Cy(a:Nat→Int):2≤EH a∧EH a≤7:=by unfold EH;omega
section
variable(N:Nat)(J:Nat→Nat→Bool)(aH:Nat→Bool)(hJ: ∀i j,J i j=true→i<j)
include hJ
end
section
variable(N:Nat)(J:Nat→Nat→Bool)(aH:Nat→Bool)(ok:List (Int×Bool)→Bool)(lg:List (Int×Bool)→Lg)(hJ: ∀i j,J i j=true→i<j)
include hJ
end
section
variable(N:Nat)(J:Nat→Nat→Bool)(aH:Nat→Bool)(ok ok':List (Int×Bool)→Bool)(lg:List (Int×Bool)→Lg)(mg: ∀x,ok x=true→ok' x=true)
include mg
end
end Go.Proofs.YtcpceiclnbmgiaaGreat
