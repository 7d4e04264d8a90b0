/- Walks of functions of the program and of the reference, and their plain laws, part 22. Conditions: the theorems' own. -/
import Derived.Test.YtcpceiclnbmgiaaGreatGS
import Derived.Test.YtcpceiclnbmgiaaGreatM19
import Derived.Test.YtcpceiclnbmgiaaGreatM20
import Derived.Test.YtcpceiclnbmgiaaGreatM21
import Derived.KernelRfl
set_option maxRecDepth 100000
set_option linter.unusedSimpArgs false
set_option linter.unusedVariables false
set_option maxHeartbeats 16000000
namespace Go.Proofs.YtcpceiclnbmgiaaGreat
open Go Go.Ev
theorem J4{α:Type}{s:List ah}{nx m:Nat}(f g:α→T): ∀(l:List α),(∀a∈l,∃us,∀r:Sp→Nat→ah,(∀k,r .S k=aE s k)→(fz false m (f a)).run r nx=some (g a,us))→ ∃us,∀r:Sp→Nat→ah,(∀k,r .S k=aE s k)→(bn (fz false m) (l.map f)).run r nx=some (l.map g,us)
 | [],_=>⟨[],fun _ _=>rfl⟩
 |a::l,h=>by
  obtain⟨I,e1⟩:=h a List.mem_cons_self
  obtain⟨K,e2⟩:=J4 f g l fun b O=>h b (List.mem_cons_of_mem _ O)
  refine⟨I++K,fun r D=> ?_⟩
  simp only[List.map_cons,bn,bq,e1 r D,e2 r D,Option.bind_some,Q.run]
structure Tb (s:List ah) (kw N H:Nat) (w:Nat→Nat→Int):Prop where
 n:aE s kw=⟨1,.cells ((List.range N).map fun i=> .isl .S (kw+1+i) 1 0 (H+1) 1) 0 true⟩
 r: ∀i,i<N→aE s (kw+1+i)=⟨1,.cells (db (H+1) (w i)) 0 false⟩
theorem Tb.fz{s:List ah}{D N H:Nat}{w:Nat→Nat→Int}(h:Tb s D N H w): ∃us,∀lh,fzV lh s false (.isl .S D 1 0 N 1)=some (ZV N H w,us):=by
 obtain⟨us,e⟩:=J4 (s:=s) (nx:=s.length) (m:=7) (fun i=>T.isl .S (D+1+i) 1 0 (H+1) 1) (fun i=>Sg H (w i)) (List.range N) fun i hi=>by
  have hi:=List.mem_range.1 hi
  refine⟨[(.S,D+1+i,⟨1,.cells (db (H+1) (w i)) (db (H+1) (w i)).length false⟩)],fun O K=> ?_⟩
  unfold Ev.fz
  simp only[Bool.false_and,Bool.false_eq_true,if_false,Q.run,K,h.r i hi,if_true]
  rw[if_pos (by rw[iq];omega)]
  simp only[Q.run]
  rw[List.drop_zero,Nat.mul_one,List.take_of_length_le (by rw[iq];omega)]
  rfl
 refine⟨us++ [(.S,D,⟨1,.cells ((List.range N).map fun i=> .isl .S (D+1+i) 1 0 (H+1) 1) ((List.range N).map fun i=>T.isl .S (D+1+i) 1 0 (H+1) 1).length true⟩)],fun lh=> ?_⟩
 have I: ∀k,(St.mk .nil lh s).get .S k=aE s k:=fun _=>rfl
 unfold fzV aL Ev.fz
 simp only[Bool.false_and,Bool.false_eq_true,if_false,Q.run,I,h.n,if_true]
 rw[if_pos xv,List.drop_zero,Nat.mul_one,List.take_of_length_le xv,bq,e _ I]
 rfl
theorem anu{s:List ah}{r N:Nat}(h:aE s r=⟨1,.cells (List.replicate N .nilsl) 0 true⟩): ∃us,∀lh,fzV lh s false (.isl .S r 1 0 N 1)=some (.sl (List.replicate N .nilsl) N false,us):=by
 have e: ∀(n:Nat) (D:Sp→Nat→ah) (nx:Nat),(bn (Ev.fz false 7) (List.replicate n .nilsl)).run D nx=some (List.replicate n .nilsl,[]):=by
  intro n D nx
  induction n with
  |zero=>rfl
  |succ n ih=>
   simp only[List.replicate_succ,bn,bq,ih]
   rfl
 refine⟨[]++ [(.S,r,⟨1,.cells (List.replicate N .nilsl) (List.replicate N T.nilsl).length true⟩)],fun lh=> ?_⟩
 have I: ∀k,(St.mk .nil lh s).get .S k=aE s k:=fun _=>rfl
 unfold fzV aL Ev.fz
 simp only[Bool.false_and,Bool.false_eq_true,if_false,Q.run,I,h,if_true]
 rw[if_pos xv,List.drop_zero,Nat.mul_one,List.take_of_length_le xv,bq,e]
 rfl
def Ah(B H N i:Nat):List T:=(List.range N).map fun j=>if j<i then .isl .S (B+1+j) 1 0 (H+1) 1 else .nilsl
theorem GW(B H N i:Nat):(Ah B H N i).length=N:=by simp[Ah]
theorem afT(B H N i:Nat)(hi:i<N):splice (Ah B H N i) i [.isl .S (B+1+i) 1 0 (H+1) 1]=Ah B H N (i+1):=by
 rw[my _ _ _ (by rw[GW];exact hi)]
 refine List.ext_getElem (by simp[Ah]) fun j h1 h2=> ?_
 rw[List.getElem_set]
 simp only[Ah,List.getElem_map,List.getElem_range]
 by_cases e:i=j
 ·subst e;simp
 ·rw[if_neg e]
  by_cases e2:j<i
  ·rw[if_pos e2,if_pos zO]
  ·rw[if_neg e2,if_neg zO]
theorem afU(B H N i:Nat)(hi:i<N):(Ah B H N (i+1))[i]? =some (.isl .S (B+1+i) 1 0 (H+1) 1):=by
 unfold Ah
 rw[List.getElem?_map,List.getElem?_range hi]
 simp
section
variable(N H:Nat)(hN:N≤1000)(hH:H≤6)(eE nT:T)(aH:Nat→Bool)(nx:Nat→List Nat)(eK: ∀f,f<N→ ∃q,∀kk,dV eE (.i kk (f:Int)) 1=some (.vp (.b (aH f)::q)))(fO: ∀f,f<N→ ∃q,∀kk,dV nT (.i kk (f:Int)) 1=some (.vp (kS (nx f)::q)))
include hN hH eK fO
theorem rc2(B:Nat)(W:T)(C:Nat→Nat→Nat)(r:Int)(EG: ∀i h,i<N→h≤H→ae pE 65 [W,kS (nx i),.i .i64 r,.i .i64 (h:Int)] []=some (.i .i64 (fJ (C i h)),[]))(X:Nat)(T0:Nat)(O:List ah)(Y: ∀s,(∀k,k<B→aE s k=aE O k)→ ∃us,∀lh,fzV lh s false (.isl .S X 1 0 N 1)=some (W,us))
  (fr:Fr) (lh:aB ah) (h3:aa fr 3= .i .i64 (H:Int)) (Z:aa fr 11=eE) (iN:aa fr 13=nT) (cH:aa fr 14= .i .i64 (N:Int)) (je:aa fr 15= .isl .S X 1 0 N 1) (mD:aa fr 16= .i .i64 (fJ T0)) (j4:aa fr 17= .i .i64 r) (fq:aa fr 18= .isl .S B 1 0 N 1) (sj:aa fr 19= .i .i64 0) (hB:aE O B=⟨1,.cells (Ah B H N 0) 0 true⟩) (hlen:O.length=B+1):
  Lp pE 134 Av fr lh O (.ext 2) fun f l s=>l=lh∧s.length=B+1+N∧Tb s B N H (fun i h=>fJ (qx (aH i) (C i) h))∧(∀k,k<B→aE s k=aE O k)∧aa f 16= .i .i64 (fJ (T0+Sm N fun i=>Sm (H+1) (qx (aH i) (C i)))):=by
 refine bV Z3 (fun i f l s=>aa f 19= .i .i64 (i:Int)∧l=lh∧s.length=B+1+i∧aE s B=⟨1,.cells (Ah B H N i) 0 true⟩∧(∀j,j<i→aE s (B+1+j)=⟨1,.cells (db (H+1) fun h=>fJ (qx (aH j) (C j) h)) 0 false⟩)∧(∀k,k<B→aE s k=aE O k)∧aa f 16= .i .i64 (fJ (T0+Sm i fun i=>Sm (H+1) (qx (aH i) (C i))))) N ⟨sj,rfl,by omega,hB,fun j hj=>absurd hj (Nat.not_lt_zero j),fun _ _=>rfl,mD⟩ ?_ ?_
 ·rintro i f l s hi K ⟨I,rfl,U,hb,hr,V,Ad⟩
  have C3:(i:Int)<(N:Int):=zO
  have hw:=aI (k:=i) zO
  have Gw:wr .i64 ((H:Int)+1)=((H+1:Nat):Int):=by rw[bo zO];omega
  obtain⟨q1,z1⟩:=eK i hi
  obtain⟨q2,z2⟩:=fO i hi
  have Dt:i+1≤N:=hi
  have ee:=GW B H N i
  have gn:=afT B H N i hi
  have wg:repl [T.i .i64 0] (H+1)=db (H+1) fun _=>0:=by
   generalize H+1=n
   induction n with
   |zero=>rfl
   |succ n ih=>
    rw[repl,ih]
    unfold db
    rw[List.range_succ_eq_map,List.map_cons,List.map_map]
    rfl
  have r1:(H+1)*8≤roomy:=by unfold roomy;omega
  have r2:H+1≤roomy:=by unfold roomy;omega
  have hsB: ∀e,aE (s++ [e]) B=⟨1,.cells (Ah B H N i) 0 true⟩:=fun e=>by rw[oH zO];exact hb
  have hsv: ∀e,Ev.stV l (s++ [e]) (.ptr .S B 1 i) (.isl .S (B+1+i) 1 0 (H+1) 1) 1=some (l,aK (s++ [e]) B ⟨1,.cells (Ah B H N (i+1)) 0 true⟩):=fun e=>by
   rw[iL (by rfl) (hsB e),dD,if_pos ⟨rfl,rfl,rfl,Nat.zero_le _,by omega⟩]
   show some (l,aK _ B ⟨1,.cells (splice (Ah B H N i) i [.isl .S (B+1+i) 1 0 (H+1) 1]) 0 true⟩)=_
   rw[gn]
  simp(maxDischargeDepth:=6) only[qA,seval,Av,K,h3,cH,fq,I,C3,hi,Gw,vK,r1,r2,wg,U,O3,hsv]
  have gs: ∀j,j<B+1+i→j≠B→aE (aK (s++ [⟨1,.cells (db (H+1) fun _=>0) 0 false⟩]) B ⟨1,.cells (Ah B H N (i+1)) 0 true⟩) j=aE s j:=fun j hj hjB=>by rw[dS,if_neg hjB,oH zO]
  have gB:aE (aK (s++ [⟨1,.cells (db (H+1) fun _=>0) 0 false⟩]) B ⟨1,.cells (Ah B H N (i+1)) 0 true⟩) B=⟨1,.cells (Ah B H N (i+1)) 0 true⟩:=by rw[dS,if_pos rfl]
  have gP:aE (aK (s++ [⟨1,.cells (db (H+1) fun _=>0) 0 false⟩]) B ⟨1,.cells (Ah B H N (i+1)) 0 true⟩) (B+1+i)=⟨1,.cells (db (H+1) fun _=>0) 0 false⟩:=by rw[dS,if_neg zO,←U];exact oI (k:=0)
  have l2:(aK (s++ [⟨1,.cells (db (H+1) fun _=>0) 0 false⟩]) B ⟨1,.cells (Ah B H N (i+1)) 0 true⟩).length=B+1+i+1:=by rw[bU _ _ _ (by rw[List.length_append];omega),List.length_append,U];rfl
  generalize aK (s++ [⟨1,.cells (db (H+1) fun _=>0) 0 false⟩]) B ⟨1,.cells (Ah B H N (i+1)) 0 true⟩=s2 at*
  generalize hD:DC pE 134 (.loop qy) _=D
  obtain⟨f3,l3,s3,rfl,⟨rfl,hl3,hP3,MD,t16⟩,CX⟩:=sZ Z2 hD (rc1 N H i hi hN hH B (B+1+i) rfl eE nT (kS (nx i)) W (aH i) q1 q2 z1 z2 (by unfold kS;split <;> rfl) (C i) r (fun u=>EG i u hi) (Ah B H N (i+1)) (afU B H N i hi) (GW _ _ _ _) X (T0+Sm i fun i=>Sm (H+1) (qx (aH i) (C i))) _ (fun s' LC=>Y s' fun k hk=>(LC k hk).trans ((gs k zO zO).trans (V k hk))) _ _ (by simp only[qA,seval,K,h3]) (by simp only[qA,seval,K,Z]) (by simp only[qA,seval,K,iN]) (by simp only[qA,seval,K,je]) (by simp only[qA,seval,Ad]) (by simp only[qA,seval,K,j4]) (by simp only[qA,seval,K,fq]) (by simp only[qA,seval,I]) wL gB gP zO)
  have f19:aa f3 19= .i .i64 (i:Int):=by rw[CX 19 yv];simp only[qA,seval,I]
  simp(maxDischargeDepth:=6) only[qA,seval,gd,f19,hw,t16]
  refine⟨by omega,(MD B zO).trans gB,fun j hj=> ?_,fun k hk=>(MD k zO).trans ((gs k zO zO).trans (V k hk)), ?_⟩
  ·by_cases e:j=i
   ·subst e;exact hP3
   ·rw[MD _ zO,gs _ zO zO,hr j zO]
  ·rw[Nat.add_assoc];rfl
 ·rintro f l s K ⟨I,rfl,U,hb,hr,V,Ad⟩
  simp only[qA,seval,gd,Av,K,cH,I,Int.lt_irrefl]
  have e:Ah B H N N=(List.range N).map fun i=> .isl .S (B+1+i) 1 0 (H+1) 1:=by
   unfold Ah
   refine List.map_congr_left fun g hg=> ?_
   rw[if_pos (List.mem_range.1 hg)]
  exact⟨U,⟨by rw[hb,e],hr⟩,V,Ad⟩
omit hN hH eK fO in
theorem Z4(B:Nat):Ah B H N 0=List.replicate N .nilsl:=by
 unfold Ah
 refine List.eq_replicate_iff.2 ⟨by simp,fun b r=> ?_⟩
 obtain⟨j,_,rfl⟩:=List.mem_map.1 r
 simp
omit hN hH eK fO in
theorem J5(n:Nat):repl [T.nilsl] n=List.replicate n .nilsl:=by
 induction n with
 |zero=>rfl
 |succ n ih=>rw[repl,ih,List.replicate_succ];rfl
theorem rc3(J:Nat→Nat→Bool)(hJ:nx=dM N J)(fr:Fr)(lh:aB ah)(s0:List ah)(h3:aa fr 3= .i .i64 (H:Int))(Y:aa fr 11=eE)(iN:aa fr 13=nT)(cH:aa fr 14= .i .i64 (N:Int))(je:aa fr 15= .isl .S 0 1 0 N 1)(mD:aa fr 16= .i .i64 0)(j4:aa fr 17= .i .i64 1)(V:s0= [⟨1,.cells (List.replicate N .nilsl) 0 true⟩]):
  Lp pE 134 Aw fr lh s0 (.ext 0) fun f l s=>aa f 16= .i .i64 (fJ (sH N H (cB N J aH) 6)):=by
 subst hJ
 refine bV Z5 (fun k f l s=>aa f 17= .i .i64 ((k+1:Nat):Int)∧aa f 16= .i .i64 (fJ (sH N H (cB N J aH) k))∧ ∃I,aa f 15= .isl .S I 1 0 N 1∧((k=0∧aE s I=⟨1,.cells (List.replicate N .nilsl) 0 true⟩∧I+1≤s.length)∨(k≠0∧Tb s I N H (fun i h=>fJ (cB N J aH k i h))∧I+N+1≤s.length))) 6 ⟨j4,mD,0,je,.inl ⟨rfl,by rw[V];rfl,by rw[V];exact Nat.le_refl _⟩⟩ ?_ ?_
 ·rintro k f l s hk K ⟨GL,Ad,I,Z,O⟩
  have aN:((k+1:Nat):Int)≤6:=zO
  have hw:wr .i64 (((k+1:Nat):Int)+1)=((k+1+1:Nat):Int):=by rw[bo zO];omega
  obtain⟨X,hwz,EG⟩: ∃X,(∀U,(∀j,j<s.length→aE U j=aE s j)→ ∃us,∀lh,fzV lh U false (.isl .S I 1 0 N 1)=some (X,us))∧ ∀i h,i<N→h≤H→ae pE 65 [X,kS (dM N J i),.i .i64 ((k+1:Nat):Int),.i .i64 (h:Int)] []=some (.i .i64 (fJ (cC N J aH k i h)),[]):=by
   rcases O with⟨rfl,O,hb⟩|⟨h0,O,hb⟩
   ·exact⟨_,fun U LC=>anu ((LC I zO).trans O),fun i h _ _=>ZX _ _ h⟩
   ·refine⟨_,fun U LC=>(Tb.mk ((LC I zO).trans O.n) fun i hi=>(LC _ zO).trans (O.r i hi)).fz,fun i h hi hh=> ?_⟩
    have hg2: ∀g∈dM N J i,g<N:=fun g hg=>List.mem_range.1 (List.mem_filter.1 hg).1
    have jY:(dM N J i).length≤1000:=Nat.le_trans (xu (J i) N) hN
    have vv:IsSl (kS (dM N J i)) (dM N J i).length (ints ((dM N J i).map Int.ofNat)):=by
     unfold kS
     split
     ·rename_i h;rw[h];exact .inl ⟨rfl,rfl,rfl⟩
     ·exact .inr ⟨_,rfl⟩
    rw[afS N H (cB N J aH k) (dM N J i) hg2 jY _ vv h hh _ zO]
    obtain⟨m,rfl⟩: ∃m,k=m+1:=⟨k-1,by omega⟩
    rw[show GS (dM N J i) (fun j=>cB N J aH (m+1) j h)=Sm N fun j=>lA (J i j)*cB N J aH (m+1) j h from afQ N (J i) _]
    rfl
  have r1:N*24≤roomy:=by unfold roomy;omega
  have r2:N≤roomy:=by unfold roomy;omega
  have wg:=J5 N
  simp(maxDischargeDepth:=6) only[qA,seval,Aw,K,cH,GL,aN,vK,r1,r2,wg,mw]
  generalize hD:DC pE 134 (.loop Av) _=D
  obtain⟨f3,l3,s3,rfl,⟨rfl,hl3,hT,MD,W⟩,CX⟩:=sZ Z3 hD (rc2 N H hN hH eE nT aH (dM N J) eK fO s.length X (cC N J aH k) ((k+1:Nat):Int) EG I (sH N H (cB N J aH) k) _ (fun U LC=>hwz U fun j hj=>(LC j hj).trans (oH hj)) _ _ (by simp only[qA,seval,K,h3]) (by simp only[qA,seval,K,Y]) (by simp only[qA,seval,K,iN]) (by simp only[qA,seval,K,cH]) (by simp only[qA,seval,Z]) (by simp only[qA,seval,Ad]) (by simp only[qA,seval,GL]) wL wL (by rw[Z4];exact oI (k:=0)) xv)
  have f17:aa f3 17= .i .i64 ((k+1:Nat):Int):=by rw[CX 17 yv];simp only[qA,seval,GL]
  have f18:aa f3 18= .isl .S s.length 1 0 N 1:=by rw[CX 18 yv];simp only[qA,seval]
  have et:(sH N H (cB N J aH) k+Sm N fun i=>Sm (H+1) (qx (aH i) (cC N J aH k i)))=sH N H (cB N J aH) (k+1):=by
   have e1:(Sm N fun i=>Sm (H+1) (qx (aH i) (cC N J aH k i)))=Sm N fun i=>Sm (H+1) fun h=>cB N J aH (k+1) i h:=bH fun i _=>bH fun h _=>(O0 N J aH k i h).symm
   rw[e1,vQ (fun i h=>cB N J aH (k+1) i h) (H+1) N]
   rfl
  rw[et]at W
  simp(maxDischargeDepth:=6) only[qA,seval,gd,f17,f18,hw,W]
  refine⟨s.length,rfl,.inr ⟨?_,by omega⟩⟩
  have:(fun i h=>fJ (cB N J aH (k+1) i h))=fun i h=>fJ (qx (aH i) (cC N J aH k i) h):=funext fun i=>funext fun h=>by rw[O0];rfl
  rw[this]
  exact hT
 ·rintro f l s K ⟨GL,Ad,_⟩
  have aN: ¬((6+1:Nat):Int)≤6:=zO
  simp only[qA,seval,gd,Aw,GL]
  exact Ad
end
def Dx(c:Ct)(fl:List Fl)(ops:List Int)(H:Nat):Int:=fJ (sH fl.length H (cB fl.length (jn c fl) (fN ops)) 6)
def qq(t:Tt)(c:Ct)(ops:List Int)(H:Int):Int:=if eO t c=0 then(if pQ t.fl.length none ops=0 then(if H<0∨6<H then 5 else 0)else pQ t.fl.length none ops)else eO t c
section
variable(t:Tt)(c:Ct)(zT aT fT a7 a8 a9 a10 aw av:T)(hT:ow t zT aT fT)(hC:oP c a7 a8 a9 a10 aw av)(hA:OE c)(hL: ∀f∈t.fl,f.nu.length≤fj)(hN:t.fl.length≤1000)
include hT hC hA hL hN
theorem GX(ops:List Int)(O:T)(U:IsSl O ops.length (ints ops))(I:ops.length≤1000)(H:Int): ∃s,ae pE 34 [.agg [zT,aT,fT],.agg (aR c a7 a8 a9 a10 aw av),O,.i .i64 H] []=some (.tup [.i .i64 (if qq t c ops H=0 then Dx c t.fl ops H.toNat else 0),.i .i64 (qq t c ops H)],s):=by
 have r:=zX t c zT aT fT a7 a8 a9 a10 aw av hT hC
 have e1:=Gy t c zT aT fT a7 a8 a9 a10 aw av hT hC hA hL
 have e2:=Z1 t c zT aT fT a7 a8 a9 a10 aw av hT hC hN ops O U I
 have e3:=xw t c zT aT fT a7 a8 a9 a10 aw av hT hC hN
 have K:=U.froz
 have MB:=U.froz1
 obtain⟨fc,Y,f2⟩:=id hT.f
 have V:=Y.lenI
 unfold aR at*
 unfold qq
 rw[an auc (by simp[c34])]
 by_cases h1:eO t c=0
 ·by_cases h2:pQ t.fl.length none ops=0
  ·by_cases h3:H<0∨6<H
   ·by_cases h4:H<0
    ·simp(maxDischargeDepth:=6) only[qA,seval,c34,r,e1,e2,h1,h2,h4,K,K7,K8,true_or,yF]
    ·have h5:6<H:=zO
     simp(maxDischargeDepth:=6) only[qA,seval,c34,r,e1,e2,h1,h2,h4,h5,K,K7,K8,or_true,yF]
   ·obtain⟨m,rfl⟩: ∃m:Nat,H=(m:Int):=⟨H.toNat,by omega⟩
    have h4: ¬(m:Int)<0:=zO
    have h5: ¬6<(m:Int):=zO
    have Z:t.fl.length*24≤roomy:=by unfold roomy;omega
    have r2:t.fl.length≤roomy:=by unfold roomy;omega
    have wg:=J5 t.fl.length
    have hnf:froz1 (cE t.fl.length (((List.range t.fl.length).map (dM t.fl.length (jn c t.fl))).map kS))=true:=by unfold cE;split <;> rfl
    have fO: ∀f,f<t.fl.length→ ∃q,∀kk,dV (cE t.fl.length (((List.range t.fl.length).map (dM t.fl.length (jn c t.fl))).map kS)) (.i kk (f:Int)) 1=some (.vp (kS (dM t.fl.length (jn c t.fl) f)::q)):=fun f X=>by
     have I:(((List.range t.fl.length).map (dM t.fl.length (jn c t.fl))).map kS).length=t.fl.length:=xv
     unfold cE
     rw[if_neg zO]
     refine⟨(((List.range t.fl.length).map (dM t.fl.length (jn c t.fl))).map kS).drop (f+1),fun kk=> ?_⟩
     rw[di,if_pos ⟨by omega,by simpa using X,by rw[I];simp;omega⟩,Int.toNat_natCast,Nat.mul_one,List.drop_eq_getElem_cons (by rw[I];exact X)]
     simp
    generalize cE t.fl.length (((List.range t.fl.length).map (dM t.fl.length (jn c t.fl))).map kS)=nT at*
    simp(maxDischargeDepth:=6) only[qA,eh,seval,c34,r,e1,e2,e3,h1,h2,h4,h5,K,K7,K8,UB,V,vK,Z,r2,wg]
    generalize hD:DC pE 134 (.loop Aw) _=D
    obtain⟨f3,l3,s3,rfl,W,CX⟩:=sZ Z5 hD (rc3 t.fl.length m hN zO (.sl (mF (inB t.fl.length ops)) t.fl.length false) nT (fN ops) (dM t.fl.length (jn c t.fl)) (GP t.fl.length ops) fO (jn c t.fl) rfl _ _ _ wL wL wL wL wL wL wL rfl)
    simp(maxDischargeDepth:=6) only[qA,seval,W]
    simp only[or_self,if_false,if_true]
    exact⟨_,rfl⟩
  ·simp(maxDischargeDepth:=6) only[qA,seval,c34,r,e1,e2,h1,h2,K,K7,K8,yF]
 ·simp(maxDischargeDepth:=6) only[qA,seval,c34,r,e1,h1,K7,yF]
end
def Z6(sh:List ah)(k bytes g len sz:Nat)(r:List T)(e:ah):Option (T×List ah):=match e.ob with
 | .cells cs 0 false=>if e.g=g∧len*sz≤cs.length∧(len+1)*bytes≤roomy then some (.isl .S k (g+1) 0 (len+1) sz,aK sh k ⟨g+1,.cells (cs.take (len*sz)++r) 0 false⟩)else none
 |_=>none
theorem yt{sh:List ah}{k g r len bytes sz:Nat}{D:List T}{cs:List T}:Z6 sh k bytes g len sz D ⟨r,.cells cs 0 false⟩=if r=g∧len*sz≤cs.length∧(len+1)*bytes≤roomy then some (.isl .S k (g+1) 0 (len+1) sz,aK sh k ⟨g+1,.cells (cs.take (len*sz)++D) 0 false⟩)else none:=nr rfl
def anv(sh:List ah)(bytes sz:Nat):T→T→Option (T×List ah)
 | .nilsl,.sl r 1 _=>if bytes≤roomy then some (.isl .S sh.length 1 0 1 sz,aK sh sh.length ⟨1,.cells r 0 false⟩)else none
 | .isl .S k g 0 len _,.sl r 1 _=>Z6 sh k bytes g len sz r (aE sh k)
 |_,_=>none
theorem J6{sh:List ah}{bytes sz:Nat}{r:List T}{ex:Bool}:anv sh bytes sz .nilsl (.sl r 1 ex)=if bytes≤roomy then some (.isl .S sh.length 1 0 1 sz,aK sh sh.length ⟨1,.cells r 0 false⟩)else none:=nr rfl
theorem J7{sh:List ah}{k g len bytes sz D:Nat}{r:List T}{ex:Bool}:anv sh bytes sz (.isl .S k g 0 len D) (.sl r 1 ex)=Z6 sh k bytes g len sz r (aE sh k):=nr rfl
def wm0:ah→Bool
 |⟨_,.cells _ 0 false⟩=>true
 |_=>false
def okP(sh:List ah):T→Bool
 | .isl .S k _ _ _ _=>wm0 (aE sh k)
 |_=>true
theorem afV{sh:List ah}:okP sh .nilsl=true:=nr rfl
theorem Pd{sh:List ah}{k g o n sz:Nat}:okP sh (.isl .S k g o n sz)=wm0 (aE sh k):=nr rfl
theorem Sh{g:Nat}{cs:List T}:wm0 ⟨g,.cells cs 0 false⟩=true:=nr rfl
theorem Z7{E:Env}{call:kg}{n:Nat}{fr:Fr}{lh:aB ah}{sh:List ah}{O:List aF}{D sz bytes:Nat}{s x:aX}(V:D<n)(hx:xb sz (rd fr x)=true)(hs:B0 sz (rd fr s)=true)(I:okP sh (rd fr s)=true):aj E call n (⟨some D,.app sz bytes s x true true,none⟩::O) ⟨fr,lh,sh⟩=
  (anv sh bytes sz (rd fr s) (rd fr x)).bind fun q=>aj E call n O ⟨cQ fr D q.1,lh,q.2⟩:=by
 obtain⟨W,ex,hx,Z,kl⟩:=xc hx
 have Yz:W.length=1*sz:=zO
 rw[kJ (by rfl) (show CU n (some D)from V)]
 unfold Ev.one
 rcases B1 hs with hs|⟨k,g,len,hs⟩
 ·simp only[bC,jr,bq,hs,hx,cg,Yz,if_true,Q.run,Option.bind_some,J6]
  simp only[Nat.succ_ne_zero,if_false,Nat.one_mul]
  by_cases r:bytes≤roomy
  ·simp only[if_pos r,jq,Q.run,if_true];rfl
  ·simp only[if_neg r,Q.run];rfl
 ·have Oe:(St.mk fr lh sh).get .S k=aE sh k:=rfl
  rw[hs,Pd]at I
  rw[hs,hx,J7]
  generalize hE:aE sh k=e at*
  obtain⟨X,ob⟩:=e
  unfold wm0 at I
  split at I
  ·rename_i g2 cs Y
   cases Y
   rw[yt]
   simp only[bC,jr,bq,hs,hx,cg,Yz,if_true,Q.run,Option.bind_some]
   simp only[Nat.succ_ne_zero,if_false,decide_true,Bool.true_and,decide_eq_true_eq]
   by_cases r:(len+1)*bytes≤roomy
   ·simp only[Q.run,Oe,if_true,r,and_true]
    by_cases U:X=g
    ·subst U
     simp only[if_true,true_and]
     by_cases K:len*sz=cs.length
     ·rw[if_pos K,if_pos zO]
      simp only[Q.run]
      rw[K,List.take_length]
      rfl
     ·rw[if_neg K]
      by_cases KH:len*sz<cs.length
      ·rw[if_pos (by simp[KH]),if_pos zO]
       rfl
      ·rw[if_neg (by simp[KH]),if_neg zO]
       rfl
    ·simp only[Q.run,U,false_and,if_false];rfl
   ·simp only[r,if_false,Q.run,and_false];rfl
  ·cases I
def LgR(g:Lg)(c:List T):Prop:=c=jl g (.sl (gh g.du) g.du.length false)
theorem LgR.len(g:Lg)(c:List T)(h:LgR g c):c.length=7:=by rw[h];rfl
section
variable(N:Nat)(J:Nat→Nat→Bool)(aH:Nat→Bool)(ok:List (Int×Bool)→Bool)(lg:List (Int×Bool)→Lg)
def qt(r:List (Int×Bool)→Nat→Nat→List Lg)(x:List (Int×Bool))(f h:Nat):List Lg:=(if ok x=true then [lg x]else [])++(dM N J f).flatMap fun g=>r x g h
def dF:Nat→List (Int×Bool)→Nat→Nat→List Lg
 |0,_,_,_=> []
 |n+1,d,f,h=>(if aH f=true then qt N J ok lg (dF n) (d++ [((f:Int),false)]) f h else [])++(if h=0 then []else qt N J ok lg (dF n) (d++ [((f:Int),true)]) f (h-1))
end
structure Vs (s:List ah) (F:T) (d:List (Int×Bool)) (out:List Lg):Prop where
 b0: ∃ov,aE s 0=⟨1,.cells [ov] 0 true⟩∧((ov= .nilsl∧out= []∧s.length≤4)∨ ∃g cs,ov= .isl .S 4 g 0 out.length 7∧aE s 4=⟨g,.cells cs 0 false⟩∧aA LgR out cs∧s.length=5)
 b1: ∃dv,aE s 1=⟨1,.cells [dv] 0 true⟩∧((dv= .nilsl∧d= []∧s.length=3)∨ ∃g st,dv= .isl .S 3 g 0 d.length 2∧aE s 3=⟨g,.cells (gh d++st) 0 false⟩∧4≤s.length)
 b2:aE s 2=⟨1,.cells [F] 0 true⟩
theorem azn{lh:aB ah}{s:List ah}{k g n sz:Nat}{cs:List T}(h:aE s k=⟨g,.cells cs 0 false⟩)(D:n*sz≤cs.length):fzV lh s false (.isl .S k g 0 n sz)=some (.sl (cs.take (n*sz)) n false,[(.S,k,⟨g,.cells cs cs.length false⟩)]):=by
 have r:(St.mk .nil lh s).get .S k=aE s k:=rfl
 unfold fzV aL Ev.fz
 simp only[Bool.false_and,Bool.false_eq_true,if_false,Q.run,r,h,if_true]
 rw[if_pos zO]
 rfl
theorem Z8{sv:T}{ok:List (Int×Bool)→Bool}{lg:List (Int×Bool)→Lg}{d:List (Int×Bool)}(hsv:froz sv=true)(K:(lg d).du=d)(h1:1≤d.length)(yO:ae pE 59 [sv,.sl (gh d) d.length false] []=some (if ok d=true then .tup [.agg (jl (lg d) (.sl (gh d) d.length false)),.b true]else .tup [.agg (jl Er .nilsl),.b false],[]))
  {fr:Fr} {lh:aB ah} {s:List ah} {g:Nat} {st:List T} (h:aE s 3=⟨g,.cells (gh d++st) 0 false⟩):
  bB pE (ae pE) 49 ⟨fr,lh,s⟩ 59 [sv,.isl .S 3 g 0 d.length 2]=some (if ok d=true then(.tup [.agg (jl (lg d) (.isl .L 49 ((ab lh 49).g+1) 0 d.length 2)),.b true],⟨fr,iK lh 49 ⟨(ab lh 49).g+1,.cells (gh d) 0 false⟩,s⟩)else(.tup [.agg (jl Er .nilsl),.b false],⟨fr,lh,s⟩)):=by
 have D:=iC d
 have r:=azn (lh:=lh) h (n:=d.length) (sz:=2) (by rw[List.length_append];omega)
 rw[List.take_append_of_le_length zO,List.take_of_length_le zO]at r
 rw[Wb auu rfl rfl]
 simp only[l7,zI,od hsv,r,Option.bind_some,yO]
 cases O:ok d
 ·rfl
 ·have I:=JQ d
  have Zh:(gh d).length/d.length=2:=by rw[D];exact Nat.mul_div_cancel_left 2 zO
  simp only[if_true]
  unfold tg jl
  have e2:(gh d).length/d.length*d.length=(gh d).length:=by rw[Zh];omega
  simp only[eG,aO,show¬(100:Nat)<100 by decide,if_false,show 100/100-1=0 by decide,show 100%100=0 by decide,List.getElem?_cons_zero,List.set_cons_zero]
  rw[if_pos ⟨I,e2⟩,Zh]
  rfl
def cK:ak→ak
 | .seq _ (.seq _ (.seq (.block _ (.seq _ (.seq _ (.seq _ (.seq _ t))))) _))=>t
 |c=>c
def Cv:ak→ak→ak
 | .seq a (.seq b (.seq (.block i (.seq c (.seq d (.seq e (.seq f _))))) z)),t=> .seq a (.seq b (.seq (.block i (.seq c (.seq d (.seq e (.seq f t))))) z))
 |c,_=>c
def nQ:ak→ak
 | .seq a _=>a
 |c=>c
def mL:ak→ak
 | .seq _ b=>b
 |c=>c
theorem Si:cK bD= .seq (nQ (cK bD)) (.seq (.seq (nQ (nQ (mL (cK bD)))) (mL (nQ (mL (cK bD))))) (.seq (nQ (mL (mL (cK bD)))) (mL (mL (mL (cK bD)))))):=nr rfl
theorem J8{lh:aB ah}{s:List ah}{k:Nat}{w v:T}(r:aE s k=⟨1,.cells [w] 0 true⟩)(hk:kept v=true)(hc:cellsOf v= [v])(D:noTup v=true):Ev.stV lh s (.ptr .S k 1 0) v 1=some (lh,aK s k ⟨1,.cells [v] 0 true⟩):=by
 rw[iL hk r,dD,if_pos ⟨rfl,by rw[hc];rfl,D,Nat.zero_le _,by simp⟩,hc]
 rfl
section
variable(N:Nat)(F:T)(d:List (Int×Bool))(out:List Lg)(f:Nat)(b:Bool)
theorem vs1(JS:d.length≤5)(fr:Fr)(lh:aB ah)(s:List ah)(h0:aa fr 0= .i .i64 (f:Int))(h3:aa fr 3= .ptr .S 1 1 0)(r:aa fr 11= .b b)(X:Vs s F d out):
  ∃Y U,DC pE 80 (nQ (cK bD)) ⟨fr,lh,s⟩=some (.nrm,⟨Y,lh,U⟩)∧Vs U F (d++ [((f:Int),b)]) out:=by
 obtain⟨⟨Z,a0,a1⟩,⟨dv,D,b1⟩,V⟩:=X
 have I:gh (d++ [((f:Int),b)])=gh d++ [.i .i64 (f:Int),.b b]:=by rw[Ac];rfl
 have W:repl [T.i .i64 0,.b false] 1= [.i .i64 0,.b false]:=rfl
 have r1:16≤roomy:=by unfold roomy;omega
 rcases b1 with⟨rfl,rfl,hl⟩|⟨g,st,rfl,b3,hl⟩
 ·have K: ∀e,aE (aK s 3 e) 1=⟨1,.cells [.nilsl] 0 true⟩:=fun e=>by rw[dS,if_neg yv];exact D
  have VH: ∀e,Ev.stV lh (aK s 3 e) (.ptr .S 1 1 0) (.isl .S 3 1 0 1 2) 1=some (lh,aK (aK s 3 e) 1 ⟨1,.cells [.isl .S 3 1 0 1 2] 0 true⟩):=fun e=>J8 (K e) rfl rfl rfl
  have Sd: ∀e,(aK s 3 e).length=4:=fun e=>by rw[←hl,mw,List.length_append,List.length_singleton,hl]
  have Sj: ∀e e2,(aK (aK s 3 e) 1 e2).length=4:=fun e e2=>by rw[bU _ _ _ (by rw[Sd];decide),Sd]
  simp(maxDischargeDepth:=6) only[qA,seval,cK,nQ,bD,h0,h3,r,D,W,Z7,aP,cw,afV,J6,r1,hl,VH]
  rcases a1 with⟨rfl,rfl,_⟩|⟨_,_,_,_,_,h5⟩
  ·exact⟨_,_,rfl,⟨⟨_,by rw[dS,if_neg yv,dS,if_neg yv];exact a0,.inl ⟨rfl,rfl,by rw[Sj];decide⟩⟩,⟨.isl .S 3 1 0 1 2,by rw[dS,if_pos rfl],.inr ⟨1,[],rfl,by rw[dS,if_neg yv,dS,if_pos rfl];rfl,by rw[Sj];decide⟩⟩,by rw[dS,if_neg yv,dS,if_neg yv];exact V⟩⟩
  ·omega
 ·have ee:=iC d
  have r2:(d.length+1)*16≤roomy:=by unfold roomy;omega
  have O:d.length*2≤(gh d++st).length:=by rw[List.length_append];omega
  have Af:(gh d++st).take (d.length*2)=gh d:=by rw[List.take_append_of_le_length zO,List.take_of_length_le zO]
  have K: ∀e,aE (aK s 3 e) 1=⟨1,.cells [.isl .S 3 g 0 d.length 2] 0 true⟩:=fun e=>by rw[dS,if_neg yv];exact D
  have VH: ∀e,Ev.stV lh (aK s 3 e) (.ptr .S 1 1 0) (.isl .S 3 (g+1) 0 (d.length+1) 2) 1=some (lh,aK (aK s 3 e) 1 ⟨1,.cells [.isl .S 3 (g+1) 0 (d.length+1) 2] 0 true⟩):=fun e=>J8 (K e) rfl rfl rfl
  simp(maxDischargeDepth:=6) only[qA,seval,cK,nQ,bD,h0,h3,r,D,b3,W,Z7,aP,cW,Pd,Sh,J7,yt,r2,O,Af,VH]
  have Sj: ∀e e2,(aK (aK s 3 e) 1 e2).length=s.length:=fun e e2=>by rw[bU _ _ _ (by rw[bU _ _ _ zO];omega),bU _ _ _ zO]
  refine⟨_,_,rfl,⟨⟨Z,by rw[dS,if_neg yv,dS,if_neg yv];exact a0, ?_⟩,⟨_,by rw[dS,if_pos rfl],.inr ⟨g+1,[], ?_, ?_,by rw[Sj];exact hl⟩⟩,by rw[dS,if_neg yv,dS,if_neg yv];exact V⟩⟩
  ·rcases a1 with⟨h1,h2,h3⟩|⟨g2,cs,h1,h2,h3,h4⟩
   ·exact .inl ⟨h1,h2,by rw[Sj];exact h3⟩
   ·exact .inr ⟨g2,cs,h1,by rw[dS,if_neg yv,dS,if_neg yv];exact h2,h3,by rw[Sj];exact h4⟩
  ·rw[List.length_append];rfl
  ·rw[dS,if_neg yv,dS,if_pos rfl,I,List.append_nil]
theorem vs2(sv:T)(ok:List (Int×Bool)→Bool)(lg:List (Int×Bool)→Lg)(x:List (Int×Bool))(hx:(lg x).du=x)(h1:1≤x.length)(hsv:froz sv=true)(Z9:cellsOf sv= [sv])(yO:ae pE 59 [sv,.sl (gh x) x.length false] []=some (if ok x=true then .tup [.agg (jl (lg x) (.sl (gh x) x.length false)),.b true]else .tup [.agg (jl Er .nilsl),.b false],[]))
  (fr:Fr) (lh:aB ah) (s:List ah) (h3:aa fr 3= .ptr .S 1 1 0) (h4:aa fr 4= .vp [sv]) (O:Vs s F x out):
  ∃r D,DC pE 80 (nQ (nQ (mL (cK bD)))) ⟨fr,lh,s⟩=some (.nrm,⟨r,D,s⟩)∧aa r 14= .b (ok x)∧(ok x=true→aa r 13= .ptr .L 13 ((ab lh 13).g+1) 0∧ab D 13=⟨(ab lh 13).g+1,.cells (jl (lg x) (.isl .L 49 ((ab lh 49).g+1) 0 x.length 2)) 0 true⟩∧ab D 49=⟨(ab lh 49).g+1,.cells (gh x) 0 false⟩):=by
 obtain⟨⟨V,a0,a1⟩,⟨W,I,U⟩,X⟩:=O
 rcases U with⟨rfl,rfl,hl⟩|⟨g,st,rfl,b3,hl⟩
 ·simp at h1
 ·have hc:=fun fr lh=>Z8 hsv hx h1 yO (fr:=fr) (lh:=lh) b3
  have Y:repl [T.nilsl,.i .i64 0,.i .i64 0,.s [],.s [],.i .i64 0,.i .i64 0] 1= [T.nilsl,.i .i64 0,.i .i64 0,.s [],.s [],.i .i64 0,.i .i64 0]:=rfl
  unfold jl at hc ⊢
  cases K:ok x
  ·simp(maxDischargeDepth:=6) only[qA,seval,cK,nQ,mL,bD,h3,h4,I,hc,K]
   exact⟨_,_,rfl,by simp only[qA,seval],False.elim⟩
  ·simp(maxDischargeDepth:=6) only[qA,seval,cK,nQ,mL,bD,h3,h4,I,hc,K]
   refine⟨_,_,rfl,by simp only[qA,seval],fun _=>⟨by simp only[qA,seval],by simp only[qA,seval],by simp only[qA,seval]⟩⟩
theorem vs3(o:Bool)(l:Lg)(h1:1≤l.du.length)(D I:Nat)(hb:out.length≤1000000000)(fr:Fr)(lh:aB ah)(s:List ah)(h5:aa fr 5= .ptr .S 0 1 0)(U:aa fr 14= .b o)(iN:o=true→aa fr 13= .ptr .L 13 D 0∧ab lh 13=⟨D,.cells (jl l (.isl .L 49 I 0 l.du.length 2)) 0 true⟩∧ab lh 49=⟨I,.cells (gh l.du) 0 false⟩)(x:List (Int×Bool))(hx:1≤x.length)(Y:Vs s F x out):
  ∃O l' Z,DC pE 80 (mL (nQ (mL (cK bD)))) ⟨fr,lh,s⟩=some (.nrm,⟨O,l',Z⟩)∧Vs Z F x (out++if o=true then [l]else []):=by
 cases o
 ·obtain⟨O,e⟩: ∃O,DC pE 80 (mL (nQ (mL (cK bD)))) ⟨fr,lh,s⟩=some (.nrm,⟨O,lh,s⟩):=by
   simp(maxDischargeDepth:=6) only[qA,seval,cK,nQ,mL,bD,U]
   exact⟨_,rfl⟩
  exact⟨_,_,_,e,by simpa using Y⟩
 ·obtain⟨k1,V,k3⟩:=iN rfl
  obtain⟨⟨ov,a0,a1⟩,⟨dv,b0,b1⟩,b2⟩:=Y
  rcases b1 with⟨rfl,rfl,hl⟩|⟨g,st,rfl,b3,hl⟩
  ·simp at hx
  have wg:repl [T.nilsl,.i .i64 0,.i .i64 0,.s [],.s [],.i .i64 0,.i .i64 0] 1= [T.nilsl,.i .i64 0,.i .i64 0,.s [],.s [],.i .i64 0,.i .i64 0]:=rfl
  have JS:=iC l.du
  have K:l.du.length*2≤(gh l.du).length:=zO
  have Af:(gh l.du).take (l.du.length*2)=gh l.du:=List.take_of_length_le zO
  have r1:88≤roomy:=by unfold roomy;omega
  unfold jl at V
  rcases a1 with⟨rfl,rfl,hl3⟩|⟨g2,cs,rfl,a2,a3,a4⟩
  ·have Sd:s.length=4:=zO
   have W: ∀e,aE (aK s 4 e) 0=⟨1,.cells [.nilsl] 0 true⟩:=fun e=>by rw[dS,if_neg yv];exact a0
   have VH: ∀(lh:aB ah) e,Ev.stV lh (aK s 4 e) (.ptr .S 0 1 0) (.isl .S 4 1 0 1 7) 1=some (lh,aK (aK s 4 e) 0 ⟨1,.cells [.isl .S 4 1 0 1 7] 0 true⟩):=fun lh e=>J8 (W e) rfl rfl rfl
   simp(maxDischargeDepth:=6) only[qA,seval,cK,nQ,mL,bD,U,h5,k1,V,k3,a0,wg,K,Af,cF,aP,cw,cX,r1,Sd,VH]
   have r: ∀e e2,(aK (aK s 4 e) 0 e2).length=5:=fun e e2=>by
    have h5:(aK s 4 e).length=5:=by rw[←Sd,mw,List.length_append,List.length_singleton,Sd]
    rw[bU _ _ _ zO,h5]
   exact⟨_,_,_,rfl,⟨⟨.isl .S 4 1 0 1 7,by rw[dS,if_pos rfl],.inr ⟨1,_,rfl,by rw[dS,if_neg yv,dS,if_pos rfl];rfl,aA.one rfl,r _ _⟩⟩,⟨_,by rw[dS,if_neg yv,dS,if_neg yv];exact b0,.inr ⟨g,st,rfl,by rw[dS,if_neg yv,dS,if_neg yv];exact b3,by rw[r];decide⟩⟩,by rw[dS,if_neg yv,dS,if_neg yv];exact b2⟩⟩
  ·have ee:=a3.len LgR.len
   have r2:(out.length+1)*88≤roomy:=by unfold roomy;omega
   have X:out.length*7=cs.length:=zO
   have W: ∀e,aE (aK s 4 e) 0=⟨1,.cells [.isl .S 4 g2 0 out.length 7] 0 true⟩:=fun e=>by rw[dS,if_neg yv];exact a0
   have VH: ∀(lh:aB ah) e,Ev.stV lh (aK s 4 e) (.ptr .S 0 1 0) (.isl .S 4 (g2+1) 0 (out.length+1) 7) 1=some (lh,aK (aK s 4 e) 0 ⟨1,.cells [.isl .S 4 (g2+1) 0 (out.length+1) 7] 0 true⟩):=fun lh e=>J8 (W e) rfl rfl rfl
   simp(maxDischargeDepth:=6) only[qA,seval,cK,nQ,mL,bD,U,h5,k1,V,k3,a0,a2,wg,K,Af,cF,aP,cW,dR,bZ,r2,X,VH]
   have r: ∀e e2,(aK (aK s 4 e) 0 e2).length=5:=fun e e2=>by rw[bU _ _ _ (by rw[bU _ _ _ zO];omega),bU _ _ _ zO,a4]
   exact⟨_,_,_,rfl,⟨⟨.isl .S 4 (g2+1) 0 (out.length+1) 7,by rw[dS,if_pos rfl],.inr ⟨g2+1,_,by rw[List.length_append,List.length_singleton],by rw[dS,if_neg yv,dS,if_pos rfl];rfl,aA.append a3 (aA.one rfl),r _ _⟩⟩,⟨_,by rw[dS,if_neg yv,dS,if_neg yv];exact b0,.inr ⟨g,st,rfl,by rw[dS,if_neg yv,dS,if_neg yv];exact b3,by rw[r];decide⟩⟩,by rw[dS,if_neg yv,dS,if_neg yv];exact b2⟩⟩
theorem vs4(J:Nat→Nat→Bool)(hN:N≤1000)(eE nT sv:T)(hF:F= .fn 58 [] [.vp [eE],.ptr .S 1 1 0,.vp [sv],.ptr .S 0 1 0,.vp [nT],.ptr .S 2 1 0])(r:List (Int×Bool)→Nat→Nat→List Lg)(x:List (Int×Bool))(left:Nat)(hx:x.length<6∨ ∀g,r x g left= [])
  (fO: ∃gT q,(∀kk,dV nT (.i kk (f:Int)) 1=some (.vp (gT::q)))∧IsSl gT (dM N J f).length (ints ((dM N J f).map Int.ofNat))∧(dM N J f).length≤1000∧ ∀g∈dM N J f,g<N)
  (C4:1≤x.length∧x.length≤6) (IH:x.length<6→ ∀g s out,g<N→Vs s F x out→out.length+(r x g left).length≤1000000000→ ∃I,ae pE 58 [.i .i64 (g:Int),.i .i64 (left:Int),.vp [eE],.ptr .S 1 1 0,.vp [sv],.ptr .S 0 1 0,.vp [nT],.ptr .S 2 1 0] s=some (.tup [],I)∧Vs I F x (out++r x g left))
  (hb:out.length+((dM N J f).flatMap fun g=>r x g left).length≤1000000000) (fr:Fr) (lh:aB ah) (s:List ah) (h0:aa fr 0= .i .i64 (f:Int)) (h3:aa fr 3= .ptr .S 1 1 0) (h6:aa fr 6= .vp [nT]) (h7:aa fr 7= .ptr .S 2 1 0) (K:aa fr 12= .i .i64 (left:Int)) (hV:Vs s F x out):
  ∃V l' I,DC pE 80 (nQ (mL (mL (cK bD)))) ⟨fr,lh,s⟩=some (.nrm,⟨V,l',I⟩)∧Vs I F x (out++(dM N J f).flatMap fun g=>r x g left):=by
 obtain⟨dv,b0,b1⟩:=hV.b1
 rcases b1 with⟨rfl,rfl,hl⟩|⟨g,st,rfl,b3,hl⟩
 ·simp at C4
 have dm:lenI (T.isl .S 3 g 0 x.length 2)=some (.i .i64 (x.length:Int)):=rfl
 by_cases W:x.length<6
 ·have O:(x.length:Int)<6:=zO
  obtain⟨gT,q,Z,X,hg1,hg2⟩:=fO
  have aG4:=X.lenI
  simp(maxDischargeDepth:=6) only[qA,seval,cK,nQ,mL,bD,h0,h3,h6,b0,dm,O,Z,aG4]
  generalize hD:DC pE 80 (.loop AK) _=D
  have azp: ∀(fr:Fr) (lh:aB ah),aa fr 7= .ptr .S 2 1 0→aa fr 12= .i .i64 (left:Int)→aa fr 63=gT→aa fr 64= .i .i64 ((dM N J f).length:Int)→aa fr 65= .i .i64 0→Lp pE 80 AK fr lh s (.ext 2) fun V l I=>Vs I F x (out++(dM N J f).flatMap fun g=>r x g left):=by
   intro fr lh h7 K yB Cw yN
   generalize dM N J f=gs at*
   refine bV aaa (fun k V l I=>aa V 65= .i .i64 (k:Int)∧Vs I F x (out++(gs.take k).flatMap fun g=>r x g left)) gs.length ⟨yN,by simpa using hV⟩ ?_ ?_
   ·rintro k V l I hk pr ⟨U,Y⟩
    have aN:(k:Int)<gs.length:=zO
    have hw:=aI (k:=k) zO
    have Z:=fun kk=>X.ia (sz:=1) (k:=k) (kk:=kk) (by rw[cD,List.length_map];omega) hk
    have hd:(ints (gs.map Int.ofNat)).drop (k*1)= .i .i64 (gs[k]:Int)::(ints (gs.map Int.ofNat)).drop (k+1):=by
     rw[Nat.mul_one,List.drop_eq_getElem_cons (by simpa[ints]using hk)]
     simp[ints]
    rw[hd]at Z
    have qU:(gs.take (k+1)).flatMap (fun g=>r x g left)=(gs.take k).flatMap (fun g=>r x g left)++r x gs[k] left:=by
     rw[List.take_succ_eq_append_getElem hk,List.flatMap_append]
     simp
    have hle:(out++(gs.take k).flatMap fun g=>r x g left).length+(r x gs[k] left).length≤1000000000:=by
     have h1:(gs.flatMap fun g=>r x g left).length=((gs.take (k+1)).flatMap fun g=>r x g left).length+((gs.drop (k+1)).flatMap fun g=>r x g left).length:=by
      rw[←List.length_append,←List.flatMap_append,List.take_append_drop]
     rw[qU,List.length_append]at h1
     rw[List.length_append]
     omega
    obtain⟨s2,e2,Ai⟩:=IH W gs[k] I _ (hg2 _ (List.getElem_mem hk)) Y hle
    have nN:=Y.b2
    rw[List.append_assoc,←qU]at Ai
    subst hF
    simp(maxDischargeDepth:=6) only[qA,dL,seval,gd,AK,pr,h7,K,yB,Cw,U,aN,hw,Z,nN,e2,aut]
    exact Ai
   ·rintro V l I pr ⟨U,Y⟩
    rw[List.take_length]at Y
    simp only[qA,seval,gd,AK,pr,Cw,U,Int.lt_irrefl]
    exact Y
  obtain⟨f3,l3,s3,rfl,hV3,CX⟩:=sZ aaa hD (azp _ _ (by simp only[qA,seval,h7]) (by simp only[qA,seval,K]) wL wL wL)
  simp(maxDischargeDepth:=6) only[qA,seval]
  exact⟨_,_,_,rfl,hV3⟩
 ·have O: ¬(x.length:Int)<6:=zO
  have gq:((dM N J f).flatMap fun g=>r x g left)= []:=by
   rcases hx with h|h
   ·exact absurd h W
   ·simp[h]
  rw[gq,List.append_nil]
  simp(maxDischargeDepth:=6) only[qA,seval,cK,nQ,mL,bD,h3,b0,dm,O]
  exact⟨_,_,_,rfl,hV⟩
theorem vs5(k:Int×Bool)(JS:d.length≤6)(fr:Fr)(lh:aB ah)(s:List ah)(h3:aa fr 3= .ptr .S 1 1 0)(K:Vs s F (d++ [k]) out):
  ∃O U I,DC pE 80 (mL (mL (mL (cK bD)))) ⟨fr,lh,s⟩=some (.nrm,⟨O,U,I⟩)∧Vs I F d out:=by
 obtain⟨⟨V,a0,a1⟩,⟨dv,r,W⟩,X⟩:=K
 rcases W with⟨rfl,h,hl⟩|⟨g,st,rfl,b3,hl⟩
 ·simp at h
 rw[List.length_append,List.length_singleton]at r
 have Y:lenI (T.isl .S 3 g 0 (d.length+1) 2)=some (.i .i64 ((d.length+1:Nat):Int)):=rfl
 have D:lF (T.isl .S 3 g 0 (d.length+1) 2)=some (d.length+1):=rfl
 have Z:wr .i64 (((d.length+1:Nat):Int)-1)=(d.length:Int):=by rw[bo zO];omega
 have A3:tu 2 (.isl .S 3 g 0 (d.length+1) 2) 0 d.length=some (.isl .S 3 g 0 d.length 2):=by
  unfold tu
  simp only
  rw[if_pos ⟨Nat.zero_le _,by omega,trivial⟩]
  by_cases h:0=d.length
  ·rw[if_pos h,←h];rfl
  ·rw[if_neg h];rfl
 have VH: ∀(lh:aB ah),Ev.stV lh s (.ptr .S 1 1 0) (.isl .S 3 g 0 d.length 2) 1=some (lh,aK s 1 ⟨1,.cells [.isl .S 3 g 0 d.length 2] 0 true⟩):=fun lh=>J8 r rfl rfl rfl
 have Sd: ∀e,(aK s 1 e).length=s.length:=fun e=>bU _ _ _ zO
 simp(maxDischargeDepth:=6) only[qA,seval,cK,mL,bD,h3,r,Y,D,Z,A3,VH]
 refine⟨_,_,_,rfl,⟨⟨V,by rw[dS,if_neg yv];exact a0, ?_⟩,⟨_,by rw[dS,if_pos rfl],.inr ⟨g,.i .i64 k.1:: .b k.2::st,rfl, ?_,by rw[Sd];exact hl⟩⟩,by rw[dS,if_neg yv];exact X⟩⟩
 ·rcases a1 with⟨h1,h2,h3⟩|⟨g2,cs,h1,h2,h3,h4⟩
  ·exact .inl ⟨h1,h2,by rw[Sd];exact h3⟩
  ·exact .inr ⟨g2,cs,h1,by rw[dS,if_neg yv];exact h2,h3,by rw[Sd];exact h4⟩
 ·rw[dS,if_neg yv,b3,Ac,List.append_assoc];rfl
end
theorem J9{E:Env}{n:Nat}{a:ak}{fr:Fr}{lh:aB ah}{sh:List ah}{D:Option (Out×St)}(r:DC E n a ⟨fr,lh,sh⟩=D){P:Fr→aB ah→List ah→Prop}(h: ∃f l s,DC E n a ⟨fr,lh,sh⟩=some (.nrm,⟨f,l,s⟩)∧P f l s):
  ∃f l s,D=some (.nrm,⟨f,l,s⟩)∧P f l s∧DC E n a ⟨fr,lh,sh⟩=some (.nrm,⟨f,l,s⟩):=by
 obtain⟨f,l,s,e,p⟩:=h
 exact⟨f,l,s,r.symm.trans e,p,e⟩
section
variable(N:Nat)(J:Nat→Nat→Bool)(aH:Nat→Bool)(ok:List (Int×Bool)→Bool)(lg:List (Int×Bool)→Lg)(hN:N≤1000)(eE nT sv F:T)
 (hF:F= .fn 58 [] [.vp [eE],.ptr .S 1 1 0,.vp [sv],.ptr .S 0 1 0,.vp [nT],.ptr .S 2 1 0])
 (eK: ∀f,f<N→ ∃q,∀kk,dV eE (.i kk (f:Int)) 1=some (.vp (.b (aH f)::q)))
 (fO: ∀f,f<N→ ∃gT q,(∀kk,dV nT (.i kk (f:Int)) 1=some (.vp (gT::q)))∧IsSl gT (dM N J f).length (ints ((dM N J f).map Int.ofNat))∧(dM N J f).length≤1000∧ ∀g∈dM N J f,g<N)
 (hsv:froz sv=true) (Z9:cellsOf sv= [sv]) (MF: ∀x,(lg x).du=x)
 (yO: ∀x,1≤x.length→x.length≤6→(∀k∈x,sW N k.1=true)→ae pE 59 [sv,.sl (gh x) x.length false] []=some (if ok x=true then .tup [.agg (jl (lg x) (.sl (gh x) x.length false)),.b true]else .tup [.agg (jl Er .nilsl),.b false],[]))
include hN hF eK fO hsv Z9 MF yO
def anx(N:Nat)(J:Nat→Nat→Bool)(aH:Nat→Bool)(ok:List (Int×Bool)→Bool)(lg:List (Int×Bool)→Lg)(eE nT sv F:T)(n:Nat):Prop:=
 ∀(d:List (Int×Bool)) (f h:Nat) (s:List ah) (out:List Lg),d.length+n=6→d.length<6→(∀k∈d,sW N k.1=true)→f<N→h≤6→Vs s F d out→out.length+(dF N J aH ok lg n d f h).length≤1000000000→
  ∃r,ae pE 58 [.i .i64 (f:Int),.i .i64 (h:Int),.vp [eE],.ptr .S 1 1 0,.vp [sv],.ptr .S 0 1 0,.vp [nT],.ptr .S 2 1 0] s=some (.tup [],r)∧Vs r F d (out++dF N J aH ok lg n d f h)
theorem azq(n:Nat)(IH:anx N J aH ok lg eE nT sv F n)(d:List (Int×Bool))(f left:Nat)(b:Bool)(out:List Lg)(hd:d.length+n=5)(Zh: ∀k∈d,sW N k.1=true)(hf:f<N)(hh:left≤6)(V:out.length+(qt N J ok lg (dF N J aH ok lg n) (d++ [((f:Int),b)]) f left).length≤1000000000)
  (fr:Fr) (lh:aB ah) (s:List ah) (h0:aa fr 0= .i .i64 (f:Int)) (h3:aa fr 3= .ptr .S 1 1 0) (h4:aa fr 4= .vp [sv]) (h5:aa fr 5= .ptr .S 0 1 0) (h6:aa fr 6= .vp [nT]) (h7:aa fr 7= .ptr .S 2 1 0) (X:aa fr 11= .b b) (Y:aa fr 12= .i .i64 (left:Int)) (Z:Vs s F d out):
  ∃f' l' s',DC pE 80 (cK bD) ⟨fr,lh,s⟩=some (.nrm,⟨f',l',s'⟩)∧Vs s' F d (out++qt N J ok lg (dF N J aH ok lg n) (d++ [((f:Int),b)]) f left):=by
 have _:=eK
 have hxl:(d++ [((f:Int),b)]).length=d.length+1:=by rw[List.length_append];rfl
 have K: ∀k∈d++ [((f:Int),b)],sW N k.1=true:=fun k hk=>by
  rcases List.mem_append.1 hk with hk|hk
  ·exact Zh k hk
  ·rw[List.mem_singleton.1 hk];unfold sW;simpa using hf
 generalize hx:d++ [((f:Int),b)]=x at*
 unfold qt at V ⊢
 rw[List.length_append]at V
 obtain⟨f1,s1,e1,D⟩:=vs1 F d out f b zO fr lh s h0 h3 X Z
 rw[hx]at D
 have W:=fun j I=>dY e1 j I
 obtain⟨f2,l2,e2,k14,k13⟩:=vs2 F out sv ok lg x (MF x) zO hsv Z9 (yO x zO zO K) f1 lh s1 ((W 3 yv).trans h3) ((W 4 yv).trans h4) D
 have p2:=fun j I=>dY e2 j I
 obtain⟨f3,l3,s3,e3,hV3⟩:=vs3 F out (ok x) (lg x) (by rw[MF];omega) _ _ zO f2 l2 s1 ((p2 5 yv).trans ((W 5 yv).trans h5)) k14 (by rw[MF];exact k13) x zO D
 have p3:=fun j I=>dY e3 j I
 have r: ∀j v,(jh (nQ (cK bD))).contains j=false→(jh (nQ (nQ (mL (cK bD))))).contains j=false→(jh (mL (nQ (mL (cK bD))))).contains j=false→aa fr j=v→aa f3 j=v:=fun j v a1 a2 a3 e=>(p3 j a3).trans ((p2 j a2).trans ((W j a1).trans e))
 obtain⟨f4,l4,s4,e4,O⟩:=vs4 N F (out++if ok x=true then [lg x]else []) f J hN eE nT sv hF (dF N J aH ok lg n) x left (by
   by_cases h:x.length<6
   ·exact .inl h
   ·have:n=0:=zO
    subst this
    exact .inr fun g=>rfl) (fO f hf) ⟨by omega,by omega⟩ (fun h6 g s out hg Z V=>IH x g left s out zO h6 K hg hh Z V) (by rw[List.length_append];omega) f3 l3 s3 (r 0 _ yv yv yv h0) (r 3 _ yv yv yv h3) (r 6 _ yv yv yv h6) (r 7 _ yv yv yv h7) (r 12 _ yv yv yv Y) hV3
 have p4:=fun j I=>dY e4 j I
 rw[←hx]at O
 obtain⟨f5,l5,s5,e5,U⟩:=vs5 F d _ ((f:Int),b) zO f4 l4 s4 ((p4 3 yv).trans (r 3 _ yv yv yv h3)) O
 rw[hx,List.append_assoc]at U
 refine⟨f5,l5,s5, ?_,U⟩
 rw[Si,qP,e1,fQ,qP,qP,e2,fQ,e3,fQ,qP,e4,fQ,e5]
theorem azr(n:Nat)(IH:anx N J aH ok lg eE nT sv F n)(d:List (Int×Bool))(f h:Nat)(out:List Lg)(hd:d.length+(n+1)=6)(Zh: ∀k∈d,sW N k.1=true)(hf:f<N)(hh:h≤6)(Y:out.length+(dF N J aH ok lg (n+1) d f h).length≤1000000000)
  (fr:Fr) (lh:aB ah) (s:List ah) (h0:aa fr 0= .i .i64 (f:Int)) (h1:aa fr 1= .i .i64 (h:Int)) (h2:aa fr 2= .vp [eE]) (h3:aa fr 3= .ptr .S 1 1 0) (h4:aa fr 4= .vp [sv]) (h5:aa fr 5= .ptr .S 0 1 0) (h6:aa fr 6= .vp [nT]) (h7:aa fr 7= .ptr .S 2 1 0) (j4:aa fr 17= .sl [.b false,.b true] 2 true) (fq:aa fr 18= .i .i64 2) (sj:aa fr 19= .i .i64 0) (hV:Vs s F d out):
  Lp pE 80 bD fr lh s (.ext 0) fun Z l' K=>Vs K F d (out++dF N J aH ok lg (n+1) d f h):=by
 obtain⟨q,aQ⟩:=eK f hf
 have ht:=fun b left out=>azq N J aH ok lg hN eE nT sv F hF eK fO hsv Z9 MF yO n IH d f left b out zO Zh hf
 have hwt:bD=Cv bD (cK bD):=nr rfl
 have hwr: ∀j,(jh (cK bD)).contains j=false→ ∀(fr bE:Fr) lh s l' K,DC pE 80 (cK bD) ⟨fr,lh,s⟩=some (.nrm,⟨bE,l',K⟩)→aa bE j=aa fr j:=fun j hj fr bE lh s l' K e=>dY e j hj
 have azt:=hwr 19 yv
 refine bV aab (fun k Z l K=>aa Z 19= .i .i64 (k:Int)∧Vs K F d (out++if k=0 then []else if k=1 then(if aH f=true then qt N J ok lg (dF N J aH ok lg n) (d++ [((f:Int),false)]) f h else [])else dF N J aH ok lg (n+1) d f h)) 2 ⟨sj,by simpa using hV⟩ ?_ ?_
 ·rintro k Z l K hk r ⟨I,O⟩
  have hc:k=0∨k=1:=zO
  rcases hc with rfl|rfl
  ·have U:aa Z 19= .i .i64 0:=I
   have Vw: ¬(h:Int)<0:=zO
   rw[if_pos rfl,List.append_nil]at O
   rw[if_neg yv,if_pos rfl]
   rw[dF,List.length_append]at Y
   rw[hwt]
   have hx0: ∀kk,dV (.sl [.b false,.b true] 2 true) (.i kk 0) 1=some (.vp [.b false,.b true]):=fun _=>rfl
   cases hi:aH f
   ·rw[hi]at aQ
    generalize cK bD=X at*
    simp(maxDischargeDepth:=6) only[qA,seval,gd,bD,Cv,r,h0,h1,h2,j4,fq,U,aQ,Vw,hx0]
    exact O
   ·rw[hi]at aQ
    rw[hi,if_pos rfl]at Y
    have V:=ht false h out hh zO
    generalize cK bD=X at*
    simp(maxDischargeDepth:=6) only[qA,seval,bD,Cv,r,h0,h1,h2,j4,fq,U,aQ,Vw,hx0]
    generalize hD:DC pE 80 X _=D
    obtain⟨f2,l2,s2,rfl,Ai,e2⟩:=J9 hD (V _ _ _ (by simp only[qA,seval,r,h0]) (by simp only[qA,seval,r,h3]) (by simp only[qA,seval,r,h4]) (by simp only[qA,seval,r,h5]) (by simp only[qA,seval,r,h6]) (by simp only[qA,seval,r,h7]) wL wL O)
    have g2:aa f2 19= .i .i64 0:=by rw[azt _ _ _ _ _ _ e2];simp only[qA,seval,U]
    simp(maxDischargeDepth:=6) only[qA,seval,gd,g2]
    exact Ai
  ·have W:aa Z 19= .i .i64 1:=I
   rw[if_neg yv,if_pos rfl]at O
   rw[if_neg yv,if_neg yv]
   rw[hwt]
   have C4: ∀kk,dV (.sl [.b false,.b true] 2 true) (.i kk 1) 1=some (.vp [.b true]):=fun _=>rfl
   rw[dF]at Y ⊢
   generalize hA:(if aH f=true then qt N J ok lg (dF N J aH ok lg n) (d++ [((f:Int),false)]) f h else [])=A at*
   rw[List.length_append]at Y
   by_cases hz:h=0
   ·subst hz
    have h10:aa fr 1= .i .i64 0:=h1
    generalize cK bD=X at*
    simp(maxDischargeDepth:=6) only[qA,seval,gd,bD,Cv,r,h10,j4,fq,W,C4]
    exact O
   ·obtain⟨m,rfl⟩: ∃m,h=m+1:=⟨h-1,by omega⟩
    rw[if_neg hz]at Y ⊢
    rw[Nat.add_sub_cancel]at Y ⊢
    have hwp:wr .i64 (((m+1:Nat):Int)-1)=(m:Int):=by rw[bo zO];omega
    have Vw: ¬(m:Int)<0:=zO
    have V:=ht true m (out++A) zO (by rw[List.length_append];omega)
    generalize cK bD=X at*
    simp(maxDischargeDepth:=6) only[qA,seval,bD,Cv,r,h1,j4,fq,W,Vw,C4,hwp]
    generalize hD:DC pE 80 X _=D
    obtain⟨f2,l2,s2,rfl,Ai,e2⟩:=J9 hD (V _ _ _ (by simp only[qA,seval,r,h0]) (by simp only[qA,seval,r,h3]) (by simp only[qA,seval,r,h4]) (by simp only[qA,seval,r,h5]) (by simp only[qA,seval,r,h6]) (by simp only[qA,seval,r,h7]) wL wL O)
    have g2:aa f2 19= .i .i64 1:=by rw[azt _ _ _ _ _ _ e2];simp only[qA,seval,W]
    rw[List.append_assoc]at Ai
    simp(maxDischargeDepth:=6) only[qA,seval,gd,g2]
    exact Ai
 ·rintro Z l K r ⟨I,O⟩
  simp only[qA,seval,gd,bD,r,fq,I,Int.lt_irrefl]
  simpa using O
theorem Ka: ∀n,anx N J aH ok lg eE nT sv F n
 |0=>fun d f h s out I r=>by omega
 |n+1=>by
  have IH:=Ka n
  intro d f h s out I r Zh K O U V
  have hL:=fun fr lh=>azr N J aH ok lg hN eE nT sv F hF eK fO hsv Z9 MF yO n IH d f h out I Zh K O V fr lh s
  have W:repl [T.b false] 2= [.b false,.b false]:=rfl
  rw[an aus (by simp[c58])]
  simp(maxDischargeDepth:=6) only[qA,seval,c58,W]
  generalize X:DC pE 80 (.loop bD) _=D
  obtain⟨Y,Z,s2,rfl,Ai,iH⟩:=sZ aab X (hL _ _ wL wL wL wL wL wL wL wL wL wL wL U)
  refine⟨s2, ?_,Ai⟩
  simp(maxDischargeDepth:=6) only[qA,seval]
  rfl
end
end Go.Proofs.YtcpceiclnbmgiaaGreat
