/- Walks of functions of the program and of the reference, and their plain laws, part 17. Conditions: the theorems' own. -/
import Derived.Test.YtnkgnjecmfkcfaaGreatGS
import Derived.Test.YtnkgnjecmfkcfaaGreatM14
import Derived.Test.YtnkgnjecmfkcfaaGreatM15
import Derived.Test.YtnkgnjecmfkcfaaGreatM16
import Derived.KernelRfl
set_option maxRecDepth 100000
set_option linter.unusedSimpArgs false
set_option linter.unusedVariables false
set_option maxHeartbeats 16000000
namespace Go.Proofs.YtnkgnjecmfkcfaaGreat
open Go Go.Ev
theorem J2{α:Type}{s:List ah}{nx m:Nat}(f g:α→T): ∀(l:List α),(∀a∈l,∃us,∀r:Sp→Nat→ah,(∀k,r .S k=aI s k)→(fz false m (f a)).run r nx=some (g a,us))→ ∃us,∀r:Sp→Nat→ah,(∀k,r .S k=aI s k)→(bh (fz false m) (l.map f)).run r nx=some (l.map g,us)
 | [],_=>⟨[],fun _ _=>rfl⟩
 |a::l,h=>by
  obtain⟨I,e1⟩:=h a List.mem_cons_self
  obtain⟨K,e2⟩:=J2 f g l fun b O=>h b (List.mem_cons_of_mem _ O)
  refine⟨I++K,fun r D=> ?_⟩
  simp only[List.map_cons,bh,bt,e1 r D,e2 r D,Option.bind_some,Q.run]
structure Tb (s:List ah) (kw N H:Nat) (w:Nat→Nat→Int):Prop where
 n:aI s kw=⟨1,.cells ((List.range N).map fun i=> .isl .S (kw+1+i) 1 0 (H+1) 1) 0 true⟩
 r: ∀i,i<N→aI s (kw+1+i)=⟨1,.cells (eV (H+1) (w i)) 0 false⟩
theorem Tb.fz{s:List ah}{D N H:Nat}{w:Nat→Nat→Int}(h:Tb s D N H w): ∃us,∀lh,fzV lh s false (.isl .S D 1 0 N 1)=some (Zv N H w,us):=by
 obtain⟨us,e⟩:=J2 (s:=s) (nx:=s.length) (m:=7) (fun i=>T.isl .S (D+1+i) 1 0 (H+1) 1) (fun i=>RZ H (w i)) (List.range N) fun i hi=>by
  have hi:=List.mem_range.1 hi
  refine⟨[(.S,D+1+i,⟨1,.cells (eV (H+1) (w i)) (eV (H+1) (w i)).length false⟩)],fun O K=> ?_⟩
  unfold Ev.fz
  simp only[Bool.false_and,Bool.false_eq_true,if_false,Q.run,K,h.r i hi,if_true]
  rw[if_pos (by rw[nY];omega)]
  simp only[Q.run]
  rw[List.drop_zero,Nat.mul_one,List.take_of_length_le (by rw[nY];omega)]
  rfl
 refine⟨us++ [(.S,D,⟨1,.cells ((List.range N).map fun i=> .isl .S (D+1+i) 1 0 (H+1) 1) ((List.range N).map fun i=>T.isl .S (D+1+i) 1 0 (H+1) 1).length true⟩)],fun lh=> ?_⟩
 have I: ∀k,(St.mk .nil lh s).get .S k=aI s k:=fun _=>rfl
 unfold fzV aJ Ev.fz
 simp only[Bool.false_and,Bool.false_eq_true,if_false,Q.run,I,h.n,if_true]
 rw[if_pos xv,List.drop_zero,Nat.mul_one,List.take_of_length_le xv,bt,e _ I]
 rfl
theorem amn{s:List ah}{r N:Nat}(h:aI s r=⟨1,.cells (List.replicate N .nilsl) 0 true⟩): ∃us,∀lh,fzV lh s false (.isl .S r 1 0 N 1)=some (.sl (List.replicate N .nilsl) N false,us):=by
 have e: ∀(n:Nat) (D:Sp→Nat→ah) (nx:Nat),(bh (Ev.fz false 7) (List.replicate n .nilsl)).run D nx=some (List.replicate n .nilsl,[]):=by
  intro n D nx
  induction n with
  |zero=>rfl
  |succ n ih=>
   simp only[List.replicate_succ,bh,bt,ih]
   rfl
 refine⟨[]++ [(.S,r,⟨1,.cells (List.replicate N .nilsl) (List.replicate N T.nilsl).length true⟩)],fun lh=> ?_⟩
 have I: ∀k,(St.mk .nil lh s).get .S k=aI s k:=fun _=>rfl
 unfold fzV aJ Ev.fz
 simp only[Bool.false_and,Bool.false_eq_true,if_false,Q.run,I,h,if_true]
 rw[if_pos xv,List.drop_zero,Nat.mul_one,List.take_of_length_le xv,bt,e]
 rfl
def zF(B H N i:Nat):List T:=(List.range N).map fun j=>if j<i then .isl .S (B+1+j) 1 0 (H+1) 1 else .nilsl
theorem Gl(B H N i:Nat):(zF B H N i).length=N:=by simp[zF]
theorem aeQ(B H N i:Nat)(hi:i<N):splice (zF B H N i) i [.isl .S (B+1+i) 1 0 (H+1) 1]=zF B H N (i+1):=by
 rw[po _ _ _ (by rw[Gl];exact hi)]
 refine List.ext_getElem (by simp[zF]) fun j h1 h2=> ?_
 rw[List.getElem_set]
 simp only[zF,List.getElem_map,List.getElem_range]
 by_cases e:i=j
 ·subst e;simp
 ·rw[if_neg e]
  by_cases e2:j<i
  ·rw[if_pos e2,if_pos yv]
  ·rw[if_neg e2,if_neg yv]
theorem aeR(B H N i:Nat)(hi:i<N):(zF B H N (i+1))[i]? =some (.isl .S (B+1+i) 1 0 (H+1) 1):=by
 unfold zF
 rw[List.getElem?_map,List.getElem?_range hi]
 simp
section
variable(N H:Nat)(hN:N≤1000)(hH:H≤6)(OO nT:T)(cg:Nat→Bool)(nx:Nat→List Nat)(iD: ∀f,f<N→ ∃q,∀kk,iaV OO (.i kk (f:Int)) 1=some (.vp (.b (cg f)::q)))(iw: ∀f,f<N→ ∃q,∀kk,iaV nT (.i kk (f:Int)) 1=some (.vp (qd (nx f)::q)))
include hN hH iD iw
theorem rc2(B:Nat)(W:T)(C:Nat→Nat→Nat)(r:Int)(Eo: ∀i h,i<N→h≤H→ae pE 66 [W,qd (nx i),.i .i64 r,.i .i64 (h:Int)] []=some (.i .i64 (il (C i h)),[]))(X:Nat)(T0:Nat)(O:List ah)(Y: ∀s,(∀k,k<B→aI s k=aI O k)→ ∃us,∀lh,fzV lh s false (.isl .S X 1 0 N 1)=some (W,us))
  (fr:Fr) (lh:aD ah) (h3:aa fr 3= .i .i64 (H:Int)) (Z:aa fr 11=OO) (ig:aa fr 13=nT) (cZ:aa fr 14= .i .i64 (N:Int)) (kY:aa fr 15= .isl .S X 1 0 N 1) (kD:aa fr 16= .i .i64 (il T0)) (j4:aa fr 17= .i .i64 r) (fk:aa fr 18= .isl .S B 1 0 N 1) (Bu:aa fr 19= .i .i64 0) (hB:aI O B=⟨1,.cells (zF B H N 0) 0 true⟩) (hlen:O.length=B+1):
  Lp pE 134 wq fr lh O (.ext 2) fun f l s=>l=lh∧s.length=B+1+N∧Tb s B N H (fun i h=>il (nl (cg i) (C i) h))∧(∀k,k<B→aI s k=aI O k)∧aa f 16= .i .i64 (il (T0+Sm N fun i=>Sm (H+1) (nl (cg i) (C i)))):=by
 refine cV Hm (fun i f l s=>aa f 19= .i .i64 (i:Int)∧l=lh∧s.length=B+1+i∧aI s B=⟨1,.cells (zF B H N i) 0 true⟩∧(∀j,j<i→aI s (B+1+j)=⟨1,.cells (eV (H+1) fun h=>il (nl (cg j) (C j) h)) 0 false⟩)∧(∀k,k<B→aI s k=aI O k)∧aa f 16= .i .i64 (il (T0+Sm i fun i=>Sm (H+1) (nl (cg i) (C i))))) N ⟨Bu,rfl,by omega,hB,fun j hj=>absurd hj (Nat.not_lt_zero j),fun _ _=>rfl,kD⟩ ?_ ?_
 ·rintro i f l s hi K ⟨I,rfl,U,hb,hr,V,zy⟩
  have Cy:(i:Int)<(N:Int):=yv
  have hw:=aG (k:=i) yv
  have hw2:wr .i64 ((H:Int)+1)=((H+1:Nat):Int):=by rw[bj yv];omega
  obtain⟨q1,z1⟩:=iD i hi
  obtain⟨q2,z2⟩:=iw i hi
  have He:i+1≤N:=hi
  have hcl:=Gl B H N i
  have fG:=aeQ B H N i hi
  have Mw:repl [T.i .i64 0] (H+1)=eV (H+1) fun _=>0:=by
   generalize H+1=n
   induction n with
   |zero=>rfl
   |succ n ih=>
    rw[repl,ih]
    unfold eV
    rw[List.range_succ_eq_map,List.map_cons,List.map_map]
    rfl
  have r1:(H+1)*8≤roomy:=by unfold roomy;omega
  have r2:H+1≤roomy:=by unfold roomy;omega
  have hsB: ∀e,aI (s++ [e]) B=⟨1,.cells (zF B H N i) 0 true⟩:=fun e=>by rw[rS yv];exact hb
  have hsv: ∀e,Ev.stV l (s++ [e]) (.ptr .S B 1 i) (.isl .S (B+1+i) 1 0 (H+1) 1) 1=some (l,bI (s++ [e]) B ⟨1,.cells (zF B H N (i+1)) 0 true⟩):=fun e=>by
   rw[iU (by rfl) (hsB e),dY,if_pos ⟨rfl,rfl,rfl,Nat.zero_le _,by omega⟩]
   show some (l,bI _ B ⟨1,.cells (splice (zF B H N i) i [.isl .S (B+1+i) 1 0 (H+1) 1]) 0 true⟩)=_
   rw[fG]
  simp(maxDischargeDepth:=6) only[qA,seval,wq,K,h3,cZ,fk,I,Cy,hi,hw2,vM,r1,r2,Mw,U,aen,hsv]
  have gs: ∀j,j<B+1+i→j≠B→aI (bI (s++ [⟨1,.cells (eV (H+1) fun _=>0) 0 false⟩]) B ⟨1,.cells (zF B H N (i+1)) 0 true⟩) j=aI s j:=fun j hj hjB=>by rw[gse,if_neg hjB,rS yv]
  have gB:aI (bI (s++ [⟨1,.cells (eV (H+1) fun _=>0) 0 false⟩]) B ⟨1,.cells (zF B H N (i+1)) 0 true⟩) B=⟨1,.cells (zF B H N (i+1)) 0 true⟩:=by rw[gse,if_pos rfl]
  have gP:aI (bI (s++ [⟨1,.cells (eV (H+1) fun _=>0) 0 false⟩]) B ⟨1,.cells (zF B H N (i+1)) 0 true⟩) (B+1+i)=⟨1,.cells (eV (H+1) fun _=>0) 0 false⟩:=by rw[gse,if_neg yv,←U];exact Eh (k:=0)
  have l2:(bI (s++ [⟨1,.cells (eV (H+1) fun _=>0) 0 false⟩]) B ⟨1,.cells (zF B H N (i+1)) 0 true⟩).length=B+1+i+1:=by rw[jR _ _ _ (by rw[List.length_append];omega),List.length_append,U];rfl
  generalize bI (s++ [⟨1,.cells (eV (H+1) fun _=>0) 0 false⟩]) B ⟨1,.cells (zF B H N (i+1)) 0 true⟩=s2 at*
  generalize hD:DC pE 134 (.loop om) _=D
  obtain⟨f3,l3,s3,rfl,⟨rfl,hl3,hP3,Mv,t16⟩,Gm⟩:=yq Hl hD (rc1 N H i hi hN hH B (B+1+i) rfl OO nT (qd (nx i)) W (cg i) q1 q2 z1 z2 (by unfold qd;split <;> rfl) (C i) r (fun u=>Eo i u hi) (zF B H N (i+1)) (aeR B H N i hi) (Gl _ _ _ _) X (T0+Sm i fun i=>Sm (H+1) (nl (cg i) (C i))) _ (fun s' Lw=>Y s' fun k hk=>(Lw k hk).trans ((gs k yv yv).trans (V k hk))) _ _ (by simp only[qA,seval,K,h3]) (by simp only[qA,seval,K,Z]) (by simp only[qA,seval,K,ig]) (by simp only[qA,seval,K,kY]) (by simp only[qA,seval,zy]) (by simp only[qA,seval,K,j4]) (by simp only[qA,seval,K,fk]) (by simp only[qA,seval,I]) wW gB gP yv)
  have f19:aa f3 19= .i .i64 (i:Int):=by rw[Gm 19 xW];simp only[qA,seval,I]
  simp(maxDischargeDepth:=6) only[qA,seval,gd,f19,hw,t16]
  refine⟨by omega,(Mv B yv).trans gB,fun j hj=> ?_,fun k hk=>(Mv k yv).trans ((gs k yv yv).trans (V k hk)), ?_⟩
  ·by_cases e:j=i
   ·subst e;exact hP3
   ·rw[Mv _ yv,gs _ yv yv,hr j yv]
  ·rw[Nat.add_assoc];rfl
 ·rintro f l s K ⟨I,rfl,U,hb,hr,V,zy⟩
  simp only[qA,seval,gd,wq,K,cZ,I,Int.lt_irrefl]
  have e:zF B H N N=(List.range N).map fun i=> .isl .S (B+1+i) 1 0 (H+1) 1:=by
   unfold zF
   refine List.map_congr_left fun g hg=> ?_
   rw[if_pos (List.mem_range.1 hg)]
  exact⟨U,⟨by rw[hb,e],hr⟩,V,zy⟩
omit hN hH iD iw in
theorem Zz(B:Nat):zF B H N 0=List.replicate N .nilsl:=by
 unfold zF
 refine List.eq_replicate_iff.2 ⟨by simp,fun b r=> ?_⟩
 obtain⟨j,_,rfl⟩:=List.mem_map.1 r
 simp
omit hN hH iD iw in
theorem J3(n:Nat):repl [T.nilsl] n=List.replicate n .nilsl:=by
 induction n with
 |zero=>rfl
 |succ n ih=>rw[repl,ih,List.replicate_succ];rfl
theorem rc3(J:Nat→Nat→Bool)(hJ:nx=j5 N J)(fr:Fr)(lh:aD ah)(s0:List ah)(h3:aa fr 3= .i .i64 (H:Int))(Z:aa fr 11=OO)(ig:aa fr 13=nT)(cZ:aa fr 14= .i .i64 (N:Int))(kY:aa fr 15= .isl .S 0 1 0 N 1)(kD:aa fr 16= .i .i64 0)(j4:aa fr 17= .i .i64 1)(V:s0= [⟨1,.cells (List.replicate N .nilsl) 0 true⟩]):
  Lp pE 134 wu fr lh s0 (.ext 0) fun f l s=>aa f 16= .i .i64 (il (yO N H (cB N J cg) 6)):=by
 subst hJ
 refine cV Hn (fun k f l s=>aa f 17= .i .i64 ((k+1:Nat):Int)∧aa f 16= .i .i64 (il (yO N H (cB N J cg) k))∧ ∃I,aa f 15= .isl .S I 1 0 N 1∧((k=0∧aI s I=⟨1,.cells (List.replicate N .nilsl) 0 true⟩∧I+1≤s.length)∨(k≠0∧Tb s I N H (fun i h=>il (cB N J cg k i h))∧I+N+1≤s.length))) 6 ⟨j4,kD,0,kY,.inl ⟨rfl,by rw[V];rfl,by rw[V];exact Nat.le_refl _⟩⟩ ?_ ?_
 ·rintro k f l s hk K ⟨Mp,zy,I,g15,O⟩
  have W:((k+1:Nat):Int)≤6:=yv
  have hw:wr .i64 (((k+1:Nat):Int)+1)=((k+1+1:Nat):Int):=by rw[bj yv];omega
  obtain⟨Y,hwz,Eo⟩: ∃Y,(∀U,(∀j,j<s.length→aI U j=aI s j)→ ∃us,∀lh,fzV lh U false (.isl .S I 1 0 N 1)=some (Y,us))∧ ∀i h,i<N→h≤H→ae pE 66 [Y,qd (j5 N J i),.i .i64 ((k+1:Nat):Int),.i .i64 (h:Int)] []=some (.i .i64 (il (cC N J cg k i h)),[]):=by
   rcases O with⟨rfl,O,hb⟩|⟨h0,O,hb⟩
   ·exact⟨_,fun U Lw=>amn ((Lw I yv).trans O),fun i h _ _=>Zw _ _ h⟩
   ·refine⟨_,fun U Lw=>(Tb.mk ((Lw I yv).trans O.n) fun i hi=>(Lw _ yv).trans (O.r i hi)).fz,fun i h hi hh=> ?_⟩
    have hg2: ∀g∈j5 N J i,g<N:=fun g hg=>List.mem_range.1 (List.mem_filter.1 hg).1
    have kg:(j5 N J i).length≤1000:=Nat.le_trans (Gh (J i) N) hN
    have hsl:IsSl (qd (j5 N J i)) (j5 N J i).length (ints ((j5 N J i).map Int.ofNat)):=by
     unfold qd
     split
     ·rename_i h;rw[h];exact .inl ⟨rfl,rfl,rfl⟩
     ·exact .inr ⟨_,rfl⟩
    rw[aeP N H (cB N J cg k) (j5 N J i) hg2 kg _ hsl h hh _ yv]
    obtain⟨m,rfl⟩: ∃m,k=m+1:=⟨k-1,by omega⟩
    rw[show Gi (j5 N J i) (fun j=>cB N J cg (m+1) j h)=Sm N fun j=>tD (J i j)*cB N J cg (m+1) j h from aeN N (J i) _]
    rfl
  have r1:N*24≤roomy:=by unfold roomy;omega
  have r2:N≤roomy:=by unfold roomy;omega
  have Mw:=J3 N
  simp(maxDischargeDepth:=6) only[qA,seval,wu,K,cZ,Mp,W,vM,r1,r2,Mw,JM]
  generalize hD:DC pE 134 (.loop wq) _=D
  obtain⟨f3,l3,s3,rfl,⟨rfl,hl3,hT,Mv,X⟩,Gm⟩:=yq Hm hD (rc2 N H hN hH OO nT cg (j5 N J) iD iw s.length Y (cC N J cg k) ((k+1:Nat):Int) Eo I (yO N H (cB N J cg) k) _ (fun U Lw=>hwz U fun j hj=>(Lw j hj).trans (rS hj)) _ _ (by simp only[qA,seval,K,h3]) (by simp only[qA,seval,K,Z]) (by simp only[qA,seval,K,ig]) (by simp only[qA,seval,K,cZ]) (by simp only[qA,seval,g15]) (by simp only[qA,seval,zy]) (by simp only[qA,seval,Mp]) wW wW (by rw[Zz];exact Eh (k:=0)) xv)
  have f17:aa f3 17= .i .i64 ((k+1:Nat):Int):=by rw[Gm 17 xW];simp only[qA,seval,Mp]
  have f18:aa f3 18= .isl .S s.length 1 0 N 1:=by rw[Gm 18 xW];simp only[qA,seval]
  have et:(yO N H (cB N J cg) k+Sm N fun i=>Sm (H+1) (nl (cg i) (cC N J cg k i)))=yO N H (cB N J cg) (k+1):=by
   have e1:(Sm N fun i=>Sm (H+1) (nl (cg i) (cC N J cg k i)))=Sm N fun i=>Sm (H+1) fun h=>cB N J cg (k+1) i h:=vV fun i _=>vV fun h _=>(aix N J cg k i h).symm
   rw[e1,OX (fun i h=>cB N J cg (k+1) i h) (H+1) N]
   rfl
  rw[et]at X
  simp(maxDischargeDepth:=6) only[qA,seval,gd,f17,f18,hw,X]
  refine⟨s.length,rfl,.inr ⟨?_,by omega⟩⟩
  have:(fun i h=>il (cB N J cg (k+1) i h))=fun i h=>il (nl (cg i) (cC N J cg k i) h):=funext fun i=>funext fun h=>by rw[aix];rfl
  rw[this]
  exact hT
 ·rintro f l s K ⟨Mp,zy,_⟩
  have W: ¬((6+1:Nat):Int)≤6:=yv
  simp only[qA,seval,gd,wu,Mp]
  exact zy
end
def R5(c:Ct)(fl:List Fl)(ops:List Int)(H:Nat):Int:=il (yO fl.length H (cB fl.length (jn c fl) (iF ops)) 6)
def Gn(t:Tt)(c:Ct)(ops:List Int)(H:Int):Int:=if eK t c=0 then(if Cq t.fl.length none ops=0 then(if H<0∨6<H then 5 else 0)else Cq t.fl.length none ops)else eK t c
section
variable(t:Tt)(c:Ct)(zT aT fT a7 a8 a9 aw aA az:T)(hT:kN t zT aT fT)(hC:mG c a7 a8 a9 aw aA az)(hA:Hb c)(hL: ∀f∈t.fl,f.nu.length≤gm)(hN:t.fl.length≤1000)
include hT hC hA hL hN
theorem aeS(ops:List Int)(K:T)(O:IsSl K ops.length (ints ops))(I:ops.length≤1000)(H:Int): ∃s,ae pE 28 [.agg [zT,aT,fT],.agg (aY c a7 a8 a9 aw aA az),K,.i .i64 H] []=some (.tup [.i .i64 (if Gn t c ops H=0 then R5 c t.fl ops H.toNat else 0),.i .i64 (Gn t c ops H)],s):=by
 have r:=yJ t c zT aT fT a7 a8 a9 aw aA az hT hC
 have e1:=Ow t c zT aT fT a7 a8 a9 aw aA az hT hC hA hL
 have e2:=Zx t c zT aT fT a7 a8 a9 aw aA az hT hC hN ops K O I
 have e3:=En t c zT aT fT a7 a8 a9 aw aA az hT hC hN
 have RF:=O.froz
 have W:=O.froz1
 obtain⟨fc,X,f2⟩:=id hT.f
 have U:=X.lenI
 unfold aY at*
 unfold Gn
 rw[au asu (by simp[c28])]
 by_cases h1:eK t c=0
 ·by_cases h2:Cq t.fl.length none ops=0
  ·by_cases h3:H<0∨6<H
   ·by_cases h4:H<0
    ·simp(maxDischargeDepth:=6) only[qA,seval,c28,r,e1,e2,h1,h2,h4,RF,Qi,K1,true_or,LU]
    ·have h5:6<H:=yv
     simp(maxDischargeDepth:=6) only[qA,seval,c28,r,e1,e2,h1,h2,h4,h5,RF,Qi,K1,or_true,LU]
   ·obtain⟨m,rfl⟩: ∃m:Nat,H=(m:Int):=⟨H.toNat,by omega⟩
    have h4: ¬(m:Int)<0:=yv
    have h5: ¬6<(m:Int):=yv
    have Y:t.fl.length*24≤roomy:=by unfold roomy;omega
    have Z:t.fl.length≤roomy:=by unfold roomy;omega
    have Mw:=J3 t.fl.length
    have hnf:froz1 (bA t.fl.length (((List.range t.fl.length).map (j5 t.fl.length (jn c t.fl))).map qd))=true:=by unfold bA;split <;> rfl
    have iw: ∀f,f<t.fl.length→ ∃q,∀kk,iaV (bA t.fl.length (((List.range t.fl.length).map (j5 t.fl.length (jn c t.fl))).map qd)) (.i kk (f:Int)) 1=some (.vp (qd (j5 t.fl.length (jn c t.fl) f)::q)):=fun f hf=>by
     have I:(((List.range t.fl.length).map (j5 t.fl.length (jn c t.fl))).map qd).length=t.fl.length:=xv
     unfold bA
     rw[if_neg yv]
     refine⟨(((List.range t.fl.length).map (j5 t.fl.length (jn c t.fl))).map qd).drop (f+1),fun kk=> ?_⟩
     rw[cO,if_pos ⟨by omega,by simpa using hf,by rw[I];simp;omega⟩,Int.toNat_natCast,Nat.mul_one,List.drop_eq_getElem_cons (by rw[I];exact hf)]
     simp
    generalize bA t.fl.length (((List.range t.fl.length).map (j5 t.fl.length (jn c t.fl))).map qd)=nT at*
    simp(maxDischargeDepth:=6) only[qA,eJ,seval,c28,r,e1,e2,e3,h1,h2,h4,h5,RF,Qi,K1,abg,U,vM,Y,Z,Mw]
    generalize hD:DC pE 134 (.loop wu) _=D
    obtain⟨f3,l3,s3,rfl,V,Gm⟩:=yq Hn hD (rc3 t.fl.length m hN yv (.sl (xw (inB t.fl.length ops)) t.fl.length false) nT (iF ops) (j5 t.fl.length (jn c t.fl)) (Zs t.fl.length ops) iw (jn c t.fl) rfl _ _ _ wW wW wW wW wW wW wW rfl)
    simp(maxDischargeDepth:=6) only[qA,seval,V]
    simp only[or_self,if_false,if_true]
    exact⟨_,rfl⟩
  ·simp(maxDischargeDepth:=6) only[qA,seval,c28,r,e1,e2,h1,h2,RF,Qi,K1,LU]
 ·simp(maxDischargeDepth:=6) only[qA,seval,c28,r,e1,h1,Qi,LU]
end
def wm0:ah→Bool
 |⟨_,.cells _ 0 false⟩=>true
 |_=>false
def LgR(g:Lg)(c:List T):Prop:=c=F9 g (.sl (l6 g.du) g.du.length false)
theorem LgR.len(g:Lg)(c:List T)(h:LgR g c):c.length=7:=by rw[h];rfl
section
variable(N:Nat)(J:Nat→Nat→Bool)(cg:Nat→Bool)(ok:List (Int×Bool)→Bool)(lg:List (Int×Bool)→Lg)
def si(r:List (Int×Bool)→Nat→Nat→List Lg)(x:List (Int×Bool))(f h:Nat):List Lg:=(if ok x=true then [lg x]else [])++(j5 N J f).flatMap fun g=>r x g h
def ew:Nat→List (Int×Bool)→Nat→Nat→List Lg
 |0,_,_,_=> []
 |n+1,d,f,h=>(if cg f=true then si N J ok lg (ew n) (d++ [((f:Int),false)]) f h else [])++(if h=0 then []else si N J ok lg (ew n) (d++ [((f:Int),true)]) f (h-1))
end
structure Vs (s:List ah) (F:T) (d:List (Int×Bool)) (out:List Lg):Prop where
 b0: ∃ov,aI s 0=⟨1,.cells [ov] 0 true⟩∧((ov= .nilsl∧out= []∧s.length≤4)∨ ∃g cs,ov= .isl .S 4 g 0 out.length 7∧aI s 4=⟨g,.cells cs 0 false⟩∧aB LgR out cs∧s.length=5)
 b1: ∃dv,aI s 1=⟨1,.cells [dv] 0 true⟩∧((dv= .nilsl∧d= []∧s.length=3)∨ ∃g st,dv= .isl .S 3 g 0 d.length 2∧aI s 3=⟨g,.cells (l6 d++st) 0 false⟩∧4≤s.length)
 b2:aI s 2=⟨1,.cells [F] 0 true⟩
def Hf:ak→ak
 | .seq a _=>a
 |c=>c
def KM:ak→ak
 | .seq _ b=>b
 |c=>c
section
variable(N:Nat)(F:T)(d:List (Int×Bool))(out:List Lg)(f:Nat)(b:Bool)
end
theorem ZA{E:Env}{n:Nat}{a:ak}{fr:Fr}{lh:aD ah}{sh:List ah}{D:Option (Out×St)}(r:DC E n a ⟨fr,lh,sh⟩=D){P:Fr→aD ah→List ah→Prop}(h: ∃f l s,DC E n a ⟨fr,lh,sh⟩=some (.nrm,⟨f,l,s⟩)∧P f l s):
  ∃f l s,D=some (.nrm,⟨f,l,s⟩)∧P f l s∧DC E n a ⟨fr,lh,sh⟩=some (.nrm,⟨f,l,s⟩):=by
 obtain⟨f,l,s,e,p⟩:=h
 exact⟨f,l,s,r.symm.trans e,p,e⟩
section
end
theorem BR{m:Nat}{lh:aD ah}{s:List ah}{k g n sz:Nat}{cs:List T}(h:aI s k=⟨g,.cells cs 0 false⟩)(r:cs.length=n*sz):fzW m lh s false (.isl .S k g 0 n sz)=some (.sl cs n false,[(.S,k,⟨g,.cells cs cs.length false⟩)]):=by
 have D:(St.mk .nil lh s).get .S k=aI s k:=rfl
 unfold fzW Ev.fz
 simp only[Bool.false_and,Bool.false_eq_true,if_false,Q.run,D,h,if_true]
 rw[if_pos yv,List.drop_zero,←r,List.take_length]
 rfl
def amo(out:List Lg)(v:T):Prop:= ∃cs,IsSl v out.length cs∧aB LgR out cs
section
def j6(N:Nat)(J:Nat→Nat→Bool)(cg:Nat→Bool)(ok:List (Int×Bool)→Bool)(lg:List (Int×Bool)→Lg)(H:Nat):List Lg:=(List.range N).flatMap fun f=>ew N J cg ok lg 6 [] f H
end
end Go.Proofs.YtnkgnjecmfkcfaaGreat
namespace Go.Ev
open Go
theorem ZB{E:Env}{call:jP}{n:Nat}{fr:Fr}{lh:aD ah}{sh:List ah}{ds:List (List Nat×aF)}{br:List FP}{u:List Nat}{r sz bytes:Nat}{s x:aP}{D:Bool}(hs:rd fr s= .nilsl)(hx:rd fr x= .nilsl):aK E call n ((u,⟨some r,.app sz bytes s x false D,none⟩)::ds) br ⟨fr,lh,sh⟩=ke E call n ds (br++ [fO]) (ai E call n [⟨some r,.app sz bytes s x false D,none⟩] ⟨fr,lh,sh⟩):=by
 rw[mZ (fp:=fO),qw,if_pos rfl]
 intro I
 obtain⟨v,O,hr,U⟩:=pS (q:=jO r sz bytes .nilsl .nilsl false D) (by rfl) (by rw[dm];show jO _ _ _ (rd fr s) (rd fr x) _ _=_;rw[hs,hx];rfl) I
 have K:(jO r sz bytes .nilsl .nilsl false D).run (St.mk fr lh sh).get (St.mk fr lh sh).sh.length=some (.val .nilsl []):=rfl
 rw[K]at hr
 cases hr
 exact U rfl
end Go.Ev
namespace Go.Proofs.YtnkgnjecmfkcfaaGreat
open Go Go.Ev
def Gp(lh:aD ah)(cv:T)(cs:List Nat):Prop:=IsSl cv cs.length (ints (cs.map Int.ofNat))∨bg lh cv 48 1 cs.length (ints (cs.map Int.ofNat))
def de:ak→ak
 | .seq _ (.seq (.block _ (.seq _ t)) _)=>t
 |c=>c
def tE:ak→ak→ak
 | .seq a (.seq (.block i (.seq b _)) z),t=> .seq a (.seq (.block i (.seq b t)) z)
 |c,_=>c
theorem R7:bE=tE bE (de bE):=nr rfl
theorem R8:de bE= .seq (Hf (de bE)) (.seq (.seq (Hf (Hf (KM (de bE)))) (KM (Hf (KM (de bE))))) (KM (KM (de bE)))):=nr rfl
def DtV(d:List (Int×Bool))(r:T):Prop:=(d= []∧r= .nilsl)∨(d≠ []∧r= .sl (l6 d) d.length false)
theorem ex1(d:List (Int×Bool))(dT:T)(hd:DtV d dT)(SZ:d.length≤5)(f:Nat)(b:Bool)(cs:List Nat)(k:Nat)(hk:k<cs.length)(hf:cs[k]=f)(cv:T)(fr:Fr)(lh:aD ah)(s:List ah)(hc:Gp lh cv cs)(h3:aa fr 3=dT)(O:aa fr 15=cv)(U:aa fr 17= .i .i64 (k:Int))(V:aa fr 18= .i .i64 (if b=true then 1 else 0)):
  ∃f' Y,DC pE 111 (Hf (de bE)) ⟨fr,lh,s⟩=some (.nrm,⟨f',Y,s⟩)∧(∃j g,(j=77∨j=86)∧aa f' 19= .isl .L j g 0 (d.length+1) 2∧ab Y j=⟨g,.cells (l6 (d++ [((f:Int),b)])) 0 false⟩)∧ ∀j,j≠77→j≠86→ab Y j=ab lh j:=by
 have K:l6 (d++ [((f:Int),b)])=l6 d++ [.i .i64 (f:Int),.b b]:=by rw[OL];rfl
 have Mw:repl [T.i .i64 0,.b false] 1= [.i .i64 0,.b false]:=rfl
 have W:(d.length+1)*16≤roomy:=by unfold roomy;omega
 have X:d.length*16≤roomy:=by unfold roomy;omega
 have r1:16≤roomy:=by unfold roomy;omega
 have r:=mP d
 have AV:(ints (cs.map Int.ofNat))[k]? =some (.i .i64 (f:Int)):=by
  subst hf
  simp[ints,hk]
 have Zj:k+1≤cs.length:=hk
 rcases hc with hc|hc
 ·have D:=fun kk=>hc.ia (sz:=1) (k:=k) (kk:=kk) (by rw[dX,List.length_map];omega) hk
  have Z:(ints (cs.map Int.ofNat)).drop (k*1)= .i .i64 (f:Int)::(ints (cs.map Int.ofNat)).drop (k+1):=by
   rw[Nat.mul_one,List.drop_eq_getElem_cons (by simpa[ints]using hk)]
   simp[ints,hf]
  rw[Z]at D
  rcases hd with⟨rfl,rfl⟩|⟨h0,rfl⟩
  ·have I:A5 lh 77 2 16 .nilsl (0,[])=some (.nilsl,lh):=rfl
   cases b
   all_goals
    simp(maxDischargeDepth:=6) only[qA,bp,fK,seval,aH,de,Hf,bE,h3,O,U,V,D,Mw,ZB,I,appW,r1]
    refine⟨_,_,rfl,⟨86,(ab lh 86).g+1,.inr rfl, ?_, ?_⟩,fun j h1 h2=> ?_⟩
    ·simp only[qA,seval]
    ·simp only[qA,seval];rfl
    ·rw[bD _ _ h2]
  ·obtain⟨m,hm⟩: ∃m,d.length=m+1:=⟨d.length-1,by have:=List.length_pos_iff.2 h0;omega⟩
   rw[hm]at h3 r W X ⊢
   have hle:0<(m+1):=yv
   cases b
   all_goals
    simp(maxDischargeDepth:=6) only[qA,bp,fK,seval,aH,de,Hf,bE,h3,O,U,V,D,Mw,appW,r,W,X]
    refine⟨_,_,rfl,⟨77,(ab lh 77).g+1+1,.inl rfl, ?_, ?_⟩,fun j h1 h2=> ?_⟩
    ·simp only[qA,seval]
    ·simp only[qA,seval];rw[K]
    ·simp only[qA,seval,h1]
 ·rcases hc with⟨h1,_,_⟩|⟨g2,wm,rfl,o48,aJb,_⟩
  ·omega
  rcases hd with⟨rfl,rfl⟩|⟨h0,rfl⟩
  ·have I:A5 lh 77 2 16 .nilsl (0,[])=some (.nilsl,lh):=rfl
   cases b
   all_goals
    simp(maxDischargeDepth:=6) only[qA,bp,fK,seval,aH,de,Hf,bE,h3,O,U,V,o48,AV,hk,Mw,ZB,I,appW,r1]
    refine⟨_,_,rfl,⟨86,(ab lh 86).g+1,.inr rfl, ?_, ?_⟩,fun j h1 h2=> ?_⟩
    ·simp only[qA,seval]
    ·simp only[qA,seval];rfl
    ·rw[bD _ _ h2]
  ·obtain⟨m,hm⟩: ∃m,d.length=m+1:=⟨d.length-1,by have:=List.length_pos_iff.2 h0;omega⟩
   rw[hm]at h3 r W X ⊢
   have hle:0<(m+1):=yv
   cases b
   all_goals
    simp(maxDischargeDepth:=6) only[qA,bp,Bj,fK,seval,aH,de,Hf,bE,h3,O,U,V,o48,AV,hk,Mw,appW,r,W,X]
    refine⟨_,_,rfl,⟨77,(ab lh 77).g+1+1,.inl rfl, ?_, ?_⟩,fun j h1 h2=> ?_⟩
    ·simp only[qA,seval]
    ·simp only[qA,seval];rw[K]
    ·simp only[qA,seval,h1]
def LgQ(g:Lg)(c:List T):Prop:= ∃v,c=F9 g v∧LgT g v
theorem LgQ.len(g:Lg)(c:List T)(h:LgQ g c):c.length=7:=by obtain⟨v,rfl,_⟩:=h;rfl
def Es(s:List ah)(r:T)(out:List Lg):Prop:=(r= .nilsl∧out= []∧s= [])∨ ∃g cs,r= .isl .S 0 g 0 out.length 7∧s= [⟨g,.cells cs 0 false⟩]∧aB LgQ out cs
section
variable(t:Tt)(c:Ct)(zT aT fT a7 a8 a9 aw aA az:T)(hT:kN t zT aT fT)(hC:mG c a7 a8 a9 aw aA az)(hA:Hb c)(hL: ∀f∈t.fl,f.nu.length≤gm)(hK:eK t c=0)
include hT hC hA hL hK
theorem ex2(x:List (Int×Bool))(hx:ev c t.fl x=0)(j g:Nat)(hj:j=77∨j=86)(out:List Lg)(hb:out.length≤1000000000)(lv:T)(fr:Fr)(lh:aD ah)(s:List ah)(h2:aa fr 2=lv)(W:aa fr 7= .ptr .L 7 1 0)(X:aa fr 8= .ptr .L 8 1 0)(Bu:aa fr 19= .isl .L j g 0 x.length 2)(Y:ab lh 7=⟨1,.cells [zT,aT,fT] 0 true⟩)(Z:ab lh 8=⟨1,.cells (aY c a7 a8 a9 aw aA az) 0 true⟩)(K:ab lh j=⟨g,.cells (l6 x) 0 false⟩)(hE:Es s lv out):
  ∃f' l' s',DC pE 111 (Hf (KM (de bE))) ⟨fr,lh,s⟩=some (.nrm,⟨f',l',s'⟩)∧Es s' (aa f' 2) (out++if iI t c x=true then [cz t c x]else [])∧(∃wm,ab l' j=⟨g,.cells (l6 x) wm false⟩)∧ ∀i,i≠20→i≠j→ab l' i=ab lh i:=by
 obtain⟨x1,x6,_,_⟩:=fJ hx
 have hcl:=mP x
 have hDu:tw x (.sl (l6 x) x.length false):=tw.of (.inr ⟨_,rfl⟩)
 obtain⟨v,e1,e2⟩:=aeK t c zT aT fT a7 a8 a9 aw aA az hT hC hA hL x _ hDu yv
 have hz:=yJ t c zT aT fT a7 a8 a9 aw aA az hT hC
 unfold RN al6 at e1 e2
 rw[if_neg (by simp[hK]),if_neg (by simp[hx])]at e1 e2
 have hv:=e2.froz1
 have hvc:=e2.cells
 have r:x.length*2≤(l6 x).length:=yv
 have D:(l6 x).take (x.length*2)=l6 x:=List.take_of_length_le yv
 have j7: ¬7=j:=yv
 have j8: ¬8=j:=yv
 have I: ¬20=j:=yv
 have R9: ¬j=20:=yv
 have Mw:repl [T.nilsl,.i .i64 0,.i .i64 0,.s [],.s [],.i .i64 0,.i .i64 0] 1= [T.nilsl,.i .i64 0,.i .i64 0,.s [],.s [],.i .i64 0,.i .i64 0]:=rfl
 unfold aY at*
 have r1:88≤roomy:=by unfold roomy;omega
 cases ho:iI t c x
 ·rw[ho]at e1 e2
  unfold F9 at e1
  simp only[Bool.false_eq_true,if_false]at e1
  cases O:scalar (T.tup [T.agg [v,.i .i64 RM.rp,.i .i64 RM.rl,T.s RM.fr,T.s RM.to,.i .i64 RM.co,.i .i64 RM.cr],.i .i64 15])
  all_goals
   simp(maxDischargeDepth:=6) only[qA,seval,de,Hf,KM,bE,W,X,Bu,Y,Z,K,hz,e1,ajy,r,D,O,I]
   refine⟨_,_,_,rfl, ?_, ?_,fun i U V=> ?_⟩
   ·simp(maxDischargeDepth:=6) only[qA,seval,h2];exact hE
   ·first|(refine⟨(l6 x).length, ?_⟩;simp(maxDischargeDepth:=6) only[qA,seval,R9];done)|(refine⟨0, ?_⟩;simp(maxDischargeDepth:=6) only[qA,seval,R9,K];done)
   ·simp(maxDischargeDepth:=6) only[qA,seval,U,V]
 ·rw[ho]at e1 e2
  unfold F9 at e1
  simp only[if_true]at e1 e2
  rcases hE with⟨rfl,rfl,rfl⟩|⟨g2,cs,rfl,rfl,b1⟩
  ·cases O:scalar (T.tup [T.agg [v,.i .i64 (cz t c x).rp,.i .i64 (cz t c x).rl,T.s (cz t c x).fr,T.s (cz t c x).to,.i .i64 (cz t c x).co,.i .i64 (cz t c x).cr],.i .i64 0])
   all_goals
    simp(maxDischargeDepth:=6) only[qA,eJ,seval,de,Hf,KM,bE,h2,W,X,Bu,Y,Z,K,hz,e1,ajy,r,D,hv,O,I,Mw,cI,aZ,cL,dg,r1]
    refine⟨_,_,_,rfl, ?_, ?_,fun i U V=> ?_⟩
    ·simp(maxDischargeDepth:=6) only[qA,seval]
     exact .inr ⟨1,_,rfl,rfl,aB.one ⟨v,rfl,e2⟩⟩
    ·first|(refine⟨(l6 x).length, ?_⟩;simp(maxDischargeDepth:=6) only[qA,seval,R9];done)|(refine⟨0, ?_⟩;simp(maxDischargeDepth:=6) only[qA,seval,R9,K];done)
    ·simp(maxDischargeDepth:=6) only[qA,seval,U,V]
  ·have aJe:=b1.len LgQ.len
   have r2:(out.length+1)*88≤roomy:=by unfold roomy;omega
   have hcs:out.length*7=cs.length:=yv
   cases O:scalar (T.tup [T.agg [v,.i .i64 (cz t c x).rp,.i .i64 (cz t c x).rl,T.s (cz t c x).fr,T.s (cz t c x).to,.i .i64 (cz t c x).co,.i .i64 (cz t c x).cr],.i .i64 0])
   all_goals
    simp(maxDischargeDepth:=6) only[qA,eJ,seval,de,Hf,KM,bE,h2,W,X,Bu,Y,Z,K,hz,e1,ajy,r,D,hv,O,I,Mw,cI,aZ,dC,eb,cw,r2,hcs]
    refine⟨_,_,_,rfl, ?_, ?_,fun i U V=> ?_⟩
    ·simp(maxDischargeDepth:=6) only[qA,seval]
     exact .inr ⟨g2+1,_,by rw[List.length_append];rfl,rfl,aB.append b1 (aB.one ⟨v,rfl,e2⟩)⟩
    ·first|(refine⟨(l6 x).length, ?_⟩;simp(maxDischargeDepth:=6) only[qA,seval,R9];done)|(refine⟨0, ?_⟩;simp(maxDischargeDepth:=6) only[qA,seval,R9,K];done)
    ·simp(maxDischargeDepth:=6) only[qA,seval,U,V]
end
section
variable(t:Tt)(c:Ct)(zT aT fT a7 a8 a9 aw aA az:T)(hT:kN t zT aT fT)(hC:mG c a7 a8 a9 aw aA az)(mT nT:T)(hm:froz mT=true)(hn:froz nT=true)
include hT hC hm hn
theorem ex3(x:List (Int×Bool))(j g W:Nat)(hj:j=77∨j=86)(out D:List Lg)(I:T)(H h H':Nat)(hH:(H:Int)-(h:Int)=(H':Int))(X:H≤6∧h≤1)(fr:Fr)(lh:aD ah)(s:List ah)(h2:aa fr 2=I)(h4:aa fr 4=mT)(h5:aa fr 5=nT)(h6:aa fr 6= .i .i64 (H:Int))(Y:aa fr 7= .ptr .L 7 1 0)(Z:aa fr 8= .ptr .L 8 1 0)(fk:aa fr 18= .i .i64 (h:Int))(Bu:aa fr 19= .isl .L j g 0 x.length 2)(o7:ab lh 7=⟨1,.cells [zT,aT,fT] 0 true⟩)(o8:ab lh 8=⟨1,.cells (aY c a7 a8 a9 aw aA az) 0 true⟩)(oj:ab lh j=⟨g,.cells (l6 x) W false⟩)(hE:Es s I out)
  (IH: ∃v r,ae pE 30 [.agg [zT,aT,fT],.agg (aY c a7 a8 a9 aw aA az),I,.sl (l6 x) x.length false,mT,nT,.i .i64 (H':Int)] s=some (v,r)∧Es r v D):
  ∃U V r,DC pE 111 (KM (KM (de bE))) ⟨fr,lh,s⟩=some (.nrm,⟨U,V,r⟩)∧Es r (aa U 2) D∧ ∀i,i≠j→ab V i=ab lh i:=by
 have hz:=yJ t c zT aT fT a7 a8 a9 aw aA az hT hC
 obtain⟨v,r,e1,e2⟩:=IH
 have hcl:=mP x
 have K:x.length*2≤(l6 x).length:=yv
 have O:(l6 x).take (x.length*2)=l6 x:=List.take_of_length_le yv
 have hw:wr .i64 ((H:Int)-(h:Int))=(H':Int):=by rw[bj yv,hH]
 have SE:fzV lh s true I=some (I,[]):=by
  rcases hE with⟨rfl,_,_⟩|⟨g2,cs,rfl,_,_⟩ <;> rfl
 unfold aY at*
 simp(maxDischargeDepth:=6) only[qA,xk,seval,de,KM,bE,h2,h4,h5,h6,Y,Z,fk,Bu,o7,o8,oj,hz,e1,aAI,K,O,hm,hn,hw,SE]
 exact⟨_,_,_,rfl,by simp only[qA,seval];exact e2,fun i hi=>by rw[bD _ _ hi]⟩
end
theorem J4(c:Ct)(fl:List Fl): ∀(d:List (Int×Bool)) (k l:Int×Bool),qc c fl (d++ [k,l])=(qc c fl (d++ [k])&&pL c fl k.1 l.1)
 | [],k,l=>by simp[qc]
 | [a],k,l=>by simp[qc]
 |a::b::r,k,l=>by
  have:=J4 c fl (b::r) k l
  simp only[List.cons_append]at this ⊢
  rw[qc,qc,this,Bool.and_assoc]
theorem ZC(c:Ct)(fl:List Fl)(i:Int)(f:Nat):pL c fl i (f:Int)=jn c fl i.toNat f:=by
 unfold pL jn
 rw[Int.toNat_natCast]
 cases fl[i.toNat]? <;> cases fl[f]? <;> rfl
def pY(N:Nat)(J:Nat→Nat→Bool)(d:List (Int×Bool)):List Nat:=match d.getLast? with
 |none=>List.range N
 |some k=>j5 N J k.1.toNat
theorem Sa(N:Nat)(J:Nat→Nat→Bool)(d:List (Int×Bool))(f:Nat)(b:Bool):pY N J (d++ [((f:Int),b)])=j5 N J f:=by
 unfold pY;rw[List.getLast?_append];simp
theorem OZ(N:Nat)(J:Nat→Nat→Bool)(d:List (Int×Bool)){f:Nat}(h:f∈pY N J d):f<N:=by
 unfold pY at h
 split at h
 ·exact List.mem_range.1 h
 ·exact List.mem_range.1 (List.mem_filter.1 h).1
theorem ZD(N:Nat)(J:Nat→Nat→Bool)(d:List (Int×Bool)):(pY N J d).length≤N:=by
 unfold pY
 split
 ·rw[List.length_range];exact Nat.le_refl _
 ·exact Gh _ _
theorem Sb(c:Ct)(fl:List Fl)(d:List (Int×Bool))(f:Nat)(b:Bool)(hd:d= []∨ev c fl d=0)(O:d.length≤5)(hf:f∈pY fl.length (jn c fl) d):ev c fl (d++ [((f:Int),b)])=0:=by
 have I:=OZ _ _ _ hf
 have r:lj fl.length (f:Int)=true:=by unfold lj;simpa using I
 have D:(d++ [((f:Int),b)]).all (fun k=>lj fl.length k.1)=true∧qc c fl (d++ [((f:Int),b)])=true:=by
  rcases hd with rfl|hd
  ·exact⟨by simpa using r,by simp[qc]⟩
  ·obtain⟨h1,h2,h3,h4⟩:=fJ hd
   obtain⟨e,k,rfl⟩: ∃e k,d=e++ [k]:=⟨d.dropLast,d.getLast (by intro h;rw[h]at h1;simp at h1),(List.dropLast_concat_getLast _).symm⟩
   refine⟨?_, ?_⟩
   ·rw[List.all_append,Bool.and_eq_true]
    exact⟨List.all_eq_true.2 h3,by simpa using r⟩
   ·rw[List.append_assoc]
    show qc c fl (e++ [k,((f:Int),b)])=true
    rw[J4,h4,Bool.true_and,ZC]
    unfold pY at hf
    rw[List.getLast?_append]at hf
    have K:f∈j5 fl.length (jn c fl) k.1.toNat:=by simpa using hf
    exact(List.mem_filter.1 K).2
 unfold ev
 rw[List.length_append,List.length_singleton,if_neg yv,if_neg yv,if_pos D.1,if_pos D.2]
section
variable(t:Tt)(c:Ct)(zT aT fT a7 a8 a9 aw aA az:T)(hT:kN t zT aT fT)(hC:mG c a7 a8 a9 aw aA az)(hA:Hb c)(hL: ∀f∈t.fl,f.nu.length≤gm)(hK:eK t c=0)(hN:t.fl.length≤1000)(mT nT:T)(hm:froz mT=true)(hn:froz nT=true)(cg:Nat→Bool)
 (iD: ∀f,f<t.fl.length→ ∃q,∀kk,iaV mT (.i kk (f:Int)) 1=some (.vp (.b (cg f)::q))) (NF:lenI mT=some (.i .i64 (t.fl.length:Int)))
 (iw: ∀f,f<t.fl.length→ ∃q,∀kk,iaV nT (.i kk (f:Int)) 1=some (.vp (qd (j5 t.fl.length (jn c t.fl) f)::q)))
def ExP(t:Tt)(c:Ct)(zT aT fT a7 a8 a9 aw aA az mT nT:T)(cg:Nat→Bool)(n:Nat):Prop:=
 ∀(d:List (Int×Bool)) (r:T) (H:Nat) (s:List ah) (D:T) (out:List Lg),d.length+n=6→DtV d r→(d= []∨ev c t.fl d=0)→H≤6→Es s D out→out.length+((pY t.fl.length (jn c t.fl) d).flatMap fun f=>ew t.fl.length (jn c t.fl) cg (iI t c) (cz t c) n d f H).length≤1000000000→
  ∃v I,ae pE 30 [.agg [zT,aT,fT],.agg (aY c a7 a8 a9 aw aA az),D,r,mT,nT,.i .i64 (H:Int)] s=some (v,I)∧Es I v (out++(pY t.fl.length (jn c t.fl) d).flatMap fun f=>ew t.fl.length (jn c t.fl) cg (iI t c) (cz t c) n d f H)
include hT hC hA hL hK hN hm hn
theorem axN(n:Nat)(IH:ExP t c zT aT fT a7 a8 a9 aw aA az mT nT cg n)(d:List (Int×Bool))(X:T)(KN:DtV d X)(hd:d= []∨ev c t.fl d=0)(SZ:d.length+(n+1)=6)(f:Nat)(b:Bool)(hf:f∈pY t.fl.length (jn c t.fl) d)(cs:List Nat)(k:Nat)(hk:k<cs.length)(AX:cs[k]=f)(cv:T)(H H':Nat)(Y:H≤6)(hH:H=H'+if b=true then 1 else 0)(Z:T)(out:List Lg)(hb:out.length+(si t.fl.length (jn c t.fl) (iI t c) (cz t c) (ew t.fl.length (jn c t.fl) cg (iI t c) (cz t c) n) (d++ [((f:Int),b)]) f H').length≤1000000000)
  (fr:Fr) (lh:aD ah) (s:List ah) (hc:Gp lh cv cs) (h2:aa fr 2=Z) (h3:aa fr 3=X) (h4:aa fr 4=mT) (h5:aa fr 5=nT) (h6:aa fr 6= .i .i64 (H:Int)) (h7:aa fr 7= .ptr .L 7 1 0) (h8:aa fr 8= .ptr .L 8 1 0) (kY:aa fr 15=cv) (j4:aa fr 17= .i .i64 (k:Int)) (fk:aa fr 18= .i .i64 (if b=true then 1 else 0)) (o7:ab lh 7=⟨1,.cells [zT,aT,fT] 0 true⟩) (o8:ab lh 8=⟨1,.cells (aY c a7 a8 a9 aw aA az) 0 true⟩) (hE:Es s Z out):
  ∃f' l' s',DC pE 111 (de bE) ⟨fr,lh,s⟩=some (.nrm,⟨f',l',s'⟩)∧Es s' (aa f' 2) (out++si t.fl.length (jn c t.fl) (iI t c) (cz t c) (ew t.fl.length (jn c t.fl) cg (iI t c) (cz t c) n) (d++ [((f:Int),b)]) f H')∧ ∀i,i≠77→i≠86→i≠20→ab l' i=ab lh i:=by
 have _:=hN
 have SK:=Sb c t.fl d f b hd yv hf
 have K:=Sa t.fl.length (jn c t.fl) d f b
 have hxl:(d++ [((f:Int),b)]).length=d.length+1:=by rw[List.length_append];rfl
 have hxn:d++ [((f:Int),b)]≠ []:=xv
 obtain⟨f1,l1,e1,⟨j,g,D,r,kj⟩,V⟩:=ex1 d X KN yv f b cs k hk AX cv fr lh s hc h3 kY j4 fk
 rw[←hxl]at r
 generalize d++ [((f:Int),b)]=x at*
 have W:=fun j D=>fu e1 j D
 unfold si at hb ⊢
 rw[List.length_append]at hb
 obtain⟨f2,l2,s2,e2,O,⟨wm,kj2⟩,k2⟩:=ex2 t c zT aT fT a7 a8 a9 aw aA az hT hC hA hL hK x SK j g D out yv Z f1 l1 s ((W 2 xW).trans h2) ((W 7 xW).trans h7) ((W 8 xW).trans h8) r ((V 7 xW xW).trans o7) ((V 8 xW xW).trans o8) kj hE
 have p2:=fun j D=>fu e2 j D
 have I: ∀j v,(ch (Hf (de bE))).contains j=false→(ch (Hf (KM (de bE)))).contains j=false→aa fr j=v→aa f2 j=v:=fun j v a1 a2 e=>(p2 j a2).trans ((W j a1).trans e)
 have to: ∀i v,i≠77→i≠86→i≠20→ab lh i=v→ab l2 i=v:=fun i v a1 a2 a3 e=>(k2 i a3 yv).trans ((V i a1 a2).trans e)
 obtain⟨v3,s3,d3,U⟩:=IH x (.sl (l6 x) x.length false) H' s2 _ _ yv (.inr ⟨hxn,rfl⟩) (.inr SK) yv O (by rw[K,List.length_append];omega)
 rw[K,List.append_assoc]at U
 obtain⟨f3,l3,s4,e3,hE4,k3⟩:=ex3 t c zT aT fT a7 a8 a9 aw aA az hT hC mT nT hm hn x j g wm D _ _ _ H (if b=true then 1 else 0) H' (by rw[hH];cases b <;> simp) ⟨Y,by cases b <;> simp⟩ f2 l2 s2 rfl (I 4 _ xW xW h4) (I 5 _ xW xW h5) (I 6 _ xW xW h6) (I 7 _ xW xW h7) (I 8 _ xW xW h8) (by rw[I 18 _ xW xW fk];cases b <;> rfl) ((p2 19 xW).trans r) (to 7 _ xW xW xW o7) (to 8 _ xW xW xW o8) kj2 O ⟨v3,s3,d3,U⟩
 refine⟨f3,l3,s4, ?_,hE4,fun i i1 i2 i3=>(k3 i yv).trans ((k2 i i3 yv).trans (V i i1 i2))⟩
 rw[R8,Fe,e1,my,Fe]
 have e2':DC pE 111 (.seq (Hf (Hf (KM (de bE)))) (KM (Hf (KM (de bE))))) ⟨f1,l1,s⟩=some (.nrm,⟨f2,l2,s2⟩):=e2
 rw[e2',my,e3]
include iD
theorem axO(n:Nat)(IH:ExP t c zT aT fT a7 a8 a9 aw aA az mT nT cg n)(d:List (Int×Bool))(dT:T)(KN:DtV d dT)(hd:d= []∨ev c t.fl d=0)(SZ:d.length+(n+1)=6)(f:Nat)(hf:f∈pY t.fl.length (jn c t.fl) d)(cs:List Nat)(k:Nat)(hk:k<cs.length)(AX:cs[k]=f)(cv:T)(H:Nat)(hH6:H≤6)(out:List Lg)(hb:out.length+(ew t.fl.length (jn c t.fl) cg (iI t c) (cz t c) (n+1) d f H).length≤1000000000)
  (fr:Fr) (lh:aD ah) (s:List ah) (hc:Gp lh cv cs) (h3:aa fr 3=dT) (h4:aa fr 4=mT) (h5:aa fr 5=nT) (h6:aa fr 6= .i .i64 (H:Int)) (h7:aa fr 7= .ptr .L 7 1 0) (h8:aa fr 8= .ptr .L 8 1 0) (kY:aa fr 15=cv) (j4:aa fr 17= .i .i64 (k:Int)) (fk:aa fr 18= .i .i64 0) (o7:ab lh 7=⟨1,.cells [zT,aT,fT] 0 true⟩) (o8:ab lh 8=⟨1,.cells (aY c a7 a8 a9 aw aA az) 0 true⟩) (hE:Es s (aa fr 2) out):
  Lp pE 111 bE fr lh s (.ext 4) fun V W s'=>Es s' (aa V 2) (out++ew t.fl.length (jn c t.fl) cg (iI t c) (cz t c) (n+1) d f H)∧ ∀i,i≠77→i≠86→i≠20→ab W i=ab lh i:=by
 obtain⟨q,I⟩:=iD f (OZ _ _ _ hf)
 have ht:=fun b H' hH=>axN t c zT aT fT a7 a8 a9 aw aA az hT hC hA hL hK hN mT nT hm hn cg n IH d dT KN hd SZ f b hf cs k hk AX cv H H' hH6 hH
 have hwt:=R7
 have hwr: ∀j,(ch (de bE)).contains j=false→ ∀(fr bK:Fr) lh s W s',DC pE 111 (de bE) ⟨fr,lh,s⟩=some (.nrm,⟨bK,W,s'⟩)→aa bK j=aa fr j:=fun j hj fr bK lh s W s' e=>fu e j hj
 have amp:=hwr 18 xW
 refine cV Hp (fun k V W s'=>aa V 18= .i .i64 (k:Int)∧Es s' (aa V 2) (out++if k=0 then []else if k=1 then(if cg f=true then si t.fl.length (jn c t.fl) (iI t c) (cz t c) (ew t.fl.length (jn c t.fl) cg (iI t c) (cz t c) n) (d++ [((f:Int),false)]) f H else [])else ew t.fl.length (jn c t.fl) cg (iI t c) (cz t c) (n+1) d f H)∧ ∀i,i≠77→i≠86→i≠20→ab W i=ab lh i) 2 ⟨fk,by simpa using hE,fun _ _ _ _=>rfl⟩ ?_ ?_
 ·rintro h V W s' hh r ⟨tn,My,O⟩
  have p7:=(O 7 xW xW xW).trans o7
  have p8:=(O 8 xW xW xW).trans o8
  have Y:Gp W cv cs:=hc.imp id fun h=>h.congr (O 48 xW xW xW)
  have K:(∃q2,∀kk,iaV cv (.i kk (k:Int)) 1=some (.vp (.i .i64 (f:Int)::q2)))∨ ∃g wm n cc,cv= .isl .L 48 g 0 n 1∧k<n∧ab W 48=⟨g,.cells cc wm false⟩∧cc[k]? =some (.i .i64 (f:Int))∧k+1≤cc.length:=by
   have AV:(ints (cs.map Int.ofNat))[k]? =some (.i .i64 (f:Int)):=by
    subst AX
    simp[ints,hk]
   rcases Y with h|⟨h,_,_⟩|⟨g,wm,h1,h2,h3,h4⟩
   ·refine .inl ⟨(ints (cs.map Int.ofNat)).drop (k+1),fun kk=> ?_⟩
    rw[h.ia (sz:=1) (k:=k) (kk:=kk) (by rw[dX,List.length_map];omega) hk,Nat.mul_one,List.drop_eq_getElem_cons (by simpa[ints]using hk)]
    simp[ints,AX]
   ·omega
   ·exact .inr ⟨g,wm,_,_,h1,hk,h2,AV,by rw[h3];omega⟩
  have zG:h=0∨h=1:=yv
  rcases zG with rfl|rfl
  ·have J5:aa V 18= .i .i64 0:=tn
   have Z: ¬(H:Int)<0:=yv
   rw[if_pos rfl,List.append_nil]at My
   rw[if_neg xW,if_pos rfl]
   rw[ew,List.length_append]at hb
   rw[hwt]
   cases hi:cg f
   ·rw[hi]at I
    generalize de bE=X at*
    rcases K with⟨q2,K⟩|⟨g9,wm9,n9,cc9,rfl,hk9,o48,hcc,hcl⟩
    ·simp(maxDischargeDepth:=6) only[qA,seval,gd,bE,tE,r,h4,kY,j4,J5,I,K]
     exact⟨My,O⟩
    ·simp(maxDischargeDepth:=6) only[qA,seval,gd,bE,tE,r,h4,kY,j4,J5,I,hk9,o48,hcc]
     exact⟨My,O⟩
   ·rw[hi]at I
    rw[hi,if_pos rfl]at hb
    have ht0:=ht false H xv (aa V 2) out yv
    generalize de bE=X at*
    rcases K with⟨q2,K⟩|⟨g9,wm9,n9,cc9,rfl,hk9,o48,hcc,hcl⟩
    ·skip
     simp(maxDischargeDepth:=6) only[qA,seval,bE,tE,r,h4,h6,kY,j4,J5,I,Z,K]
     generalize hD:DC pE 111 X _=D
     obtain⟨f2,l2,s2,rfl,⟨U,k2⟩,e2⟩:=ZA hD (ht0 _ _ _ Y wW (by simp only[qA,seval,r,h3]) (by simp only[qA,seval,r,h4]) (by simp only[qA,seval,r,h5]) (by simp only[qA,seval,r,h6]) (by simp only[qA,seval,r,h7]) (by simp only[qA,seval,r,h8]) (by simp only[qA,seval,r,kY]) (by simp only[qA,seval,r,j4]) (by simp only[qA,seval,J5]) p7 p8 My)
     have g2:=(amp _ _ _ _ _ _ e2).trans (show _=_ by simp only[qA,seval,J5];rfl)
     simp(maxDischargeDepth:=6) only[qA,seval,gd,g2]
     exact⟨by simpa only[List.append_assoc]using U,fun i i1 i2 i3=>(k2 i i1 i2 i3).trans (O i i1 i2 i3)⟩
    ·skip
     simp(maxDischargeDepth:=6) only[qA,seval,bE,tE,r,h4,h6,kY,j4,J5,I,Z,hk9,o48,hcc]
     generalize hD:DC pE 111 X _=D
     obtain⟨f2,l2,s2,rfl,⟨U,k2⟩,e2⟩:=ZA hD (ht0 _ _ _ Y wW (by simp only[qA,seval,r,h3]) (by simp only[qA,seval,r,h4]) (by simp only[qA,seval,r,h5]) (by simp only[qA,seval,r,h6]) (by simp only[qA,seval,r,h7]) (by simp only[qA,seval,r,h8]) (by simp only[qA,seval,r,kY]) (by simp only[qA,seval,r,j4]) (by simp only[qA,seval,J5]) p7 p8 My)
     have g2:=(amp _ _ _ _ _ _ e2).trans (show _=_ by simp only[qA,seval,J5];rfl)
     simp(maxDischargeDepth:=6) only[qA,seval,gd,g2]
     exact⟨by simpa only[List.append_assoc]using U,fun i i1 i2 i3=>(k2 i i1 i2 i3).trans (O i i1 i2 i3)⟩
  ·have aeW:aa V 18= .i .i64 1:=tn
   rw[if_neg xW,if_pos rfl]at My
   rw[if_neg xW,if_neg xW]
   rw[hwt]
   rw[ew]at hb ⊢
   generalize hAA:(if cg f=true then si t.fl.length (jn c t.fl) (iI t c) (cz t c) (ew t.fl.length (jn c t.fl) cg (iI t c) (cz t c) n) (d++ [((f:Int),false)]) f H else [])=A at*
   rw[List.length_append]at hb
   by_cases hz:H=0
   ·subst hz
    have C2:aa fr 6= .i .i64 0:=h6
    generalize de bE=X at*
    simp(maxDischargeDepth:=6) only[qA,seval,gd,bE,tE,r,C2,aeW]
    exact⟨by simpa using My,O⟩
   ·obtain⟨m,rfl⟩: ∃m,H=m+1:=⟨H-1,by omega⟩
    rw[if_neg hz]at hb ⊢
    rw[Nat.add_sub_cancel]at hb ⊢
    have Z: ¬((m+1:Nat):Int)<1:=yv
    have ht0:=ht true m xv (aa V 2) (out++A) (by rw[List.length_append];omega)
    generalize de bE=X at*
    ·skip
     simp(maxDischargeDepth:=6) only[qA,seval,bE,tE,r,h6,aeW,Z]
     generalize hD:DC pE 111 X _=D
     obtain⟨f2,l2,s2,rfl,⟨U,k2⟩,e2⟩:=ZA hD (ht0 _ _ _ Y wW (by simp only[qA,seval,r,h3]) (by simp only[qA,seval,r,h4]) (by simp only[qA,seval,r,h5]) (by simp only[qA,seval,r,h6]) (by simp only[qA,seval,r,h7]) (by simp only[qA,seval,r,h8]) (by simp only[qA,seval,r,kY]) (by simp only[qA,seval,r,j4]) (by simp only[qA,seval,aeW]) p7 p8 My)
     have g2:=(amp _ _ _ _ _ _ e2).trans (show _=_ by simp only[qA,seval,aeW];rfl)
     simp(maxDischargeDepth:=6) only[qA,seval,gd,g2]
     exact⟨by simpa only[List.append_assoc]using U,fun i i1 i2 i3=>(k2 i i1 i2 i3).trans (O i i1 i2 i3)⟩
 ·rintro V W s' r ⟨tn,My,O⟩
  have h2': ¬((2:Nat):Int)<2:=xW
  simp only[qA,seval,gd,bE,tn]
  exact⟨by simpa using My,O⟩
omit hT hC hA hL hK hN hm hn iD in
theorem Gp.lenI{lh:aD ah}{cv:T}{cs:List Nat}(h:Gp lh cv cs):lenI cv=some (.i .i64 (cs.length:Int)):=by
 rcases h with h|h
 ·exact h.lenI
 ·exact h.lenI
theorem amr(n:Nat)(IH:ExP t c zT aT fT a7 a8 a9 aw aA az mT nT cg n)(d:List (Int×Bool))(Y:T)(KN:DtV d Y)(hd:d= []∨ev c t.fl d=0)(SZ:d.length+(n+1)=6)(cs:List Nat)(V:cs=pY t.fl.length (jn c t.fl) d)(cv:T)(H:Nat)(Z:H≤6)(out:List Lg)(hb:out.length+(cs.flatMap fun f=>ew t.fl.length (jn c t.fl) cg (iI t c) (cz t c) (n+1) d f H).length≤1000000000)
  (fr:Fr) (lh:aD ah) (s:List ah) (hc:Gp lh cv cs) (h3:aa fr 3=Y) (h4:aa fr 4=mT) (h5:aa fr 5=nT) (h6:aa fr 6= .i .i64 (H:Int)) (h7:aa fr 7= .ptr .L 7 1 0) (h8:aa fr 8= .ptr .L 8 1 0) (kY:aa fr 15=cv) (j4:aa fr 17= .i .i64 0) (o7:ab lh 7=⟨1,.cells [zT,aT,fT] 0 true⟩) (o8:ab lh 8=⟨1,.cells (aY c a7 a8 a9 aw aA az) 0 true⟩) (hE:Es s (aa fr 2) out):
  Lp pE 111 sJ fr lh s (.ext 2) fun K O W=>Es W (aa K 2) (out++cs.flatMap fun f=>ew t.fl.length (jn c t.fl) cg (iI t c) (cz t c) (n+1) d f H):=by
 have hcl:cs.length≤1000:=by rw[V];exact Nat.le_trans (ZD _ _ _) hN
 refine cV zP (fun k K O W=>aa K 17= .i .i64 (k:Int)∧Es W (aa K 2) (out++(cs.take k).flatMap fun f=>ew t.fl.length (jn c t.fl) cg (iI t c) (cz t c) (n+1) d f H)∧ ∀i,i≠77→i≠86→i≠20→ab O i=ab lh i) cs.length ⟨j4,by simpa using hE,fun _ _ _ _=>rfl⟩ ?_ ?_
 ·rintro k K O W hk r ⟨Mp,My,U⟩
  have hk':(k:Int)<cs.length:=yv
  have hw:=aG (k:=k) yv
  have p7:=(U 7 xW xW xW).trans o7
  have p8:=(U 8 xW xW xW).trans o8
  have I:Gp O cv cs:=hc.imp id fun h=>h.congr (U 48 xW xW xW)
  have eF:=I.lenI
  have yl:(cs.take (k+1)).flatMap (fun f=>ew t.fl.length (jn c t.fl) cg (iI t c) (cz t c) (n+1) d f H)=(cs.take k).flatMap (fun f=>ew t.fl.length (jn c t.fl) cg (iI t c) (cz t c) (n+1) d f H)++ew t.fl.length (jn c t.fl) cg (iI t c) (cz t c) (n+1) d cs[k] H:=by
   rw[List.take_succ_eq_append_getElem hk,List.flatMap_append]
   simp
  have hle:(out++(cs.take k).flatMap fun f=>ew t.fl.length (jn c t.fl) cg (iI t c) (cz t c) (n+1) d f H).length+(ew t.fl.length (jn c t.fl) cg (iI t c) (cz t c) (n+1) d cs[k] H).length≤1000000000:=by
   have h1:(cs.flatMap fun f=>ew t.fl.length (jn c t.fl) cg (iI t c) (cz t c) (n+1) d f H).length=((cs.take (k+1)).flatMap fun f=>ew t.fl.length (jn c t.fl) cg (iI t c) (cz t c) (n+1) d f H).length+((cs.drop (k+1)).flatMap fun f=>ew t.fl.length (jn c t.fl) cg (iI t c) (cz t c) (n+1) d f H).length:=by
    rw[←List.length_append,←List.flatMap_append,List.take_append_drop]
   rw[yl,List.length_append]at h1
   rw[List.length_append]
   omega
  have X:=axO t c zT aT fT a7 a8 a9 aw aA az hT hC hA hL hK hN mT nT hm hn cg iD n IH d Y KN hd SZ cs[k] (by rw[←V];exact List.getElem_mem hk) cs k hk rfl cv H Z _ hle
  rw[List.append_assoc,←yl]at X
  simp(maxDischargeDepth:=6) only[qA,seval,sJ,r,kY,Mp,eF,hk']
  generalize hD:DC pE 111 (.loop bE) _=D
  obtain⟨f2,l2,s2,rfl,⟨hV2,k2⟩,lD⟩:=yq Hp hD (X _ _ _ I (by simp only[qA,seval,r,h3]) (by simp only[qA,seval,r,h4]) (by simp only[qA,seval,r,h5]) (by simp only[qA,seval,r,h6]) (by simp only[qA,seval,r,h7]) (by simp only[qA,seval,r,h8]) (by simp only[qA,seval,r,kY]) (by simp only[qA,seval,Mp]) wW p7 p8 (by simp only[qA,seval];exact My))
  have g2:aa f2 17= .i .i64 (k:Int):=by rw[lD 17 xW];simp only[qA,seval,Mp]
  simp(maxDischargeDepth:=6) only[qA,seval,gd,g2,hw]
  exact⟨hV2,fun i i1 i2 i3=>(k2 i i1 i2 i3).trans (U i i1 i2 i3)⟩
 ·rintro K O W r ⟨Mp,My,U⟩
  have I:Gp O cv cs:=hc.imp id fun h=>h.congr (U 48 xW xW xW)
  have eF:=I.lenI
  rw[List.take_length]at My
  simp only[qA,seval,gd,sJ,r,kY,Mp,eF,Int.lt_irrefl]
  exact My
omit hT hC hA hL hK hm hn iD in
theorem ams(NF:lenI mT=some (.i .i64 (t.fl.length:Int)))(fr:Fr)(lh:aD ah)(s:List ah)(h4:aa fr 4=mT)(kY:aa fr 15= .nilsl)(kD:aa fr 16= .i .i64 0):
  Lp pE 111 wv fr lh s (.ext 0) fun D r O=>O=s∧bg r (aa D 15) 48 1 (List.range t.fl.length).length (ints ((List.range t.fl.length).map Int.ofNat))∧ ∀i,i≠48→ab r i=ab lh i:=by
 refine cV Hq (fun k D r O=>aa D 16= .i .i64 (k:Int)∧O=s∧bg r (aa D 15) 48 1 k (ints ((List.range k).map Int.ofNat))∧ ∀i,i≠48→ab r i=ab lh i) t.fl.length ⟨kD,rfl,by rw[kY];exact bg.nil,fun _ _=>rfl⟩ ?_ ?_
 ·rintro k D r _ hk U ⟨V,rfl,I,W⟩
  have X:(k:Int)<t.fl.length:=yv
  have hw:=aG (k:=k) yv
  have Y:=fun(aU:aD ah) (aX:List ah) (e:ab aU 48=ab r 48)=>dO (sh:=aX) (I.congr e) [.i .i64 (k:Int)] rfl (bytes:=8) (by unfold roomy;omega) true
  have Z:=I.notS
  obtain⟨v15,K⟩: ∃v,aa D 15=v:=⟨_,rfl⟩
  rw[K]at I Y Z
  have yl:ints ((List.range (k+1)).map Int.ofNat)=ints ((List.range k).map Int.ofNat)++ [.i .i64 (k:Int)]:=by rw[List.range_succ];simp[ints]
  rw[yl]
  simp(maxDischargeDepth:=6) only[qA,seval,gd,wv,U,h4,V,NF,X,hw,K,Y,Z,repl]
  exact fun j hj=>((Y r _ rfl).2.2 j hj).trans (W j hj)
 ·rintro D r _ U ⟨V,rfl,I,W⟩
  simp only[qA,seval,gd,wv,U,h4,V,NF,Int.lt_irrefl]
  exact⟨by rw[List.length_range];exact I,W⟩
include NF iw
theorem ZE: ∀n,ExP t c zT aT fT a7 a8 a9 aw aA az mT nT cg n
 |0=>by
  intro d Z H s I out SZ KN hd hH O hb
  have hz:=yJ t c zT aT fT a7 a8 a9 aw aA az hT hC
  have eF:lenI Z=some (.i .i64 6):=by
   rcases KN with⟨rfl,rfl⟩|⟨_,rfl⟩
   ·simp at SZ
   ·have:d.length=6:=yv
    rw[this];rfl
  have V:((pY t.fl.length (jn c t.fl) d).flatMap fun f=>ew t.fl.length (jn c t.fl) cg (iI t c) (cz t c) 0 d f H)= []:=by
   simp[ew]
  have SE: ∀lh,fzV lh s true I=some (I,[]):=fun lh=>by
   rcases O with⟨rfl,_,_⟩|⟨g2,cs,rfl,_,_⟩ <;> rfl
  rw[V,List.append_nil]
  unfold aY at*
  rw[au Qh (by simp[c30])]
  simp(maxDischargeDepth:=6) only[qA,seval,c30,eF,SE]
  exact⟨_,_,rfl,O⟩
 |n+1=>by
  have IH:=ZE n
  intro d Z H s I out SZ KN hd hH O hb
  have hz:=yJ t c zT aT fT a7 a8 a9 aw aA az hT hC
  have Rz:=fun cs W cv=>amr t c zT aT fT a7 a8 a9 aw aA az hT hC hA hL hK hN mT nT hm hn cg iD n IH d Z KN hd SZ cs W cv H hH out (by rw[W];exact hb)
  have SE: ∀lh s I out,Es s I out→fzV lh s true I=some (I,[]):=fun lh s I out O=>by
   rcases O with⟨rfl,_,_⟩|⟨g2,cs,rfl,_,_⟩ <;> rfl
  generalize X:pY t.fl.length (jn c t.fl) d=can at*
  rcases KN with⟨rfl,rfl⟩|⟨h0,rfl⟩
  ·have hL3:=fun fr lh s=>ams t hN mT NF fr lh s
   unfold aY at*
   rw[au Qh (by simp[c30])]
   simp(maxDischargeDepth:=6) only[qA,seval,c30]
   generalize U:DC pE 111 (.loop wv) _=D
   obtain⟨K,l3,s3,rfl,⟨rfl,hO,k3⟩,Gm⟩:=yq Hq U (hL3 _ _ _ wW wW wW)
   have g2:aa K 2=I:=by rw[Gm 2 xW];simp only[qA,seval]
   have g3:aa K 3= .nilsl:=by rw[Gm 3 xW];simp only[qA,seval]
   have g4:aa K 4=mT:=by rw[Gm 4 xW];simp only[qA,seval]
   have g5:aa K 5=nT:=by rw[Gm 5 xW];simp only[qA,seval]
   have g6:aa K 6= .i .i64 (H:Int):=by rw[Gm 6 xW];simp only[qA,seval]
   have g7:aa K 7= .ptr .L 7 1 0:=by rw[Gm 7 xW];simp only[qA,seval]
   have g8:aa K 8= .ptr .L 8 1 0:=by rw[Gm 8 xW];simp only[qA,seval]
   have q7:ab l3 7=⟨1,.cells [zT,aT,fT] 0 true⟩:=by rw[k3 7 xW];simp only[qA,seval]
   have q8:ab l3 8=⟨1,.cells [.i .i64 c.rp,.i .i64 c.rl,.i .i64 c.cn,.i .i64 c.st,.i .i64 c.ly,.i .i64 c.nf,.i .i64 c.nt,a7,a8,a9,aw,aA,az,.i .i64 c.gu] 0 true⟩:=by rw[k3 8 xW];simp only[qA,seval]
   have Cg:can=List.range t.fl.length:=by rw[←X];rfl
   clear Gm U
   simp(maxDischargeDepth:=6) only[qA,seval]
   generalize U:DC pE 111 (.loop sJ) _=D
   obtain⟨f4,l4,s4,rfl,r,pr4⟩:=yq zP U (Rz can rfl (aa K 15) _ _ _ (.inr (by rw[Cg];exact hO)) (by simp only[qA,seval,g3]) (by simp only[qA,seval,g4]) (by simp only[qA,seval,g5]) (by simp only[qA,seval,g6]) (by simp only[qA,seval,g7]) (by simp only[qA,seval,g8]) wW wW q7 q8 (by simp only[qA,seval,g2];exact O))
   have ZF:=fun lh=>SE lh _ _ _ r
   obtain⟨v4,e4⟩: ∃v,aa f4 2=v:=⟨_,rfl⟩
   rw[e4]at r ZF
   simp(maxDischargeDepth:=6) only[qA,seval,e4,ZF]
   exact⟨_,_,rfl,r⟩
  ·obtain⟨e,k,rfl⟩: ∃e k,d=e++ [k]:=⟨d.dropLast,d.getLast h0,(List.dropLast_concat_getLast h0).symm⟩
   have aEp:=hd.resolve_left h0
   obtain⟨h1,h2,h3,h4⟩:=fJ aEp
   obtain⟨f,hf,AX⟩:=na (h3 k xv)
   have Y:(e++ [k]).length=e.length+1:=by rw[List.length_append];rfl
   have hcn:can=j5 t.fl.length (jn c t.fl) f:=by rw[←X];unfold pY;rw[List.getLast?_append];simp[AX]
   obtain⟨q,hq⟩:=iw f hf
   have hcl:=mP (e++ [k])
   have hdr:(l6 (e++ [k])).drop (e.length*2)= [.i .i64 (f:Int),.b k.2]:=by
    rw[OL,List.drop_append,mP,Nat.sub_self,List.drop_of_length_le (by rw[mP];omega),List.nil_append,List.drop_zero,←AX]
    rfl
   have hia: ∀kk,iaV (.sl (l6 (e++ [k])) (e.length+1) false) (.i kk (e.length:Int)) 2=some (.vp [.i .i64 (f:Int),.b k.2]):=fun kk=>by
    rw[cO,if_pos ⟨by omega,by simp,by rw[hcl,Y];simp⟩,Int.toNat_natCast,hdr]
   have hw:wr .i64 (((e.length+1:Nat):Int)-1)=(e.length:Int):=by rw[bj yv];omega
   have eF:lenI (T.sl (l6 (e++ [k])) (e.length+1) false)=some (.i .i64 ((e.length+1:Nat):Int)):=rfl
   have h6: ¬((e.length+1:Nat):Int)=6:=yv
   have Mk:(0:Int)<((e.length+1:Nat):Int):=yv
   rw[Y]at*
   have hsl:IsSl (qd can) can.length (ints (can.map Int.ofNat)):=by
    unfold qd
    split
    ·rename_i h;rw[h];exact .inl ⟨rfl,rfl,rfl⟩
    ·exact .inr ⟨_,rfl⟩
   rw[←hcn]at hq
   unfold aY at*
   rw[au Qh (by simp[c30])]
   simp(maxDischargeDepth:=6) only[qA,seval,c30,eF,h6,Mk,hw,hia,hq]
   generalize U:DC pE 111 (.loop sJ) _=D
   obtain⟨f4,l4,s4,rfl,r,pr4⟩:=yq zP U (Rz can rfl (qd can) _ _ _ (.inl hsl) (by simp only[qA,seval];rw[List.length_append];rfl) wW wW wW wW wW wW wW wW wW (by simp only[qA,seval];exact O))
   have ZF:=fun lh=>SE lh _ _ _ r
   obtain⟨v4,e4⟩: ∃v,aa f4 2=v:=⟨_,rfl⟩
   rw[e4]at r ZF
   simp(maxDischargeDepth:=6) only[qA,seval,e4,ZF]
   exact⟨_,_,rfl,r⟩
end
def vBd:Nat→Nat
 |0=>0
 |n+1=>2*(1+12*vBd n)
theorem Gq{α β:Type}(f:α→List β)(B:Nat): ∀(l:List α),(∀x∈l,(f x).length≤B)→(l.flatMap f).length≤l.length*B
 | [],_=>by simp
 |x::l,h=>by
  have h1:=h x List.mem_cons_self
  have h2:=Gq f B l fun y r=>h y (List.mem_cons_of_mem _ r)
  rw[List.flatMap_cons,List.length_append,List.length_cons,Nat.succ_mul]
  omega
section
variable(N:Nat)(J:Nat→Nat→Bool)(cg:Nat→Bool)(ok:List (Int×Bool)→Bool)(lg:List (Int×Bool)→Lg)(hN:N≤12)
include hN
theorem one_le(r:List (Int×Bool)→Nat→Nat→List Lg)(B:Nat)(D: ∀x g h,(r x g h).length≤B)(x:List (Int×Bool))(f h:Nat):(si N J ok lg r x f h).length≤1+12*B:=by
 unfold si
 rw[List.length_append]
 have h1:(if ok x=true then [lg x]else []).length≤1:=by split <;> simp
 have h2:=Gq (fun g=>r x g h) B (j5 N J f) fun g _=>D x g h
 have h3:(j5 N J f).length≤12:=Nat.le_trans (Gh _ _) hN
 have h4:(j5 N J f).length*B≤12*B:=Nat.mul_le_mul_right B h3
 omega
theorem ZG: ∀(n:Nat) (d:List (Int×Bool)) (f h:Nat),(ew N J cg ok lg n d f h).length≤vBd n
 |0,_,_,_=>Nat.zero_le _
 |n+1,d,f,h=>by
  have ih:=fun x g h=>ZG n x g h
  have h1:=fun x h=>one_le N J ok lg hN _ _ ih x f h
  rw[ew,List.length_append,vBd]
  have a1:(if cg f=true then si N J ok lg (ew N J cg ok lg n) (d++ [((f:Int),false)]) f h else []).length≤1+12*vBd n:=by
   split
   ·exact h1 _ _
   ·simp
  have a2:(if h=0 then []else si N J ok lg (ew N J cg ok lg n) (d++ [((f:Int),true)]) f (h-1)).length≤1+12*vBd n:=by
   split
   ·simp
   ·exact h1 _ _
  omega
theorem ZH(H:Nat):(j6 N J cg ok lg H).length≤1000000000:=by
 have h:=Gq (fun f=>ew N J cg ok lg 6 [] f H) (vBd 6) (List.range N) fun f _=>ZG N J cg ok lg hN 6 [] f H
 rw[List.length_range]at h
 have h2:N*vBd 6≤12*vBd 6:=Nat.mul_le_mul_right _ hN
 have h3:12*vBd 6≤1000000000:=xW
 exact Nat.le_trans h (Nat.le_trans h2 h3)
end
def Sc(out:List Lg)(v:T):Prop:= ∃cs,IsSl v out.length cs∧aB LgQ out cs
theorem aeY(out:List Lg): ∃v,Sc out v:=by
 obtain⟨cs,h⟩: ∃cs,aB LgQ out cs:=by
  induction out with
  |nil=>exact⟨[],rfl⟩
  |cons g out ih=>
   obtain⟨cs,h⟩:=ih
   exact⟨_,_,_,rfl,⟨.sl (l6 g.du) g.du.length false,rfl,.inr ⟨_,rfl⟩⟩,h⟩
 exact⟨.sl cs out.length false,cs,.inr ⟨_,rfl⟩,h⟩
theorem fV{v:T}(h:froz1 v=true):kept1 v=true:=by cases v <;> simp_all[froz1,kept1]
theorem O0{v:T}(h:froz1 v=true):kept v=true:=by cases v <;> simp_all[froz1,kept,kept1]
section
variable(t:Tt)(c:Ct)(zT aT fT a7 a8 a9 aw aA az:T)(hT:kN t zT aT fT)(hC:mG c a7 a8 a9 aw aA az)(hA:Hb c)(hL: ∀f∈t.fl,f.nu.length≤gm)(hN:t.fl.length≤12)
include hT hC hA hN
include hL
def amt(t:Tt)(c:Ct)(ops:List Int)(H:Nat):Prop:=20000<R5 c t.fl ops H∨2000<(j6 t.fl.length (jn c t.fl) (iF ops) (iI t c) (cz t c) H).length
theorem ZI(ops:List Int)(Z:T)(ho:IsSl Z ops.length (ints ops))(W:ops.length≤1000)(H:Int): ∃v s,ae pE 8 [.agg [zT,aT,fT],.agg (aY c a7 a8 a9 aw aA az),Z,.i .i64 H] []=some (if Gn t c ops H=0 then(if 20000<R5 c t.fl ops H.toNat∨2000<(j6 t.fl.length (jn c t.fl) (iF ops) (iI t c) (cz t c) H.toNat).length then .tup [.nilsl,.i .i64 10]else .tup [v,.i .i64 0])else .tup [.nilsl,.i .i64 (Gn t c ops H)],s)∧Sc (j6 t.fl.length (jn c t.fl) (iF ops) (iI t c) (cz t c) H.toNat) v:=by
 have U:=yJ t c zT aT fT a7 a8 a9 aw aA az hT hC
 have RF:=ho.froz
 have aEj:=ho.froz1
 obtain⟨s0,V⟩:=aeS t c zT aT fT a7 a8 a9 aw aA az hT hC hA hL yv ops Z ho W H
 by_cases r:Gn t c ops H=0
 ·obtain⟨h0,h2,h3⟩:eK t c=0∧Cq t.fl.length none ops=0∧ ¬(H<0∨6<H):=by
   unfold Gn at r
   by_cases h0:eK t c=0
   ·rw[if_pos h0]at r
    by_cases h2:Cq t.fl.length none ops=0
    ·rw[if_pos h2]at r
     refine⟨h0,h2,fun h3=> ?_⟩
     rw[if_pos h3]at r;cases r
    ·rw[if_neg h2]at r;exact absurd r h2
   ·rw[if_neg h0]at r;exact absurd r h0
  obtain⟨m,rfl⟩: ∃m:Nat,H=(m:Int):=⟨H.toNat,by omega⟩
  have e2:=Zx t c zT aT fT a7 a8 a9 aw aA az hT hC yv ops Z ho W
  have e3:=En t c zT aT fT a7 a8 a9 aw aA az hT hC yv
  rw[if_pos h2]at e2
  rw[r,if_pos rfl,Int.toNat_natCast]at V
  simp only[r,if_true,Int.toNat_natCast]
  have hnf:froz1 (bA t.fl.length (((List.range t.fl.length).map (j5 t.fl.length (jn c t.fl))).map qd))=true:=by unfold bA;split <;> rfl
  have hnF:froz (bA t.fl.length (((List.range t.fl.length).map (j5 t.fl.length (jn c t.fl))).map qd))=true:=by unfold bA;split <;> rfl
  have iw: ∀f,f<t.fl.length→ ∃q,∀kk,iaV (bA t.fl.length (((List.range t.fl.length).map (j5 t.fl.length (jn c t.fl))).map qd)) (.i kk (f:Int)) 1=some (.vp (qd (j5 t.fl.length (jn c t.fl) f)::q)):=fun f hf=>by
   have W:(((List.range t.fl.length).map (j5 t.fl.length (jn c t.fl))).map qd).length=t.fl.length:=xv
   unfold bA
   rw[if_neg yv]
   refine⟨(((List.range t.fl.length).map (j5 t.fl.length (jn c t.fl))).map qd).drop (f+1),fun kk=> ?_⟩
   rw[cO,if_pos ⟨by omega,by simpa using hf,by rw[W];simp;omega⟩,Int.toNat_natCast,Nat.mul_one,List.drop_eq_getElem_cons (by rw[W];exact hf)]
   simp
  have hmf:froz1 (.sl (xw (inB t.fl.length ops)) t.fl.length false)=true:=rfl
  have hmF:froz (.sl (xw (inB t.fl.length ops)) t.fl.length false)=true:=rfl
  obtain⟨v,s',e4,hV⟩:=ZE t c zT aT fT a7 a8 a9 aw aA az hT hC hA hL h0 yv (.sl (xw (inB t.fl.length ops)) t.fl.length false) (bA t.fl.length (((List.range t.fl.length).map (j5 t.fl.length (jn c t.fl))).map qd)) hmF hnF (iF ops) (Zs t.fl.length ops) rfl iw 6 [] .nilsl m [] .nilsl [] rfl (.inl ⟨rfl,rfl⟩) (.inl rfl) yv (.inl ⟨rfl,rfl,rfl⟩) (by
   have:=ZH t.fl.length (jn c t.fl) (iF ops) (iI t c) (cz t c) hN m
   unfold j6 at this
   simpa[pY]using this)
  have X:(pY t.fl.length (jn c t.fl) []).flatMap (fun f=>ew t.fl.length (jn c t.fl) (iF ops) (iI t c) (cz t c) 6 [] f m)=j6 t.fl.length (jn c t.fl) (iF ops) (iI t c) (cz t c) m:=rfl
  rw[List.nil_append,X]at hV
  clear X
  generalize hmT:T.sl (xw (inB t.fl.length ops)) t.fl.length false=mT at*
  generalize bA t.fl.length (((List.range t.fl.length).map (j5 t.fl.length (jn c t.fl))).map qd)=nT at*
  unfold aY at*
  have I:(kept1 zT=true∧kept1 aT=true∧kept1 fT=true∧kept1 a7=true∧kept1 a8=true∧kept1 a9=true∧kept1 aw=true∧kept1 aA=true∧kept1 az=true):=by
   obtain⟨⟨z1,z2,z3,z4,z5,z6,z7,z8,z9⟩,_⟩:=U
   exact⟨fV z1,fV z2,fV z3,fV z4,fV z5,fV z6,fV z7,fV z8,fV z9⟩
  have Yg:kept mT=true:=O0 hmf
  have jj:kept nT=true:=O0 hnf
  rcases hV with⟨rfl,h5,rfl⟩|⟨g,cs,rfl,rfl,b1⟩
  ·refine⟨.nilsl, ?_⟩
   have K:Sc (j6 t.fl.length (jn c t.fl) (iF ops) (iI t c) (cz t c) m) .nilsl:=⟨[],by rw[h5];exact .inl ⟨rfl,rfl,rfl⟩,by rw[h5];rfl⟩
   have D: ¬2000<(j6 t.fl.length (jn c t.fl) (iF ops) (iI t c) (cz t c) m).length:=by rw[h5];simp
   rw[au fn8 (by simp[c8])]
   by_cases Y:20000<R5 c t.fl ops m
   all_goals
    simp(maxDischargeDepth:=6) only[qA,bp,dx,seval,aH,c8,U,I,V,e2,e3,e4,Ux,K1,abg,ajo,ajr,ajp,RF,Yg,jj,Y,D,or_self,true_or]
    exact⟨_,rfl,K⟩
  ·refine⟨.sl cs (j6 t.fl.length (jn c t.fl) (iF ops) (iI t c) (cz t c) m).length false, ?_⟩
   have K:Sc (j6 t.fl.length (jn c t.fl) (iF ops) (iI t c) (cz t c) m) (.sl cs (j6 t.fl.length (jn c t.fl) (iF ops) (iI t c) (cz t c) m).length false):=⟨cs,.inr ⟨_,rfl⟩,b1⟩
   have hcl:=b1.len LgQ.len
   have eF:lenI (T.isl .S 0 g 0 (j6 t.fl.length (jn c t.fl) (iF ops) (iI t c) (cz t c) m).length 7)=some (.i .i64 ((j6 t.fl.length (jn c t.fl) (iF ops) (iI t c) (cz t c) m).length:Int)):=rfl
   have hzS:=fun q lh=>BR (m:=q) (lh:=lh) (s:= [(⟨g,.cells cs 0 false⟩:ah)]) (k:=0) rfl hcl
   rw[au fn8 (by simp[c8])]
   by_cases Y:20000<R5 c t.fl ops m
   ·simp(maxDischargeDepth:=6) only[qA,seval,c8,U,V,Ux,RF,Y,true_or]
    exact⟨_,rfl,K⟩
   ·by_cases D:2000<(j6 t.fl.length (jn c t.fl) (iF ops) (iI t c) (cz t c) m).length
    ·have O:(2000:Int)<((j6 t.fl.length (jn c t.fl) (iF ops) (iI t c) (cz t c) m).length:Int):=yv
     simp(maxDischargeDepth:=6) only[qA,bp,dx,seval,aH,c8,U,I,V,e2,e3,e4,Ux,K1,abg,ajo,ajr,ajp,RF,Yg,jj,Y,D,O,eF,or_true]
     exact⟨_,rfl,K⟩
    ·have O: ¬(2000:Int)<((j6 t.fl.length (jn c t.fl) (iF ops) (iI t c) (cz t c) m).length:Int):=yv
     simp(maxDischargeDepth:=6) only[qA,bp,dx,seval,aH,c8,U,I,V,e2,e3,e4,Ux,K1,abg,ajo,ajr,ajp,RF,Yg,jj,Y,D,O,eF,hzS,or_self]
     exact⟨_,rfl,K⟩
 ·obtain⟨v,K⟩:=aeY (j6 t.fl.length (jn c t.fl) (iF ops) (iI t c) (cz t c) H.toNat)
  refine⟨v, ?_⟩
  rw[if_neg r]
  unfold aY at*
  rw[au fn8 (by simp[c8])]
  simp(maxDischargeDepth:=6) only[qA,seval,c8,U,V,Ux,RF,r]
  exact⟨_,rfl,K⟩
end
structure TtA (t:Tt):Prop where
 z:(∀u∈t.zo,u.sh.length≤gm)∧t.zo.length≤gm
 a:t.ap.length≤gm
 f:t.fl.length≤gm∧ ∀u∈t.fl,u.nu.length≤gm
section
variable(t:Tt)(c:Ct)(zT aT fT a7 a8 a9 aw aA az:T)(hT:kN t zT aT fT)(hC:mG c a7 a8 a9 aw aA az)
end
end Go.Proofs.YtnkgnjecmfkcfaaGreat
