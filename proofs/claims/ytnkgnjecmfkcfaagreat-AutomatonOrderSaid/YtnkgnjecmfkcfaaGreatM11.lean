/- Walks of functions of the program and of the reference, and their plain laws, part 11. Conditions: the theorems' own. -/
import Derived.Test.YtnkgnjecmfkcfaaGreatGS
import Derived.Test.YtnkgnjecmfkcfaaGreatM4
import Derived.Test.YtnkgnjecmfkcfaaGreatM9
import Derived.Test.YtnkgnjecmfkcfaaGreatM10
import Derived.KernelRfl
set_option maxRecDepth 100000
set_option linter.unusedSimpArgs false
set_option linter.unusedVariables false
set_option maxHeartbeats 16000000
namespace Go.Proofs.YtnkgnjecmfkcfaaGreat
open Go Go.Ev
theorem W7{R:List ah}{vs:List (Nat×T×RL)}{sz:Nat}{v:T}(l:RL)(h:sQ R vs)(r:(sz,v,l)∈vs): ∃n:Nat,((v= .nilsl∧n=0)∨ ∃i g,v= .isl .S (i+7) g 0 n sz)∧n≤1000∧lenI v=some (.i .i64 (n:Int)):=by
 rcases h _ r with⟨h,_⟩|⟨i,g,n,cs,wm,h1,h2,h3,h4,h5,h6⟩
 ·simp only at h;subst h;exact⟨0,.inl ⟨rfl,rfl⟩,by omega,rfl⟩
 ·simp only at h1;subst h1;exact⟨n,.inr ⟨i,g,rfl⟩,h5,rfl⟩
theorem W8{m:Nat}{lh:aE ah}{sh:List ah}{k g r:Nat}{cs:List T}{bx:Bool}(h:ab lh k=⟨g,.cells cs r bx⟩):fzW (m+1) lh sh false (.ptr .L k g 0)=(sJ m lh sh false cs).map fun q=>(.vp q.1,q.2++ [(.L,k,⟨g,.cells cs cs.length bx⟩)]):=by
 have D:(St.mk .nil lh sh).get .L k=ab lh k:=rfl
 unfold fzW sJ
 rw[fz]
 simp only[Bool.false_and,Bool.false_eq_true,if_false,Q.run,D,h,if_true,List.drop_zero]
 rw[bp]
 cases (bf (fz false (m+1)) cs).run (St.mk .nil lh sh).get sh.length <;> rfl
def RoS(sz:Nat)(l:RL)(v:T):Prop:= ∃n cs,IsSl v n cs∧n*sz=cs.length∧vK sz l cs
theorem sS{R:List ah}{vs:List (Nat×T×RL)}{sz:Nat}{v:T}(l:RL)(h:sQ R vs)(D:(sz,v,l)∈vs)(a7:T)(m:List (List Nat×Nat))(kn:List (Nat×Int)): ∃r us,froz1 r=true∧(∀lh n,fzW n lh (ee a7 m kn R) false v=some (r,us))∧RoS sz l r:=by
 rcases h _ D with⟨h,hl⟩|⟨i,g,n,cs,wm,h1,h2,h3,h4,h5,h6⟩
 ·simp only at h hl;subst h hl;exact⟨.nilsl,[],rfl,fun lh n=>wP rfl,0,[],.inl ⟨rfl,rfl,rfl⟩,by simp,vK.nil sz⟩
 ·simp only at h1 h4 h6;subst h1
  refine⟨.sl ((cs.drop 0).take (n*sz)) n false,[(.S,i+7,⟨g,.cells cs cs.length false⟩)],rfl,fun lh k=> ?_,n,cs,.inr ⟨false,by rw[h4];simp⟩,h4,h6⟩
  have F:(St.mk .nil lh (ee a7 m kn R)).get .S (i+7)=aI R i:=Dl _ _ _ _ _
  simp_all[fzW,fz,Bool.false_and,Bool.false_eq_true,Q.run,Nat.zero_add,Nat.le_refl]
def Lv(t:Tt)(c:Ct)(vs:List T):Prop:= ∃(q:List (List Nat×List T)) (r D F H I J cr:T) (K:Bool),vs= [.vm (q.map fun p=>sK p.1) (q.map fun p=>T.agg p.2),.nilsl,r,D,F,.nilsl,H,I,J,cr,.b K]∧W2 t.zo t.ap q∧q.map Prod.fst=t.ap.map Ap.cd∧
 RoS 4 (vL c 1 c.ru.length) r∧RoS 4 (vL c 2 c.ru.length) D∧RoS 4 (vL c 3 c.ru.length) F∧RoS 3 (tf c 1 c.co.length) H∧RoS 3 (tf c 2 c.co.length) I∧RoS 3 (tf c 3 c.co.length) J∧RoS 3 (RO c c.cr.length) cr
theorem awP(t:Tt)(c:Ct)(zT aT fT a7 a8 a9 aw aA az:T)(hT:ky t zT aT fT)(hC:kP c a7 a8 a9 aw aA az)(hS:qh c)(ht:pG t=0)(hc:eV c=0)(hnz:(t.zo.map Zo.nm).Nodup)(hlz:t.zo.length≤100)(hna:(t.ap.map Ap.cd).Nodup)(hla:t.ap.length≤100)(hzn: ∀u∈t.ap,u.zn∈t.zo.map Zo.nm)
  (IK: ∀u∈c.ru,IE c.cs u.sc u.x) (lru:c.ru.length≤40) (jR: ∀u∈c.co,IE c.cs u.sc u.x) (lco:c.co.length≤40) (qR: ∀u∈c.cr,IE c.cs 1 u) (lcr:c.cr.length≤40) (lcs:c.cs.length≤32):
  ∃s vs,ae pE 35 [.agg [zT,aT,fT],.agg (aV c a7 a8 a9 aw aA az)] []=some (.tup [.vp (zT::aT::fT::(aV c a7 a8 a9 aw aA az++vs)),.i .i64 0],s)∧vs.all froz1=true∧vs.length=11∧Lv t c vs:=by
 have hpt:=akZ t zT aT fT hT
 obtain⟨s1,V⟩:=NB c a7 a8 a9 aw aA az hC hS
 rw[ht]at hpt
 rw[hc]at V
 obtain⟨⟨zc,z1,z2⟩,⟨ac,b1,b2⟩,⟨fc,W,f2⟩⟩:=hT
 obtain⟨⟨c7,X,j7⟩,⟨c8,i8,j8⟩,⟨c9,i9,j9⟩,⟨ti,U,ye⟩,⟨Gv,i11,BG⟩,⟨Kd,i12,Dr⟩⟩:=hC
 have hfT:=W.froz1
 have hnc:=ak0 c.cs a7 c7 X j7 (by unfold iP;omega)
 rw[show E6 a7 (bA c.cs c.cs.length) [] 4=ee a7 (bA c.cs c.cs.length) [] []by unfold ee;rw[List.append_nil]]at hnc
 have hk7:kept a7=true:=by rcases X with⟨rfl,_,_⟩|⟨ex,rfl⟩ <;> rfl
 rw[av asB (by simp[yY])]
 unfold aV at V ⊢
 simp only[qA,seval,yY,hpt,V,aAM,asU,z1.froz1,b1.froz1,W.froz1,X.froz1,i8.froz1,i9.froz1,U.froz1,i11.froz1,i12.froz1,z1.lenI]
 generalize H:DC pE 232 (.loop jf) _=D
 obtain⟨W,l1,s2,rfl,⟨N,I,O,J,⟨m,IB,hm⟩,rfl⟩,F⟩:=aCj t.zo hnz zT zc z1 z2 hlz ⟨1,.cells [zT,aT,fT] 0 true⟩ ⟨1,.cells [.i .i64 c.rp,.i .i64 c.rl,.i .i64 c.cn,.i .i64 c.st,.i .i64 c.ly,.i .i64 c.nf,.i .i64 c.nt,a7,a8,a9,aw,aA,az,.i .i64 c.gu] 0 true⟩ ⟨1,.map [] [] false⟩ ⟨1,.cells (fg zT aT fT c a7 a8 a9 aw aA az (fD .nilsl .nilsl .nilsl .nilsl .nilsl .nilsl .nilsl (.b false))) 0 true⟩ H yW yW yW yW yW yW yW (by unfold fg aV fD;simp only[List.cons_append,List.nil_append];simp only[qA,seval]) yW
 have awQ:aa W 2= .ptr .L 2 1 0:=by rw[F 2 zz];simp only[qA,seval]
 have aCq:aa W 3= .ptr .L 3 1 0:=by rw[F 3 zz];simp only[qA,seval]
 have awR:aa W 8= .ptr .L 37 1 0:=by rw[F 8 zz];simp only[qA,seval]
 have aCr:aa W 9= .mp .L 38 1:=by rw[F 9 zz];simp only[qA,seval]
 clear F
 simp only[qA,seval,awQ,N,b1.lenI]
 have r:=J
 unfold fg aV fD at r
 simp only[List.cons_append,List.nil_append]at r
 clear H
 generalize H:DC pE 232 (.loop jV) _=D
 obtain⟨f2,l1,s2,rfl,⟨N,I,J,⟨q,O,hq⟩,rfl⟩,F⟩:=aCk t.ap hna aT ac b1 b2 hla t.zo m hm hzn zT aT fT c a7 a8 a9 aw aA az (fD .nilsl .nilsl .nilsl .nilsl .nilsl .nilsl .nilsl (.b false)) ⟨1,.cells [zT,aT,fT] 0 true⟩ ⟨1,.cells [.i .i64 c.rp,.i .i64 c.rl,.i .i64 c.cn,.i .i64 c.st,.i .i64 c.ly,.i .i64 c.nf,.i .i64 c.nt,a7,a8,a9,aw,aA,az,.i .i64 c.gu] 0 true⟩ H (by simp only[qA,seval,awR]) (by simp only[qA,seval,aCr]) yW yW yW (by simp only[N]) (by simp only[I]) (by simp only[O]) (by unfold fg aV fD;simp only[List.cons_append,List.nil_append];simp only[r]) (by simp only[IB])
 have aIB:aa f2 2= .ptr .L 2 1 0:=by rw[F 2 zz];simp(maxDischargeDepth:=6) only[qA,seval,awQ]
 have awS:aa f2 3= .ptr .L 3 1 0:=by rw[F 3 zz];simp only[qA,seval,aCq]
 have awT:aa f2 8= .ptr .L 37 1 0:=by rw[F 8 zz];simp only[qA,seval,awR]
 clear F r
 simp only[qA,seval,awS,I,hk7,hnc,asV,i8.lenI]
 have wS:iT c.cs []:=fun i v h=>by simp[aM]at h
 have r:=J
 unfold fg aV fD at r
 simp only[List.cons_append,List.nil_append]at r
 clear H
 generalize H:DC pE 232 (.loop fE) _=D
 obtain⟨f3,l1,s2,rfl,⟨N,I,O,R,kn,r1,r2,r3,rfl,iY,kO,J⟩,F⟩:=aCl c a7 a8 c7 c8 X j7 i8 j8 lru IK zT aT fT a9 aw aA az (.b false) ⟨1,.cells [zT,aT,fT] 0 true⟩ ⟨1,.cells [.i .i64 c.rp,.i .i64 c.rl,.i .i64 c.cn,.i .i64 c.st,.i .i64 c.ly,.i .i64 c.nf,.i .i64 c.nt,a7,a8,a9,aw,aA,az,.i .i64 c.gu] 0 true⟩ ⟨1,.map (q.map fun p=>sK p.1) (q.map fun p=>T.agg p.2) false⟩ [] wS H rfl (by simp only[qA,seval,awT]) yW yW yW yW (by simp only[N]) (by simp only[I]) (by simp only[O]) (by unfold fg aV fD;simp only[List.cons_append,List.nil_append];simp only[r])
 have awU:aa f3 3= .ptr .L 3 1 0:=by rw[F 3 zz];simp only[qA,seval,awS]
 have awV:aa f3 8= .ptr .L 37 1 0:=by rw[F 8 zz];simp only[qA,seval,awT]
 have ahu:aa f3 14= .ptr .S 2 1 0:=by rw[F 14 zz];simp only[qA,seval]
 clear F r
 simp only[qA,seval,awU,I,i9.lenI]
 have r:=J
 unfold fg aV fD at r
 simp only[List.cons_append,List.nil_append]at r
 clear H
 generalize H:DC pE 232 (.loop jU) _=D
 obtain⟨f4,l1,s2,rfl,⟨N,I,O,R1,IL,c1,c2,c3,rfl,iY,kO,J⟩,F⟩:=aCm c a7 a9 c7 c9 X j7 i9 j9 lco jR zT aT fT a8 aw aA az (.b false) r1 r2 r3 ⟨1,.cells [zT,aT,fT] 0 true⟩ ⟨1,.cells [.i .i64 c.rp,.i .i64 c.rl,.i .i64 c.cn,.i .i64 c.st,.i .i64 c.ly,.i .i64 c.nf,.i .i64 c.nt,a7,a8,a9,aw,aA,az,.i .i64 c.gu] 0 true⟩ ⟨1,.map (q.map fun p=>sK p.1) (q.map fun p=>T.agg p.2) false⟩ kn iY R _ _ _ kO H rfl (by simp only[qA,seval,awV]) (by simp only[qA,seval,ahu]) yW yW yW (by simp only[N]) (by simp only[I]) (by simp only[O]) (by unfold fg aV fD;simp only[List.cons_append,List.nil_append];simp only[r])
 have aCs:aa f4 3= .ptr .L 3 1 0:=by rw[F 3 zz];simp only[qA,seval,awU]
 have awW:aa f4 8= .ptr .L 37 1 0:=by rw[F 8 zz];simp only[qA,seval,awV]
 have awX:aa f4 14= .ptr .S 2 1 0:=by rw[F 14 zz];simp only[qA,seval,ahu]
 clear F r
 simp only[qA,seval,aCs,I,U.lenI]
 have r:=J
 unfold fg aV fD at r
 simp only[List.cons_append,List.nil_append]at r
 clear H
 generalize H:DC pE 232 (.loop je) _=D
 obtain⟨f5,l1,s2,rfl,⟨N,I,O,R2,NC,cr,rfl,iY,kO,J⟩,F⟩:=aCn c a7 aw c7 ti X j7 U ye lcr qR zT aT fT a8 a9 aA az (.b false) r1 r2 r3 c1 c2 c3 ⟨1,.cells [zT,aT,fT] 0 true⟩ ⟨1,.cells [.i .i64 c.rp,.i .i64 c.rl,.i .i64 c.cn,.i .i64 c.st,.i .i64 c.ly,.i .i64 c.nf,.i .i64 c.nt,a7,a8,a9,aw,aA,az,.i .i64 c.gu] 0 true⟩ ⟨1,.map (q.map fun p=>sK p.1) (q.map fun p=>T.agg p.2) false⟩ IL iY R1 _ _ _ _ _ _ kO H rfl (by simp only[qA,seval,awW]) (by simp only[qA,seval,awX]) yW yW yW (by simp only[N]) (by simp only[I]) (by simp only[O]) (by unfold fg aV fD;simp only[List.cons_append,List.nil_append];simp only[r])
 have Y:aa f5 8= .ptr .L 37 1 0:=by rw[F 8 zz];simp only[qA,seval,awW]
 clear F r
 have Z:=kO.toW zZ
 obtain⟨n2,B5,aCt,ZN⟩:=W7 (sz:=4) (v:=r2) (vL c 2 c.ru.length) Z (by simp[gw])
 obtain⟨n1,B4,aCu,J6⟩:=W7 (sz:=3) (v:=c2) (tf c 2 c.co.length) Z (by simp[gw])
 have r:=J
 unfold fg aV fD at r
 simp only[List.cons_append,List.nil_append]at r
 simp only[qA,seval,eI,Y,r,ZN]
 have r:=J
 unfold fg aV fD at r
 simp only[List.cons_append,List.nil_append]at r
 clear H
 generalize H:DC pE 232 (.loop jd) _=D
 obtain⟨f6,l1,s2,rfl,⟨N,I,O,R3,nb,rfl,hw3,J⟩,F⟩:=awN c a7 a8 a9 aw aA az zT aT fT r1 r2 r3 c1 c2 c3 cr _ NC false R2 _ _ _ _ _ _ _ Z n2 B5 aCt ⟨1,.cells [zT,aT,fT] 0 true⟩ ⟨1,.cells [.i .i64 c.rp,.i .i64 c.rl,.i .i64 c.cn,.i .i64 c.st,.i .i64 c.ly,.i .i64 c.nf,.i .i64 c.nt,a7,a8,a9,aw,aA,az,.i .i64 c.gu] 0 true⟩ ⟨1,.map (q.map fun p=>sK p.1) (q.map fun p=>T.agg p.2) false⟩ H rfl (by simp only[qA,seval,Y]) yW yW (by simp only[N]) (by simp only[I]) (by simp only[O]) (by unfold fg aV fD;simp only[List.cons_append,List.nil_append];simp only[r])
 have ak2:aa f6 8= .ptr .L 37 1 0:=by rw[F 8 zz];simp only[qA,seval,Y]
 clear F r
 have r:=J
 unfold fg aV fD at r
 simp only[List.cons_append,List.nil_append]at r
 simp only[qA,seval,eI,ak2,r,J6]
 have r:=J
 unfold fg aV fD at r
 simp only[List.cons_append,List.nil_append]at r
 clear H
 generalize H:DC pE 232 (.loop jc) _=D
 obtain⟨f7,l1,s2,rfl,⟨N,I,O,R4,nb1,rfl,K,J⟩,F⟩:=awO c a7 a8 a9 aw aA az zT aT fT r1 r2 r3 c1 c2 c3 cr _ NC nb R3 _ _ _ _ _ _ _ hw3 n1 B4 aCu ⟨1,.cells [zT,aT,fT] 0 true⟩ ⟨1,.cells [.i .i64 c.rp,.i .i64 c.rl,.i .i64 c.cn,.i .i64 c.st,.i .i64 c.ly,.i .i64 c.nf,.i .i64 c.nt,a7,a8,a9,aw,aA,az,.i .i64 c.gu] 0 true⟩ ⟨1,.map (q.map fun p=>sK p.1) (q.map fun p=>T.agg p.2) false⟩ H rfl (by simp only[qA,seval,ak2]) yW yW (by simp only[N]) (by simp only[I]) (by simp only[O]) (by unfold fg aV fD;simp only[List.cons_append,List.nil_append];simp only[r])
 have aCv:aa f7 8= .ptr .L 37 1 0:=by rw[F 8 zz];simp only[qA,seval,ak2]
 clear F r
 have r:=J
 unfold fg aV fD at r
 simp only[List.cons_append,List.nil_append]at r
 simp only[qA,seval,aCv]
 obtain⟨x0,u0,y0,w0,z0⟩:=sS (sz:=4) (v:=r1) (vL c 1 c.ru.length) K (by simp[gw]) a7 (bA c.cs c.cs.length) NC
 obtain⟨x1,u1,y1,w1,z1'⟩:=sS (sz:=4) (v:=r2) (vL c 2 c.ru.length) K (by simp[gw]) a7 (bA c.cs c.cs.length) NC
 obtain⟨x2,u2,y2,w2,z2'⟩:=sS (sz:=4) (v:=r3) (vL c 3 c.ru.length) K (by simp[gw]) a7 (bA c.cs c.cs.length) NC
 obtain⟨x3,u3,y3,w3,z3⟩:=sS (sz:=3) (v:=c1) (tf c 1 c.co.length) K (by simp[gw]) a7 (bA c.cs c.cs.length) NC
 obtain⟨x4,u4,y4,w4,z4⟩:=sS (sz:=3) (v:=c2) (tf c 2 c.co.length) K (by simp[gw]) a7 (bA c.cs c.cs.length) NC
 obtain⟨x5,u5,y5,w5,z5⟩:=sS (sz:=3) (v:=c3) (tf c 3 c.co.length) K (by simp[gw]) a7 (bA c.cs c.cs.length) NC
 obtain⟨x6,u6,y6,w6,z6⟩:=sS (sz:=3) (v:=cr) (RO c c.cr.length) K (by simp[gw]) a7 (bA c.cs c.cs.length) NC
 rw[W8 r]
 simp only[qA,seval,O,mpV,z1.froz1,b1.froz1,hfT,X.froz1,i8.froz1,i9.froz1,U.froz1,i11.froz1,i12.froz1,w0,w1,w2,w3,w4,w5,w6]
 refine⟨_,_,rfl, ?_, ?_,q,x0,x1,x2,x3,x4,x5,x6,nb1, ?_,hq.1,hq.2,z0,z1',z2',z3,z4,z5,z6⟩
 ·simp only[List.all_cons,List.all_nil,y0,y1,y2,y3,y4,y5,y6,Bool.and_true,Bool.true_and];rfl
 ·rfl
 ·rfl
theorem nzo: ∀(l:List Zo) (seen:List (List Nat)),Gw seen l=0→(l.map Zo.nm).Nodup∧ ∀z∈l,z.nm∉seen
 | [],seen,_=>⟨List.nodup_nil,fun z hz=>by cases hz⟩
 |z::r,seen,h=>by
  rw[Gw]at h
  by_cases h1:gG z=0
  ·rw[if_neg (by simp[h1])]at h
   by_cases h2:z.nm∈seen
   ·grind
   ·rw[if_neg h2]at h
    obtain⟨D,F⟩:=nzo r _ h
    grind
  ·grind
theorem nap(D:List (List Nat)): ∀(l:List Ap) (seen:List (List Nat)),Gx D seen l=0→(l.map Ap.cd).Nodup∧ ∀z∈l,z.cd∉seen
 | [],seen,_=>⟨List.nodup_nil,fun z hz=>by cases hz⟩
 |z::r,seen,h=>by
  rw[Gx]at h
  by_cases h1:Cd z.cd=false
  ·grind
  ·rw[if_neg h1]at h
   by_cases h2:z.cd∈seen
   ·grind
   ·rw[if_neg h2]at h
    by_cases h3:z.zn∉D
    ·rw[if_pos h3]at h;cases h
    ·rw[if_neg h3]at h
     obtain⟨H,F⟩:=nap D r _ h
     refine⟨?_,fun y hy=> ?_⟩
     ·rw[List.map_cons,List.nodup_cons]
      refine⟨fun I=> ?_,H⟩
      obtain⟨y,hy,e⟩:=List.mem_map.1 I
      exact F y hy (by rw[e];simp)
     ·rcases List.mem_cons.1 hy with rfl|hy
      ·exact h2
      ·exact fun hs=>F y hy (by simp[hs])
theorem nzn(D:List (List Nat)): ∀(l:List Ap) (seen:List (List Nat)),Gx D seen l=0→ ∀u∈l,u.zn∈D
 | [],seen,_,u,hu=>by cases hu
 |z::r,seen,h,u,hu=>by
  rw[Gx]at h
  by_cases h1:Cd z.cd=false
  ·grind
  ·rw[if_neg h1]at h
   by_cases h2:z.cd∈seen
   ·grind
   ·rw[if_neg h2]at h
    by_cases h3:z.zn∉D
    ·rw[if_pos h3]at h;cases h
    ·rw[if_neg h3]at h
     rcases List.mem_cons.1 hu with rfl|hu
     ·simpa using h3
     ·exact nzn D r _ h u hu
theorem nzs: ∀(l:List Zo) (seen:List (List Nat)),Gw seen l=0→ ∀z∈l,gG z=0
 | [],seen,_,u,hu=>by cases hu
 |z::r,seen,h,u,hu=>by
  rw[Gw]at h
  by_cases h1:gG z=0
  ·rw[if_neg (by simp[h1])]at h
   by_cases h2:z.nm∈seen
   ·grind
   ·rw[if_neg h2]at h
    rcases List.mem_cons.1 hu with rfl|hu
    ·exact h1
    ·exact nzs r _ h u hu
  ·grind
theorem nfl(D:List (List Nat)): ∀(l:List Fl) (p:Option Fl),BH D p l=0→ ∀f∈l,Ce D f=0
 | [],p,_,u,hu=>by cases hu
 |z::r,p,h,u,hu=>by
  unfold BH at h
  by_cases h1:Ce D z=0
  ·rw[if_neg (by simp[h1])]at h
   have F:BH D (some z) r=0:=by
    grind
   rcases List.mem_cons.1 hu with rfl|hu
   ·exact h1
   ·exact nfl D r _ F u hu
  ·grind
theorem uU(t:Tt)(h:pG t=0):(∀z∈t.zo,gG z=0)∧(∀u∈t.ap,u.zn∈t.zo.map Zo.nm)∧(∀f∈t.fl,Ce (t.ap.map Ap.cd) f=0)∧t.fl.length≤200:=by
 unfold pG at h
 split at h
 ·cases h
 split at h
 ·cases h
 split at h
 ·cases h
 split at h
 ·grind
 split at h
 ·rename_i q;exact absurd h q
 rename_i a b c d e
 exact⟨nzs t.zo [] zZ,nzn (t.zo.map Zo.nm) t.ap [] zZ,nfl _ t.fl none h,by omega⟩
theorem Lw(t:Tt)(h:pG t=0):(t.zo.map Zo.nm).Nodup∧t.zo.length≤100∧(t.ap.map Ap.cd).Nodup∧t.ap.length≤100:=by
 unfold pG at h
 split at h
 ·cases h
 split at h
 ·cases h
 split at h
 ·cases h
 split at h
 ·grind
 split at h
 ·rename_i q;exact absurd h q
 rename_i a b c d e
 exact⟨(nzo t.zo [] zZ).1,by omega,(nap (t.zo.map Zo.nm) t.ap [] zZ).1,by omega⟩
theorem W9: ∀(l:List Ru) (seen:List (Int×List Nat)),Gy seen l=0→ ∀u∈l,jS u.sc 1 3=true∧bJ u.x=0
 | [],seen,_,u,hu=>by cases hu
 |v::l,seen,h,u,hu=>by
  rw[Gy]at h
  split at h
  ·cases h
  split at h
  ·cases h
  split at h
  ·grind
  rename_i a b c
  rcases List.mem_cons.1 hu with rfl|hu
  ·exact⟨by cases r:jS u.sc 1 3 with|true=>rfl|false=>exact absurd (.inl r) a,by omega⟩
  ·exact W9 l _ h u hu
theorem Xa: ∀(l:List Co),IM l=0→ ∀u∈l,jS u.sc 1 3=true∧bJ u.x=0
 | [],_,u,hu=>by cases hu
 |v::l,h,u,hu=>by
  rw[IM]at h
  split at h
  ·cases h
  split at h
  ·grind
  rename_i a c
  rcases List.mem_cons.1 hu with rfl|hu
  ·grind
  ·exact Xa l h u hu
theorem Xb: ∀(l:List Ex),IP l=0→ ∀u∈l,bJ u=0
 | [],_,u,hu=>by cases hu
 |v::l,h,u,hu=>by
  rw[IP]at h
  split at h
  ·grind
  rename_i c
  rcases List.mem_cons.1 hu with rfl|hu
  ·omega
  ·exact Xb l h u hu
theorem Xc{n:Int}(h:jS n 1 3=true):n=1∨n=2∨n=3:=by
 unfold jS at h
 simp only[Bool.and_eq_true,decide_eq_true_eq]at h
 omega
theorem Lx{l:Cs}{r:Int}{x:Ex}{w:Int}(hv:bJ x=0)(h:Gz l r x w=0): ∃k,x.ty (clk l (iM l l.length)) r=(k,0):=by
 have h2:(cg l r x).2=0:=by
  unfold Gz at h
  split at h
  ·cases h
  ·exact h
 unfold cg at h2
 rw[if_neg (by simp[hv])]at h2
 exact⟨(x.ty (clk l (iM l l.length)) r).1,Prod.ext rfl h2⟩
theorem Xd(cs:Cs): ∀(l:List Ru),IQ cs l=0→ ∀u∈l,Gz cs u.sc u.x 4=0
 | [],_,u,hu=>by cases hu
 |v::l,h,u,hu=>by
  rw[IQ]at h
  split at h
  ·rename_i q;exact absurd h q
  rename_i c
  rcases List.mem_cons.1 hu with rfl|hu
  ·omega
  ·exact Xd cs l h u hu
theorem Xe(cs:Cs): ∀(l:List Co),IS cs l=0→ ∀u∈l,Gz cs u.sc u.x 1=0
 | [],_,u,hu=>by cases hu
 |v::l,h,u,hu=>by
  rw[IS]at h
  split at h
  ·rename_i q;exact absurd h q
  rename_i c
  rcases List.mem_cons.1 hu with rfl|hu
  ·omega
  ·exact Xe cs l h u hu
theorem Xf(cs:Cs): ∀(l:List Ex),Ke cs l=0→ ∀u∈l,Gz cs 1 u 2=0
 | [],_,u,hu=>by cases hu
 |v::l,h,u,hu=>by
  rw[Ke]at h
  split at h
  ·rename_i q;exact absurd h q
  rename_i c
  rcases List.mem_cons.1 hu with rfl|hu
  ·omega
  ·exact Xf cs l h u hu
theorem oV(c:Ct)(h:eV c=0):(∀u∈c.ru,IE c.cs u.sc u.x)∧c.ru.length≤40∧(∀u∈c.co,IE c.cs u.sc u.x)∧c.co.length≤40∧(∀u∈c.cr,IE c.cs 1 u)∧c.cr.length≤40∧c.cs.length≤32:=by
 unfold eV at h
 split at h
 ·rename_i q;exact absurd h q
 split at h
 ·rename_i q;exact absurd h q
 split at h
 ·rename_i q;exact absurd h q
 split at h
 ·rename_i q;exact absurd h q
 rename_i g _ r o
 have g:fR c=0:=zZ
 unfold fR at g
 split at g
 ·cases g
 split at g
 ·cases g
 split at g
 ·rename_i q;exact absurd g q
 split at g
 ·rename_i q;exact absurd g q
 split at g
 ·rename_i q;exact absurd g q
 split at g
 ·rename_i q;exact absurd g q
 rename_i _ sz _ F H I
 have sz:kz c=true:=by simpa using sz
 unfold kz at sz
 simp only[Bool.and_eq_true,decide_eq_true_eq]at sz
 refine⟨fun u D=> ?_,sz.2.1,fun u D=> ?_,by omega,fun u D=> ?_,by omega,sz.1⟩
 ·obtain⟨w,v⟩:=W9 c.ru [] zZ u D
  exact⟨Xc w,v,Lx v (Xd c.cs c.ru zZ u D)⟩
 ·obtain⟨w,v⟩:=Xa c.co zZ u D
  exact⟨Xc w,v,Lx v (Xe c.cs c.co zZ u D)⟩
 ·have v:=Xb c.cr zZ u D
  exact⟨.inl rfl,v,Lx v (Xf c.cs c.cr h u D)⟩
theorem ak4(t:Tt)(c:Ct)(zT aT fT a7 a8 a9 aw aA az:T)(hT:ky t zT aT fT)(hC:kP c a7 a8 a9 aw aA az)(D:qh c)(r:pG t=0)(hc:eV c=0):
  ∃s vs,ae pE 35 [.agg [zT,aT,fT],.agg (aV c a7 a8 a9 aw aA az)] []=some (.tup [.vp (zT::aT::fT::(aV c a7 a8 a9 aw aA az++vs)),.i .i64 0],s)∧vs.all froz1=true∧vs.length=11∧Lv t c vs:=by
 obtain⟨F,H,I,J⟩:=Lw t r
 obtain⟨K,N,O,R,U,V,W⟩:=oV c hc
 exact awP t c zT aT fT a7 a8 a9 aw aA az hT hC D r hc F H I J (uU t r).2.1 K N O R U V W
theorem Xg(zT aT fT:T)(r D:List T)(n:Nat)(hf:IsSl fT n D)(i:Int):ae pE 69 [.vp (zT::aT::fT::r),.i .i64 i] []=some (.b (decide (0≤i∧i<(n:Int))),[]):=by
 rw[av asQ (by simp[c69])]
 by_cases h0:0≤i
 ·by_cases h1:i<(n:Int)
  ·simp only[qA,seval,c69,hf.lenI,h0,h1]
   try simp[h0,h1]
  ·simp only[qA,seval,c69,hf.lenI,h0,h1]
   try simp[h0,h1]
 ·simp only[qA,seval,c69,h0]
  try simp[h0]
theorem Ly(zT aT fT:T)(D H:List T)(l:List Fl)(hf:IsSl fT l.length H)(hr:aC RR l H)(k:Nat)(hk:k<l.length): ∃r,ae pE 77 [.vp (zT::aT::fT::D),.i .i64 (k:Int)] []=some (.vp (.s l[k].nu:: .s l[k].fr:: .s l[k].to:: .i .i64 l[k].dp:: .i .i64 l[k].ar:: .s l[k].ty:: .i .i64 l[k].n0:: .i .i64 l[k].n1:: .i .i64 l[k].n2::r),[]):=by
 obtain⟨r,F⟩:=mr hf hr k hk
 refine⟨r, ?_⟩
 rw[av ai4 (by simp[c77])]
 simp only[qA,seval,c77,F]
def yf(c:Ct)(f g:Fl):Bool:=decide (f.to=g.fr)&&(decide (c.cn≤wr .i64 (g.dp-f.ar))&&decide (wr .i64 (g.dp-f.ar)≤c.st))
theorem ak5(zT aT fT a7 a8 a9 aw aA az:T)(c:Ct)(vs D:List T)(l:List Fl)(hf:IsSl fT l.length D)(hr:aC RR l D)(i j:Nat)(hi:i<l.length)(F:j<l.length):ae pE 75 [.vp (zT::aT::fT::(aV c a7 a8 a9 aw aA az++vs)),.i .i64 (i:Int),.i .i64 (j:Int)] []=some (.b (yf c l[i] l[j]),[]):=by
 obtain⟨r,h1⟩:=Ly zT aT fT (aV c a7 a8 a9 aw aA az++vs) D l hf hr i hi
 obtain⟨H,h2⟩:=Ly zT aT fT (aV c a7 a8 a9 aw aA az++vs) D l hf hr j F
 rw[av ai3 (by simp[c75])]
 generalize l[i]=f at*
 generalize l[j]=g at*
 unfold aV at h1 h2 ⊢
 simp only[List.cons_append,List.nil_append]at h1 h2 ⊢
 unfold yf
 by_cases e:f.to=g.fr
 ·by_cases e2:c.cn≤wr .i64 (g.dp-f.ar)
  ·simp only[qA,seval,c75,h1,h2,aaD,e,e2]
   try simp[e,e2]
  ·simp only[qA,seval,c75,h1,h2,aaD,e,e2]
   try simp[e,e2]
 ·simp only[qA,seval,c75,h1,h2,aaD,e]
  try simp[e]
structure rh where
 ff:Int
 fh:Bool
 lf:Int
 lh:Bool
 lg:Int
 hd:Int
 bl:Int
 lo:Int
 so:Int
 ty:List (List Nat)
def nI(s:rh)(a:T):List T:= [.i .i64 s.ff,.b s.fh,.i .i64 s.lf,.b s.lh,.i .i64 s.lg,.i .i64 s.hd,.i .i64 s.bl,.i .i64 s.lo,.i .i64 s.so,a]
def aCw(s:rh)(a:T):Prop:=IsSl a s.ty.length (s.ty.map T.s)
def lK(n:Nat)(i:Int):Bool:=decide (0≤i∧i<(n:Int))
def RS:Int:=1099511627776
def QJ(p:Option (List Nat))(x:List Nat):Bool:=match p with|some q=>lessN q x|none=>true
def mM:Option (List Nat)→List (List Nat)→Bool
 |_,[]=>true
 |p,x::r=>iX x&&(QJ p x&&mM (some x) r)
def A4(n:Nat)(s:rh):Bool:=lK n s.ff&&(lK n s.lf&&(jS s.lg 0 6&&(jS s.hd 0 6&&(jS (s.lg+s.hd) 1 6&&(jS s.bl 0 RS&&(jS s.lo 0 RS&&(jS s.so 0 RS&&mM none s.ty)))))))
def kQ(f:Fl)(k:Int×Bool)(s:rh):rh:=
 if k.2 then{s with lf:=k.1,lh:=true,hd:=s.hd+1}else{s with lf:=k.1,lh:=false,lg:=s.lg+1,bl:=s.bl+(f.ar-f.dp),ty:=insS f.ty s.ty}
def rJ(k:Int×Bool):rh:=⟨k.1,k.2,0,false,0,0,0,0,1440,[]⟩
def sU(f g:Fl)(k:Int×Bool)(s:rh):rh:=kQ g k {s with lo:=max s.lo (g.dp-f.ar),so:=min s.so (g.dp-f.ar)}
theorem IU: ∀(l:List (List Nat)) (p:Option (List Nat)),mM p l=true→ascN l=true
 | [],_,_=>rfl
 | [x],_,_=>rfl
 |x::y::r,p,h=>by
  rw[mM]at h
  simp only[Bool.and_eq_true]at h
  have h2:=h.2.2
  have ih:=IU (y::r) (some x) h2
  rw[mM]at h2
  simp only[Bool.and_eq_true]at h2
  have h3:lessN x y=true:=h2.2.1
  grind [ascN]
theorem A5(s:List Nat)(hs:iX s=true): ∀(l:List (List Nat)) (p:Option (List Nat)),QJ p s=true→mM p l=true→mM p (insS s l)=true
 | [],p,hp,_=>by
   rw[insS,mM,hs,hp];rfl
 |x::r,p,hp,h=>by
  have D:=h
  rw[mM]at h
  simp only[Bool.and_eq_true]at h
  rw[insS]
  by_cases h1:lessN x s=true
  ·rw[if_pos h1,mM,h.1,A5 s hs r (some x) h1 h.2.2]
   rw[h.2.1];rfl
  ·rw[if_neg h1]
   by_cases h2:x=s
   ·rw[if_pos h2];exact D
   ·rw[if_neg h2]
    have h3:lessN s x=true:=by
     cases hc:lessN s x with
     |true=>rfl
     |false=>exact absurd (uV x s (by simpa using h1) hc) h2
    rw[mM,hs,mM,h.1,h.2.2,hp,QJ,h3];rfl
theorem IV(s:List Nat): ∀l,(insS s l).length≤l.length+1
 | []=>by simp[insS]
 |x::r=>by
  rw[insS]
  have:=IV s r
  grind
theorem E7{n a b:Int}:jS n a b=true↔a≤n∧n≤b:=by
 grind [jS]
theorem lL{n:Nat}{s:rh}:A4 n s=true↔lK n s.ff=true∧lK n s.lf=true∧(0≤s.lg∧s.lg≤6)∧(0≤s.hd∧s.hd≤6)∧(1≤s.lg+s.hd∧s.lg+s.hd≤6)∧(0≤s.bl∧s.bl≤RS)∧(0≤s.lo∧s.lo≤RS)∧(0≤s.so∧s.so≤RS)∧mM none s.ty=true:=by
 unfold A4
 simp only[Bool.and_eq_true,E7]
def nJ(f:Fl):Prop:=iX f.ty=true∧2880≤f.dp∧f.ar≤52593120∧f.dp<f.ar∧f.ar-f.dp≤1440
theorem ak6{r:List (List Nat)}{f:Fl}(h:Ce r f=0):nJ f:=by
 unfold Ce at h
 split at h
 ·cases h
 split at h
 ·cases h
 split at h
 ·cases h
 split at h
 ·cases h
 split at h
 ·cases h
 split at h
 ·cases h
 rename_i a b c d e g
 have g:IW f=true:=by simpa using g
 unfold IW at g
 simp only[Bool.and_eq_true,decide_eq_true_eq]at g
 exact⟨by simpa using b,g⟩
theorem Xh(D:List (List Nat)): ∀(l:List Fl) (p:Option Fl),BH D p l=0→ ∀f∈l,nJ f
 | [],_,_,f,hf=>by cases hf
 |g::r,p,h,f,hf=>by
  unfold BH at h
  by_cases a:Ce D g=0
  ·rw[if_neg (by simp[a])]at h
   rcases List.mem_cons.1 hf with rfl|hf
   ·exact ak6 a
   ·have:BH D (some g) r=0:=by
     grind
    exact Xh D r _ this f hf
  ·grind
theorem j0(t:Tt)(h:pG t=0):(∀f∈t.fl,nJ f)∧t.fl.length≤200:=by
 unfold pG at h
 split at h
 ·cases h
 split at h
 ·cases h
 split at h
 ·cases h
 split at h
 ·grind
 split at h
 ·rename_i q;exact absurd h q
 rename_i a b c d e
 exact⟨Xh _ _ _ h,by omega⟩
theorem A6(c:Ct)(h:eV c=0):0≤c.cn∧c.cn≤1440∧c.st≤1440∧(0≤c.rp∧c.rp≤1440)∧(0≤c.rl∧c.rl≤1440):=by
 unfold eV at h
 split at h
 ·grind
 rename_i g
 have g:fR c=0:=zZ
 unfold fR at g
 split at g
 ·cases g
 simp_all[j4,Bool.and_eq_true,E7]
theorem Xi{c:Ct}{f g:Fl}(hf:nJ f)(r:nJ g)(h:yf c f g=true):f.to=g.fr∧c.cn≤g.dp-f.ar∧g.dp-f.ar≤c.st:=by
 obtain⟨_,D,F,H,I⟩:=hf
 obtain⟨_,J,K,N,O⟩:=r
 unfold yf at h
 rw[bI zZ]at h
 grind
theorem adm(r:List Fl)(F: ∀f∈r,nJ f)(k:Int×Bool)(i:Nat)(hi:i<r.length)(hk:k.1=i):A4 r.length (kQ r[i] k (rJ k))=true∧(kQ r[i] k (rJ k)).lg+(kQ r[i] k (rJ k)).hd=1∧(kQ r[i] k (rJ k)).bl≤1440∧(kQ r[i] k (rJ k)).lf=i:=by
 have hf:=F _ (List.getElem_mem hi)
 generalize r[i]=f at*
 obtain⟨H,K,N,O,R⟩:=hf
 have D:lK r.length k.1=true:=by unfold lK;exact decide_eq_true zZ
 have I:=A5 f.ty H [] none rfl rfl
 rw[lL]
 obtain⟨U,J⟩:=k
 unfold kQ rJ RS
 have z: ∀a b n:Int,a≤n→n≤b→a≤n∧n≤b:=fun _ _ _=>And.intro
 cases J with
 |true=>exact⟨⟨D,D,z 0 6 0 zz zz,z 0 6 1 zz zz,z 1 6 1 zz zz,z 0 _ 0 zz zz,z 0 _ 0 zz zz,z 0 _ 1440 zz zz,rfl⟩,rfl,(by show(0:Int)≤1440;decide),hk⟩
 |false=>exact⟨⟨D,D,z 0 6 1 zz zz,z 0 6 0 zz zz,z 1 6 1 zz zz,(by show 0≤0+(f.ar-f.dp)∧0+(f.ar-f.dp)≤1099511627776;omega),z 0 _ 0 zz zz,z 0 _ 1440 zz zz,I⟩,rfl,(by show 0+(f.ar-f.dp)≤1440;omega),hk⟩
theorem adn(c:Ct)(hc:0≤c.cn∧c.st≤1440)(r:List Fl)(F: ∀f∈r,nJ f)(k:Int×Bool)(s:rh)(i j:Nat)(hi:i<r.length)(K:j<r.length)(hk:k.1=j)(hs:A4 r.length s=true)(N:yf c r[i] r[j]=true)(h6:s.lg+s.hd<6)(O:s.bl≤RS-1440):
  A4 r.length (sU r[i] r[j] k s)=true∧(sU r[i] r[j] k s).lg+(sU r[i] r[j] k s).hd=s.lg+s.hd+1∧(sU r[i] r[j] k s).bl≤s.bl+1440∧(sU r[i] r[j] k s).lf=j:=by
 have hf:=F _ (List.getElem_mem hi)
 have H:=F _ (List.getElem_mem K)
 have hr:=Xi hf H N
 generalize r[i]=f at*
 generalize r[j]=g at*
 obtain⟨Z,f1,f2,f3,f4⟩:=hf
 obtain⟨R,g1,g2,g3,g4⟩:=H
 have D:lK r.length k.1=true:=by unfold lK;exact decide_eq_true zZ
 rw[lL]at hs
 obtain⟨a1,a2,U,V,a5,W,a7,a8,a9⟩:=hs
 have X:=A5 g.ty R s.ty none rfl a9
 rw[lL]
 obtain⟨kf,Y⟩:=k
 unfold sU kQ
 unfold RS at*
 have I:0≤max s.lo (g.dp-f.ar)∧max s.lo (g.dp-f.ar)≤1099511627776:=zZ
 have J:0≤min s.so (g.dp-f.ar)∧min s.so (g.dp-f.ar)≤1099511627776:=zZ
 cases Y with
 |true=>exact⟨⟨a1,D,U,(by show 0≤s.hd+1∧s.hd+1≤6;omega),(by show 1≤s.lg+(s.hd+1)∧s.lg+(s.hd+1)≤6;omega),W,I,J,a9⟩,(by show s.lg+(s.hd+1)=_;omega),(by show s.bl≤_;omega),hk⟩
 |false=>exact⟨⟨a1,D,(by show 0≤s.lg+1∧s.lg+1≤6;omega),V,(by show 1≤s.lg+1+s.hd∧s.lg+1+s.hd≤6;omega),(by show 0≤s.bl+(g.ar-g.dp)∧s.bl+(g.ar-g.dp)≤1099511627776;omega),I,J,X⟩,(by show s.lg+1+s.hd=_;omega),(by show s.bl+(g.ar-g.dp)≤_;omega),hk⟩
def uW(l:List (List Nat))(k:Nat):Option (List Nat):=if k=0 then none else l[k-1]?
theorem QK{l:List (List Nat)}{k:Nat}(h0:0<k)(hk:k-1<l.length):uW l k=some l[k-1]:=by
 unfold uW;rw[if_neg zZ,List.getElem?_eq_getElem hk]
theorem ado{l:List (List Nat)}{k:Nat}(hk:k<l.length):mM (uW l k) (l.drop k)=(iX l[k]&&(QJ (uW l k) l[k]&&mM (uW l (k+1)) (l.drop (k+1)))):=by
 have e:uW l (k+1)=some l[k]:=by unfold uW;rw[if_neg zZ,Nat.add_sub_cancel,List.getElem?_eq_getElem hk]
 rw[List.drop_eq_getElem_cons hk,e]
 rw[mM]
theorem Xj{L:List (List Nat)}{v:T}(h:IsSl v L.length (L.map T.s))(k:Nat)(hk:k<L.length): ∃r,∀kk,iaV v (.i kk (k:Int)) 1=some (.vp (.s L[k]::r)):=by
 refine⟨(L.map T.s).drop (k+1),fun kk=> ?_⟩
 rw[h.ia (sz:=1) zP hk,Nat.mul_one,List.drop_eq_getElem_cons (by simpa using hk),List.getElem_map]
theorem adp{p:Prop}[Decidable p]{α:Type}{s:α}:(some (T.b (decide p),s):Option (T×α))=if p then some (.b true,s)else some (.b false,s):=by by_cases h:p <;> simp[h]
theorem adq(zT aT fT:T)(r D:List T)(n:Nat)(hf:IsSl fT n D)(i:Int):ae pE 69 [.vp (zT::aT::fT::r),.i .i64 i] []=if 0≤i∧i<(n:Int)then some (.b true,[])else some (.b false,[]):=by
 rw[Xg zT aT fT r D n hf i,adp]
theorem awY(l:List (List Nat))(a:T)(N:IsSl a l.length (l.map T.s))(hlen:l.length≤1000)(O:List T)(hc:O[9]? =some a)(fr:Fr)(lh:aE ah)(sh:List ah)
  (h3:aa fr 3= .ptr .L 3 1 0) (Dq:aa fr 73=a) (BF:aa fr 74= .i .i64 (l.length:Int)) (NA:aa fr 75= .i .i64 0) (U:ab lh 3=⟨1,.cells O 0 true⟩):
  WS pE 98 vW fr lh sh 2 4 (mM none l=true) (.b false) (fun J K=>J=lh∧K=sh):=by
 refine lG Se (by simp[aO]) (fun k f J K=>aa f 75= .i .i64 (k:Int)∧J=lh∧K=sh∧mM none l=mM (uW l k) (l.drop k)) l.length ⟨NA,rfl,rfl,rfl⟩ ?_ ?_
 ·rintro k f _ _ hk r ⟨H,rfl,rfl,hr⟩
  have D:(k:Int)<l.length:=zZ
  have R:=aG (k:=k) zZ
  obtain⟨V,F⟩:=Xj N k hk
  rw[ado hk]at hr
  have I:=cH (uM l[k])
  by_cases h0:k=0
  ·have hz: ¬(0:Int)<k:=zZ
   rw[show uW l k=none by rw[h0];rfl]at hr
   simp only[qB,seval,gd,vW,r,Dq,BF,H,D,R,F,I,PB,hz]
   clear r I
   grind [QJ]
  ·have hz:(0:Int)<k:=zZ
   have GA:=kR (k:=k) zZ zZ
   obtain⟨W,Kf⟩:=Xj N (k-1) zZ
   rw[QK zZ zZ]at hr
   cases hl:lessN l[k-1] l[k] <;> simp only[qB,seval,gd,vW,r,h3,Dq,BF,H,U,hc,D,R,GA,F,Kf,I,PB,hz,IX,hl] <;> clear r I <;> grind [QJ]
 ·rintro f _ _ r ⟨H,rfl,rfl,hr⟩
  rw[List.drop_length,mM]at hr
  simp only[qB,seval,gd,vW,r,BF,H,Int.lt_irrefl,hr]
theorem ND(zT aT fT:T)(r D:List T)(n:Nat)(hf:IsSl fT n D)(s:rh)(a:T)(F:aCw s a)(hlen:s.ty.length≤1000):ae pE 39 [.vp (zT::aT::fT::r),.agg (nI s a)] []=some (.b (A4 n s),[]):=by
 have H:=adq zT aT fT r D n hf
 have hU: ∀st,DC pE 98 yZ st=DC pE 98 yZ st:=fun _=>rfl
 conv at hU=>enter [st,2];unfold yZ
 have hL:=awY s.ty a F hlen (nI s a) rfl
 rw[av asG (by simp[c39])]
 unfold A4 jS lK RS
 unfold nI at hL ⊢
 simp only[qB,seval,cT,repl,c39,H,asR,La yZ,hU,hL,F.lenI]
 clear H hU hL
 have I:0≤s.lg∧s.lg≤6∧0≤s.hd∧s.hd≤6→wr .i64 (s.lg+s.hd)=s.lg+s.hd:=fun h=>bI zZ
 generalize wr .i64 (s.lg+s.hd)=w at I ⊢
 cases mM none s.ty
 all_goals repeat' (refine ifl (fun _=> ?_) (fun _=> ?_))
 all_goals refine congrArg (fun b=>some (T.b b,[])) ?_
 all_goals symm
 all_goals simp only[Bool.and_eq_true,Bool.and_eq_false_iff,decide_eq_true_eq,decide_eq_false_iff_not]
 all_goals grind
theorem itI{p:Prop}[Decidable p]{α:Type}{k:IntKind}{a b:Int}{s:α}:(if p then some (T.i k a,s)else some (T.i k b,s))=some (T.i k (if p then a else b),s):=by split <;> rfl
def ZX(k:Int×Bool)(c:List T):Prop:=c= [.i .i64 k.1,.b k.2]
theorem ZX.len(k:Int×Bool)(c:List T)(h:ZX k c):c.length=2:=by rw[h];rfl
def uX(d:List (Int×Bool))(v:T):Prop:= ∃r,IsSl v d.length r∧aC ZX d r
theorem pk{d:List (Int×Bool)}{v:T}(h:uX d v)(i:Nat)(hi:i<d.length): ∃r,∀kk,iaV v (.i kk (i:Int)) 2=some (.vp (.i .i64 d[i].1:: .b d[i].2::r)):=by
 obtain⟨D,h1,h2⟩:=h
 obtain⟨c,r,e,h⟩:=gJ (k:=2) ZX.len h1 h2 i hi
 simp_all[ZX]
def pn(c:Ct)(r:List Fl)(i j:Int):Bool:=match r[i.toNat]?,r[j.toNat]? with
 |some f,some g=>yf c f g
 |_,_=>false
theorem nL(c:Ct)(r:List Fl){i j:Nat}(hi:i<r.length)(D:j<r.length):pn c r i j=yf c r[i] r[j]:=by
 grind [pn]
theorem mN{n:Nat}{i:Int}(h:lK n i=true): ∃k:Nat,k<n∧i=k:=by
 unfold lK at h
 rw[decide_eq_true_eq]at h
 exact⟨i.toNat,by omega,by omega⟩
def pM(c:Ct)(D:List Fl):List (Int×Bool)→Bool
 |k::l::r=>pn c D k.1 l.1&&pM c D (l::r)
 |_=>true
def fx(c:Ct)(r:List Fl)(d:List (Int×Bool)):Int:=
 if(d.length:Int)<1 then 5 else if(6:Int)<d.length then 5 else if d.all (fun k=>lK r.length k.1)=true then(if pM c r d=true then 0 else 14)else 6
theorem E8(c:Ct)(r:List Fl){d:List (Int×Bool)}{k:Nat}(hk:k+1<d.length):pM c r (d.drop k)=(pn c r d[k].1 d[k+1].1&&pM c r (d.drop (k+1))):=by
 grind [List.drop_eq_getElem_cons,pM]
theorem NF(c:Ct)(r:List Fl){d:List (Int×Bool)}{k:Nat}(hk:k+1=d.length):pM c r (d.drop k)=true:=by
 rw[List.drop_eq_getElem_cons (by omega:k<d.length),List.drop_eq_nil_of_le zZ,pM]
 simp
theorem LA{α:Type}{p:α→Bool}{d:List α}{k:Nat}(hk:k<d.length):(d.drop k).all p=(p d[k]&&(d.drop (k+1)).all p):=by
 rw[List.drop_eq_getElem_cons hk,List.all_cons]
def stV(c:Ct)(zT aT fT a7 a8 a9 aw aA az:T)(vs:List T):T:= .vp (zT::aT::fT::(aV c a7 a8 a9 aw aA az++vs))
section
variable(t:Tt)(c:Ct)(zT aT fT a7 a8 a9 aw aA az:T)(vs:List T)(hT:ky t zT aT fT)
theorem Xk(hT:ky t zT aT fT){i j:Int}(hi:lK t.fl.length i=true)(F:lK t.fl.length j=true):ae pE 75 [stV c zT aT fT a7 a8 a9 aw aA az vs,.i .i64 i,.i .i64 j] []=some (.b (pn c t.fl i j),[]):=by
 obtain⟨i,r,rfl⟩:=mN hi
 obtain⟨j,D,rfl⟩:=mN F
 obtain⟨H,I,J⟩:=hT.f
 rw[nL c t.fl r D]
 exact ak5 zT aT fT a7 a8 a9 aw aA az c vs H t.fl I J i j r D
end
section
variable(t:Tt)(c:Ct)(zT aT fT a7 a8 a9 aw aA az:T)(hT:ky t zT aT fT)(hC:kP c a7 a8 a9 aw aA az)
theorem IY(hT:ky t zT aT fT)(hC:kP c a7 a8 a9 aw aA az){i j:Int}(hi:lK t.fl.length i=true)(J:lK t.fl.length j=true):ae pE 68 [.agg [zT,aT,fT],.agg (aV c a7 a8 a9 aw aA az),.i .i64 i,.i .i64 j] []=some (.b (pn c t.fl i j),[]):=by
 obtain⟨i,D,rfl⟩:=mN hi
 obtain⟨j,F,rfl⟩:=mN J
 obtain⟨⟨W,X,Y⟩,⟨ac,Z,b2⟩,⟨fc,H,I⟩⟩:=hT
 obtain⟨⟨y7,i7,j7⟩,⟨y8,i8,j8⟩,⟨y9,i9,j9⟩,⟨K,N,ye⟩,⟨O,R,BG⟩,⟨U,V,Dr⟩⟩:=hC
 rw[nL c t.fl D F]
 obtain⟨r,h1⟩:=mr H I i D
 obtain⟨r',h2⟩:=mr H I j F
 rw[av aiX (by simp[c68])]
 generalize t.fl[i]=f at*
 generalize t.fl[j]=g at*
 unfold aV yf
 simp only[qB,seval,c68,h1,h2]
 by_cases e1:f.to=g.fr <;> by_cases e2:c.cn≤wr .i64 (g.dp-f.ar) <;> by_cases e3:wr .i64 (g.dp-f.ar)≤c.st <;> simp[e1,e2,e3]
theorem aCx(d:List (Int×Bool))(F:T)(H:uX d F)(hlen:d.length≤1000)(K:List T)(hf:IsSl fT t.fl.length K)(r:Bool)(hr:r=d.all fun k=>lK t.fl.length k.1)(o:Out)(ho:o=if r=true then .ext 0 else .ret)(fr:Fr)(lh:aE ah)(sh:List ah)
  (h2:aa fr 2=F) (h3:aa fr 3= .ptr .L 3 1 0) (D:aa fr 7= .i .i64 0) (N:ab lh 3=⟨1,.cells [zT,aT,fT] 0 true⟩):
  uL 61 lV fr lh sh o∧((r=false→aa (pz pE 61 lV fr lh sh) 6= .i .i64 6)∧iu pE 61 lV fr lh sh=lh∧jw pE 61 lV fr lh sh=sh):=by
 refine gI (fun k st=> ∃(fr:Fr),st=⟨fr,lh,sh⟩∧r=((d.drop k).all fun k=>lK t.fl.length k.1)∧aa fr 2=F∧aa fr 3= .ptr .L 3 1 0∧aa fr 7= .i .i64 (k:Int)) (fun O aU R=>(r=false→aa O 6= .i .i64 6)∧aU=lh∧R=sh) o d.length ?_ ?_ fr lh sh ⟨fr,rfl,hr,h2,h3,D⟩
 ·rintro k _ hk ⟨fr,rfl,hr,h2,h3,D⟩
  have I:(k:Int)<d.length:=zZ
  have U:=aG (k:=k) zZ
  obtain⟨V,J⟩:=pk H k hk
  rw[LA hk]at hr
  unfold lK at hr
  generalize d[k]=y at*
  simp only[qB,seval,lV,h2,h3,D,N,H.choose_spec.1.lenI,hf.lenI,I,U,J]
  repeat' (refine ET (fun _=> ?_) (fun _=> ?_))
  all_goals first
   |(rw[decide_eq_false zZ,Bool.false_and]at hr
     exact sL ⟨by rw[ho,hr];rfl,fun _=>yW,rfl,rfl⟩)
   |(rw[decide_eq_true zZ,Bool.true_and]at hr
     exact fN ⟨_,rfl,hr,by simp only[qA,seval,h2],by simp only[qA,seval,h3],by simp only[qA,seval]⟩)
 ·rintro _ ⟨fr,rfl,hr,h2,h3,D⟩
  rw[List.drop_length]at hr
  simp only[qA,seval,lV,h2,D,H.choose_spec.1.lenI,Int.lt_irrefl]
  exact jZ ⟨by rw[ho,hr];rfl,fun h=>(by rw[hr]at h;cases h),rfl,rfl⟩
theorem aCy(hT:ky t zT aT fT)(hC:kP c a7 a8 a9 aw aA az)(d:List (Int×Bool))(I:T)(H:uX d I)(h1:1≤d.length)(hlen:d.length≤1000)(W: ∀k∈d,lK t.fl.length k.1=true)(r:Bool)(hr:r=pM c t.fl d)(o:Out)(ho:o=if r=true then .ext 2 else .ret)(fr:Fr)(lh:aE ah)(sh:List ah)
  (h2:aa fr 2=I) (h3:aa fr 3= .ptr .L 3 1 0) (h4:aa fr 4= .ptr .L 4 1 0) (F:aa fr 8= .i .i64 1) (Y:ab lh 3=⟨1,.cells [zT,aT,fT] 0 true⟩) (X:ab lh 4=⟨1,.cells (aV c a7 a8 a9 aw aA az) 0 true⟩):
  uL 61 qJ fr lh sh o∧((r=false→aa (pz pE 61 qJ fr lh sh) 6= .i .i64 14)∧jw pE 61 qJ fr lh sh=sh):=by
 have J:=hT
 have K:=hC
 obtain⟨⟨zc,Z,z2⟩,⟨ac,b1,b2⟩,⟨fc,f1,f2⟩⟩:=J
 obtain⟨⟨y7,i7,j7⟩,⟨y8,i8,j8⟩,⟨y9,i9,j9⟩,⟨y10,N,ye⟩,⟨y11,O,BG⟩,⟨y12,R,Dr⟩⟩:=K
 refine gI (fun k st=> ∃(fr:Fr),st=⟨fr,lh,sh⟩∧r=pM c t.fl (d.drop k)∧aa fr 2=I∧aa fr 3= .ptr .L 3 1 0∧aa fr 4= .ptr .L 4 1 0∧aa fr 8= .i .i64 ((k+1:Nat):Int)) (fun cK aU aX=>(r=false→aa cK 6= .i .i64 14)∧aX=sh) o (d.length-1) ?_ ?_ fr lh sh ⟨fr,rfl,hr,h2,h3,h4,F⟩
 ·rintro k _ hk ⟨fr,rfl,hr,h2,h3,h4,F⟩
  have D:((k+1:Nat):Int)<d.length:=zZ
  have hw:=aG (k:=k+1) zZ
  have GA:wr .i64 (((k+1:Nat):Int)-1)=(k:Int):=by rw[bI zZ];omega
  obtain⟨rr,U⟩:=pk H k zZ
  obtain⟨r2,Kf⟩:=pk H (k+1) zZ
  rw[E8 c t.fl (by omega:k+1<d.length)]at hr
  have V:=IY t c zT aT fT a7 a8 a9 aw aA az hT hC (W _ (List.getElem_mem (by omega:k<d.length))) (W _ (List.getElem_mem (by omega:k+1<d.length)))
  unfold aV at V X
  generalize d[k]=x at*
  generalize d[k+1]=y at*
  cases hv:pn c t.fl x.1 y.1 <;> rw[hv]at V hr <;> simp only[Bool.true_and,Bool.false_and]at hr
  all_goals simp only[qA,seval,bj,aH,qJ,h2,h3,h4,F,Y,X,H.choose_spec.1.lenI,D,hw,GA,U,Kf,V,aiY,aAL,Z.froz1,b1.froz1,f1.froz1,i7.froz1,i8.froz1,i9.froz1,N.froz1,O.froz1,R.froz1]
  all_goals first
   |exact sL ⟨by rw[ho,hr];rfl,fun _=>yW,rfl⟩
   |exact fN ⟨_,rfl,hr,by simp only[qA,seval,h2],by simp only[qA,seval,h3],by simp only[qA,seval,h4],by simp only[qA,seval]⟩
 ·rintro _ ⟨fr,rfl,hr,h2,h3,h4,F⟩
  rw[NF c t.fl zZ]at hr
  have D: ¬((d.length-1+1:Nat):Int)<d.length:=zZ
  simp only[qA,seval,qJ,h2,F,H.choose_spec.1.lenI,D]
  exact jZ ⟨by rw[ho,hr];rfl,fun h=>(by rw[hr]at h;cases h),rfl⟩
theorem ads(hT:ky t zT aT fT)(hC:kP c a7 a8 a9 aw aA az)(d:List (Int×Bool))(r:T)(D:uX d r)(hlen:d.length≤1000):ae pE 284 [.agg [zT,aT,fT],.agg (aV c a7 a8 a9 aw aA az),r] []=some (.i .i64 (fx c t.fl d),[]):=by
 have A7:=D.choose_spec.1.lenI
 have F:=hT
 have H:=hC
 obtain⟨⟨zc,z1,z2⟩,⟨ac,b1,b2⟩,⟨K,N,f2⟩⟩:=F
 obtain⟨⟨y7,i7,j7⟩,⟨y8,i8,j8⟩,⟨y9,i9,j9⟩,⟨O,R,ye⟩,⟨U,V,BG⟩,⟨W,X,Dr⟩⟩:=H
 have QL:=fun fr lh sh h2 h3 Y I=>aCx t zT aT fT d r D hlen K N _ rfl _ rfl fr lh sh h2 h3 Y I
 rw[av agO (by simp[Kv])]
 unfold fx
 cases J:d.all fun k=>lK t.fl.length k.1 <;> rw[J]at QL
 ·unfold aV
  simp only[qB,seval,Kv,QL,A7,itI]
 ·by_cases h1:1≤d.length
  ·have IZ:=fun fr lh sh h2 h3 h4 Z I o4=>aCy t c zT aT fT a7 a8 a9 aw aA az hT hC d r D h1 hlen (List.all_eq_true.1 J) _ rfl _ rfl fr lh sh h2 h3 h4 Z I o4
   unfold aV at IZ ⊢
   cases hc:pM c t.fl d <;> rw[hc]at IZ
   all_goals simp only[qB,seval,Kv,Pu,IZ,QL,A7,itI]
  ·have qP:(d.length:Int)<1:=zZ
   unfold aV
   simp only[qB,seval,Kv,A7,qP]
end
section
variable(c:Ct)(a7 a8 a9 aw aA az:T)(hT:kP c a7 a8 a9 aw aA az)(LB:j4 c=false∨kz c=false)
include hT LB
theorem ak8:ae pE 118 [.agg (aV c a7 a8 a9 aw aA az)] []=some (.i .i64 (fR c),[]):=by
 obtain⟨⟨c7,H,K⟩,⟨c8,I,N⟩,⟨c9,J,O⟩,⟨ti,r,R⟩,⟨Gv,D,BG⟩,⟨Kd,F,Dr⟩⟩:=hT
 unfold aV
 rw[av Mz (by simp[Km])]
 unfold fR
 unfold j4 kz at LB ⊢
 have w:=fun n lo hi=>cH (mw n lo hi)
 simp(maxDischargeDepth:=6) only[qB,seval,Km,H.lenI,I.lenI,J.lenI,r.lenI,D.lenI,F.lenI,w,CP]
 clear w
 grind (splits:=40)
theorem A8:fR c≠0:=by
 have _:=hT
 unfold fR
 by_cases h:j4 c=false
 ·rw[if_pos h];decide
 ·rw[if_neg h,if_pos (LB.resolve_left h)];decide
theorem I0:eV c=fR c:=by
 unfold eV;rw[if_pos (A8 c a7 a8 a9 aw aA az hT LB)]
theorem NG:ae pE 93 [.agg (aV c a7 a8 a9 aw aA az)] []=some (.i .i64 (eV c),[]):=by
 have r:=ak8 c a7 a8 a9 aw aA az hT LB
 have I:=A8 c a7 a8 a9 aw aA az hT LB
 rw[I0 c a7 a8 a9 aw aA az hT LB]
 obtain⟨⟨c7,J,O⟩,⟨c8,K,R⟩,⟨c9,N,U⟩,⟨ti,D,V⟩,⟨Gv,F,BG⟩,⟨Kd,H,Dr⟩⟩:=hT
 unfold aV at r ⊢
 rw[av ai6 (by simp[c93])]
 generalize fR c=e at*
 simp only[qA,seval,c93,J.froz1,K.froz1,N.froz1,D.froz1,F.froz1,H.froz1,r,aff,I]
end
structure Ds (c:Ct):Prop where
 n7:ZY c.cs
 n8: ∀u∈c.ru,Xl u.x
 n9: ∀u∈c.co,Xl u.x
 n10: ∀x∈c.cr,Xl x
 b7: ∃j,j≤2∧c.cs=jL j
 b8: ∀u∈c.ru,(u.sc,u.x)∈nw
 b9: ∀u∈c.co,(u.sc,u.x)∈nw
 b10: ∀x∈c.cr,((1:Int),x)∈nw
theorem Ds.sm{c:Ct}(h:Ds c)(hs:kz c=true):qh c:=by
 unfold kz at hs
 simp only[Bool.and_eq_true,decide_eq_true_eq]at hs
 obtain⟨h1,h2,h3,h4,h5,h6⟩:=hs
 exact⟨⟨h.n7,gk zZ⟩,⟨h.n8,gk zZ⟩,⟨h.n9,gk zZ⟩,⟨h.n10,gk zZ⟩,gk zZ,gk zZ,h.b7,h.b8,h.b9,h.b10⟩
def eb(t:Tt)(c:Ct):Int:=if pG t≠0 then pG t else eV c
def flG(l:List Fl)(i:Int):Fl:=(l[i.toNat]?).getD ⟨[],[],[],0,0,[],0,0,0⟩
theorem ak9{l:List Fl}{i:Nat}(h:i<l.length):flG l i=l[i]:=by
 unfold flG;rw[Int.toNat_natCast,List.getElem?_eq_getElem h];rfl
theorem E9(c:Ct)(zT aT fT a7 a8 a9 aw aA az:T)(vs:List T):froz (stV c zT aT fT a7 a8 a9 aw aA az vs)=true:=nr rfl
section
variable(t:Tt)(c:Ct)(zT aT fT a7 a8 a9 aw aA az:T)(hT:ky t zT aT fT)(hC:kP c a7 a8 a9 aw aA az)(hN:Ds c)
theorem Dt(hT:ky t zT aT fT)(hC:kP c a7 a8 a9 aw aA az):(froz1 zT=true∧froz1 aT=true∧froz1 fT=true∧froz1 a7=true∧froz1 a8=true∧froz1 a9=true∧froz1 aw=true∧froz1 aA=true∧froz1 az=true)∧cellsOf zT= [zT]∧cellsOf aT= [aT]∧cellsOf fT= [fT]∧cellsOf a7= [a7]∧cellsOf a8= [a8]∧cellsOf a9= [a9]∧cellsOf aw= [aw]∧cellsOf aA= [aA]∧cellsOf az= [az]:=by
 obtain⟨⟨_,H,_⟩,⟨_,I,_⟩,⟨_,J,_⟩⟩:=hT
 obtain⟨⟨_,K,_⟩,⟨_,N,_⟩,⟨_,O,_⟩,⟨_,r,_⟩,⟨_,D,_⟩,⟨_,F,_⟩⟩:=hC
 exact⟨⟨H.froz1,I.froz1,J.froz1,K.froz1,N.froz1,O.froz1,r.froz1,D.froz1,F.froz1⟩,H.cells,I.cells,J.cells,K.cells,N.cells,O.cells,r.cells,D.cells,F.cells⟩
include hC hN
theorem adt:ae pE 93 [.agg (aV c a7 a8 a9 aw aA az)] []=some (.i .i64 (eV c),[]):=by
 by_cases hr:j4 c=false
 ·exact NG c a7 a8 a9 aw aA az hC (.inl hr)
 ·by_cases hs:kz c=false
  ·exact NG c a7 a8 a9 aw aA az hC (.inr hs)
  ·exact QM c a7 a8 a9 aw aA az hC (hN.sm (by simpa using hs))
omit hN in
theorem Du(h:eV c=0):kz c=true:=by
 cases hs:kz c with
 |true=>rfl
 |false=>
  exfalso
  rw[I0 c a7 a8 a9 aw aA az hC (.inr hs)]at h
  exact A8 c a7 a8 a9 aw aA az hC (.inr hs) h
include hT
theorem ahv(h:eb t c=0): ∃s vs,ae pE 35 [.agg [zT,aT,fT],.agg (aV c a7 a8 a9 aw aA az)] []=some (.tup [stV c zT aT fT a7 a8 a9 aw aA az vs,.i .i64 0],s)∧Lv t c vs:=by
 unfold eb at h
 by_cases r:pG t=0
 ·rw[if_neg (by simp[r])]at h
  obtain⟨s,vs,h1,_,_,h2⟩:=ak4 t c zT aT fT a7 a8 a9 aw aA az hT hC (hN.sm (Du c a7 a8 a9 aw aA az hC h)) r h
  exact⟨s,vs,h1,h2⟩
 ·rw[if_pos r]at h;exact absurd h r
theorem NH(hL: ∀f∈t.fl,f.nu.length≤fX):ae pE 52 [.agg [zT,aT,fT],.agg (aV c a7 a8 a9 aw aA az)] []=some (.i .i64 (eb t c),[]):=by
 have h1:=ala t zT aT fT hT hL
 have h2:=adt c a7 a8 a9 aw aA az hC hN
 obtain⟨⟨U,H,V⟩,⟨ac,I,W⟩,⟨X,J,Y⟩⟩:=hT
 obtain⟨⟨_,K,_⟩,⟨_,N,_⟩,⟨_,O,_⟩,⟨_,r,_⟩,⟨_,D,_⟩,⟨_,F,_⟩⟩:=hC
 unfold eb
 rw[av asK (by simp[c52])]
 unfold aV at h2 ⊢
 by_cases R:pG t=0
 all_goals simp only[qA,seval,c52,h1,h2,R,aAW,aAX,H.froz1,I.froz1,J.froz1,K.froz1,N.froz1,O.froz1,r.froz1,D.froz1,F.froz1]
theorem Fa(h:eb t c=0):pG t=0∧eV c=0:=by
 have _:=hC;have _:=hN;have _:=hT
 unfold eb at h
 by_cases r:pG t=0
 ·rw[if_neg (by simp[r])]at h;exact⟨r,h⟩
 ·rw[if_pos r]at h;exact absurd h r
theorem adu(hL: ∀f∈t.fl,f.nu.length≤fX)(d:List (Int×Bool))(r:T)(H:uX d r)(hlen:d.length≤1000):ae pE 254 [.agg [zT,aT,fT],.agg (aV c a7 a8 a9 aw aA az),r] []=some (.i .i64 (if eb t c≠0 then eb t c else fx c t.fl d),[]):=by
 have hz:=Dt t c zT aT fT a7 a8 a9 aw aA az hT hC
 have D:=NH t c zT aT fT a7 a8 a9 aw aA az hT hC hN hL
 have I:=ads t c zT aT fT a7 a8 a9 aw aA az hT hC d r H hlen
 have F:=H.choose_spec.1.froz
 rw[av agE (by simp[Tn])]
 unfold aV at*
 by_cases h:eb t c=0
 all_goals simp only[qA,seval,Tn,D,Pz,I,auA,h,hz,F]
end
theorem alb(a:Int):a.tdiv 1440=if a.tmod 1440<0 then a/1440+1 else a/1440:=by
 grind
def I1(a:Int):Prop:= -100000000≤a∧a≤100000000
theorem QN(a:Int)(D:I1 a):ae pE 239 [.i .i64 a,.i .i64 1440] []=some (.i .i64 (a/1440),[]):=by
 obtain⟨h1,h2⟩:=D
 have e1:=alb a
 rw[av agz (by simp[Pq])]
 by_cases h:a.tmod 1440<0
 ·have H:=h
  rw[if_pos h]at e1
  have r:wr .i64 (a/1440+1)=a/1440+1:=bI zZ
  have F:wr .i64 (a/1440+1-1)=a/1440:=by rw[bI zZ];omega
  simp only[qA,seval,Pq,e1,r,h,F]
 ·rw[if_neg h]at e1
  have r:wr .i64 (a/1440)=a/1440:=bI zZ
  simp only[qA,seval,Pq,e1,r,h]
theorem wV(a:Int)(r:I1 a):ae pE 172 [.i .i64 a] []=some (.tup [.i .i64 (a/1440),.i .i64 (a%1440)],[]):=by
 have hf:=QN a r
 obtain⟨h1,h2⟩:=r
 have D:wr .i64 (1440*(a/1440))=1440*(a/1440):=bI zZ
 have F:wr .i64 (a-1440*(a/1440))=a%1440:=by rw[bI zZ];omega
 rw[av afQ (by simp[SP])]
 simp only[qA,seval,SP,hf,aus,D,F]
def QO(o:Int):List (Int×Int)→Int→Int
 | [],_=>o
 |s::r,t=>if s.1≤t then QO s.2 r t else o
def yg(o:Int):List (Int×Int)→Int→Int
 | [],_=>o
 |s::r,t=>yg (if s.1≤t then s.2 else o) r t
theorem LC{p:Option Int}{s:Int×Int}{r:List (Int×Int)}(h:Dv p (s::r)=0):qk s.1=true∧uY s.2=true∧(∀q,p=some q→q<s.1)∧Dv (some s.1) r=0:=by
 unfold Dv at h
 grind
theorem Dw: ∀(l:List (Int×Int)) (p o t:Int),Dv (some p) l=0→t<p→yg o l t=o
 | [],p,o,t,h,D=>rfl
 |s::r,p,o,t,h,D=>by
  obtain⟨_,_,h3,h4⟩:=LC h
  have:=h3 p rfl
  rw[yg,if_neg zZ]
  exact Dw r s.1 o t h4 zZ
theorem Xm: ∀(l:List (Int×Int)) (p:Option Int) (o t:Int),Dv p l=0→yg o l t=QO o l t
 | [],p,o,t,h=>rfl
 |s::r,p,o,t,h=>by
  obtain⟨_,_,_,h4⟩:=LC h
  rw[yg,QO]
  by_cases hs:s.1≤t
  ·rw[if_pos hs,if_pos hs];exact Xm r _ _ _ h4
  ·grind [Dw]
theorem NI: ∀{l:List (Int×Int)} {p:Option Int},Dv p l=0→ ∀s∈l,qk s.1=true∧uY s.2=true
 |a::r,p,h,s,hs=>by
  obtain⟨h1,h2,_,h4⟩:=LC h
  rcases List.mem_cons.1 hs with rfl|hs
  ·grind
  ·exact NI h4 s hs
theorem Xn: ∀{l:List (Int×Int)} {o t:Int},uY o=true→(∀s∈l,uY s.2=true)→uY (QO o l t)=true
 | [],o,t,h,_=>h
 |s::r,o,t,h,hl=>by
  rw[QO]
  split
  ·exact Xn (hl s zP) fun x hx=>hl x (by simp[hx])
  ·exact h
def Zo.off(z:Zo)(t:Int):Int:=QO z.o z.sh t
theorem ri{z:Zo}(h:gG z=0):uY z.o=true∧z.sh.length≤16∧Dv none z.sh=0:=by
 grind [gG]
theorem Zo.off_bd{z:Zo}(h:gG z=0)(t:Int): -840≤z.off t∧z.off t≤840:=by
 obtain⟨h1,_,h3⟩:=ri h
 have:=Xn (t:=t) h1 fun s hs=>(NI h3 s hs).2
 grind [uY,Zo.off]
def A9(z:Zo)(a:T):List T:= [.s z.nm,.i .i64 z.o,a]
def ZoT(z:Zo)(a:T):Prop:= ∃r,IsSl a z.sh.length r∧aC RT z.sh r
section
variable(z:Zo)(a:T)(hz:ZoT z a)(hlen:z.sh.length≤16)
include hz hlen
theorem aCB(t:Int)(fr:Fr)(lh:aE ah)(sh:List ah)(h1:aa fr 1= .i .i64 t)(h2:aa fr 2= .ptr .L 2 1 0)(h5:aa fr 5= .i .i64 z.o)(h6:aa fr 6= .i .i64 0)(D:ab lh 2=⟨1,.cells (A9 z a) 0 true⟩):
  uL 31 wq fr lh sh (.ext 0)∧
  (aa (pz pE 31 wq fr lh sh) 5= .i .i64 (yg z.o z.sh t)∧jw pE 31 wq fr lh sh=sh):=by
 obtain⟨O,F,hc⟩:=hz
 unfold A9 at D
 refine gI (fun k st=> ∃(fr:Fr) (o:Int),st=⟨fr,lh,sh⟩∧aa fr 1= .i .i64 t∧aa fr 2= .ptr .L 2 1 0∧aa fr 5= .i .i64 o∧aa fr 6= .i .i64 (k:Int)∧yg o (z.sh.drop k) t=yg z.o z.sh t)
  (fun J aU K=>aa J 5= .i .i64 (yg z.o z.sh t)∧K=sh) _ z.sh.length ?_ ?_ fr lh sh ⟨fr,z.o,rfl,h1,h2,h5,h6,rfl⟩
 ·rintro k _ hk ⟨fr,o,rfl,h1,h2,h5,h6,ho⟩
  have H:(k:Int)<z.sh.length:=zZ
  have N:=aG (k:=k) zZ
  obtain⟨R,I⟩:=I2 F hc hk
  rw[List.drop_eq_getElem_cons hk,yg]at ho
  generalize z.sh[k]=s at*
  generalize yg z.o z.sh t=r at*
  simp only[qB,seval,wq,h1,h2,h6,D,F.lenI,H,I,N]
  refine ET (fun h=> ?_) (fun h=> ?_)
  ·rw[if_pos h]at ho
   exact fN ⟨_,s.2,rfl,by simp only[qA,seval,h1],by simp only[qA,seval,h2],by simp only[qA,seval],by simp only[qA,seval],ho⟩
  ·rw[if_neg h]at ho
   exact fN ⟨_,o,rfl,by simp only[qA,seval,h1],by simp only[qA,seval,h2],by simp only[qA,seval,h5],by simp only[qA,seval],ho⟩
 ·rintro _ ⟨fr,o,rfl,h1,h2,h5,h6,ho⟩
  rw[List.drop_length,yg]at ho
  simp only[qA,seval,wq,h2,h6,D,F.lenI,Int.lt_irrefl]
  exact jZ ⟨rfl,by simp only[qA,seval,h5,ho],rfl⟩
theorem oW(hv:gG z=0)(t:Int):ae pE 99 [.agg (A9 z a),.i .i64 t] []=some (.i .i64 (z.off t),[]):=by
 have hL:=fun fr lh sh h1 h2 h5 h6 r=>aCB z a hz hlen t fr lh sh h1 h2 h5 h6 r
 obtain⟨D,F,hc⟩:=hz
 rw[Xm _ _ _ _ (ri hv).2.2]at hL
 unfold Zo.off
 unfold A9 at hL ⊢
 rw[av ai8 (by simp[c99])]
 simp only[qA,seval,c99,hL]
end
section
variable(z:Zo)(a:T)(hz:ZoT z a)(hv:gG z=0)
include hz hv
theorem ZoT.froz1:froz1 a=true:=by have _:=hv;obtain⟨D,r,_⟩:=hz;exact r.froz1
theorem QP(t:Int)(D:qk t=true):ae pE 272 [.agg (A9 z a),.i .i64 t] []=some (.tup [.i .i64 (z.off t),.i .i64 0],[]):=by
 have h1:=oW z a hz (ri hv).2.1 hv t
 obtain⟨F,r,hc⟩:=hz
 have h2:=Ba z a F r hc
 have h3:=NJ t
 rw[hv]at h2
 rw[D]at h3
 unfold A9 at h1 ⊢
 rw[av agN (by simp[Tu])]
 simp only[qA,seval,Tu,h1,h2,h3,r.froz1,TE,TU,Uj]
theorem Xo(t:Int)(r:qk t=true):wr .i64 (t+z.off t)=t+z.off t∧I1 (t+z.off t):=by
 have _:=hz
 have h1:=Zo.off_bd hv t
 unfold qk at r
 simp only[Bool.and_eq_true,decide_eq_true_eq]at r
 exact⟨bI zZ,by unfold I1;omega⟩
def Zo.day(z:Zo)(t:Int):Int:=(t+z.off t)/1440
def Zo.clk(z:Zo)(t:Int):Int:=(t+z.off t)%1440
theorem Xp(t:Int)(r:qk t=true):ae pE 174 [.agg (A9 z a),.i .i64 t] []=some (.tup [.i .i64 (z.day t),.i .i64 (z.clk t),.i .i64 0],[]):=by
 have h1:=QP z a hz hv t r
 obtain⟨w,n⟩:=Xo z a hz hv t r
 have h2:=wV _ n
 obtain⟨F,D,hc⟩:=hz
 have h3:ae pE 240 [.agg (A9 z a),.i .i64 t] []=some (.tup [.i .i64 (t+z.off t),.i .i64 0],[]):=by
  unfold A9 at h1 ⊢
  rw[av agA (by simp[Tl])]
  simp only[qA,seval,Tl,h1,w,D.froz1,auz]
 unfold Zo.day Zo.clk
 generalize t+z.off t=m at*
 unfold A9 at h3 ⊢
 rw[av afR (by simp[SQ])]
 simp only[qA,seval,SQ,h3,h2,D.froz1,aut,ME]
end
def yh(f:Int→Bool)(a:Int):Nat→Int
 |0=>0
 |n+1=>yh f a n+if f (a+n)=true then 1 else 0
theorem Fb(f:Int→Bool)(a:Int): ∀n,0≤yh f a n∧yh f a n≤n
 |0=>by simp[yh]
 |n+1=>by have:=Fb f a n;rw[yh];split <;> omega
def adw(f:Int→Bool)(a b:Int):Int:=yh f a (b-a).toNat
theorem QQ(f:Int→Bool){a b:Int}(h:b≤a):adw f a b=0:=by
 unfold adw;rw[show(b-a).toNat=0 by omega];rfl
def Xq(f t:Int):Int:=(t-f+1440)%1440
def Zo.bandM(z:Zo)(S T f t:Int):Int:=adw (fun x=>ij (z.clk x) f t) S T
theorem I3{a b:Int}:(if b>a then b else a)=max a b:=by rw[Int.max_def];split <;> split <;> omega
theorem Xr{a b:Int}:(if b<a then b else a)=min a b:=by rw[Int.min_def];split <;> split <;> omega
theorem dV{lh:aE ah}{sh:List ah}{v:T}{k n sz bytes:Nat}{cs:List T}(h:bh lh v k sz n cs)(r:List T)(D:r.length=sz)(hr:(n+1)*bytes≤roomy)(ex:Bool):
  appW lh sh k sz bytes v (.sl r 1 ex)=some (nxV lh sh k sz bytes v (.sl r 1 ex),Qy lh sh k sz bytes v (.sl r 1 ex))∧bh (Qy lh sh k sz bytes v (.sl r 1 ex)) (nxV lh sh k sz bytes v (.sl r 1 ex)) k sz (n+1) (cs++r)∧ ∀j,j≠k→ab (Qy lh sh k sz bytes v (.sl r 1 ex)) j=ab lh j:=
 bh.appW h (m:=0) (by rw[ED,if_pos zZ]) zZ hr
section
variable(z:Zo)(a:T)(hz:ZoT z a)(hlen:z.sh.length≤16)(A B:Int)
include hz hlen
end
theorem adx(c f t:Int):ae pE 173 [.i .i64 c,.i .i64 f,.i .i64 t] []=some (.b (ij c f t),[]):=by
 rw[av T3 (by simp[D3])]
 unfold ij
 by_cases h1:f≤t
 ·by_cases h2:f≤c <;> by_cases h3:c<t <;> simp only[qA,seval,D3,h1,h2,h3]
 ·by_cases h2:f≤c <;> by_cases h3:c<t <;> simp only[qA,seval,D3,h1,h2,h3,or_true,or_false,or_self]
def SpB(A B f t:Int):Prop:=0≤A∧A≤B∧B≤52596000∧0≤f∧f<1440∧0≤t∧t<1440
section
variable(z:Zo)(a:T)(hz:ZoT z a)(hv:gG z=0)(A B f t:Int)(hs:SpB A B f t)
include hz hv hs
theorem Xs:ae pE 171 [.agg (A9 z a),.agg [.i .i64 A,.i .i64 B],.i .i64 f,.i .i64 t] []=some (.i .i64 0,[]):=by
 obtain⟨D,s2,s3,N,O,R,U⟩:=hs
 obtain⟨F,r,hc⟩:=hz
 have h1:=Ba z a F r hc
 rw[hv]at h1
 have h2:ae pE 238 [.agg [.i .i64 A,.i .i64 B]] []=some (.b true,[]):=by
  rw[av agy (by simp[Tj])]
  simp only[qA,seval,Tj,D,s2,s3]
 have H: ¬f<0:=zZ
 have I: ¬(1439:Int)<f:=zZ
 have J: ¬t<0:=zZ
 have K: ¬(1439:Int)<t:=zZ
 unfold A9
 rw[av afP (by simp[SO])]
 simp only[qA,seval,SO,h1,h2,H,I,J,K,r.froz1,TU,aur]
theorem aCD(fr:Fr)(lh:aE ah)(sh:List ah)(h2:aa fr 2= .i .i64 f)(h3:aa fr 3= .i .i64 t)(h4:aa fr 4= .ptr .L 4 1 0)(h5:aa fr 5= .ptr .L 5 1 0)(r:aa fr 11= .i .i64 0)(D:aa fr 12= .i .i64 A)(I:ab lh 4=⟨1,.cells (A9 z a) 0 true⟩)(J:ab lh 5=⟨1,.cells [.i .i64 A,.i .i64 B] 0 true⟩):
  uL 47 sx fr lh sh (.ext 0)∧
  (aa (pz pE 47 sx fr lh sh) 11= .i .i64 (z.bandM A B f t)∧jw pE 47 sx fr lh sh=sh):=by
 obtain⟨s1,s2,s3,f1,f2,t1,t2⟩:=hs
 have K:=fun x=>oW z a hz (ri hv).2.1 hv x
 have N:froz1 a=true:=by obtain⟨cc,V,_⟩:=hz;exact V.froz1
 unfold A9 at I K
 refine gI (fun k st=> ∃(fr:Fr) (lh:aE ah),st=⟨fr,lh,sh⟩∧aa fr 2= .i .i64 f∧aa fr 3= .i .i64 t∧aa fr 4= .ptr .L 4 1 0∧aa fr 5= .ptr .L 5 1 0∧aa fr 11= .i .i64 (yh (fun x=>ij (z.clk x) f t) A k)∧aa fr 12= .i .i64 (A+k)∧ab lh 4=⟨1,.cells [.s z.nm,.i .i64 z.o,a] 0 true⟩∧ab lh 5=⟨1,.cells [.i .i64 A,.i .i64 B] 0 true⟩)
  (fun W aU X=>aa W 11= .i .i64 (z.bandM A B f t)∧X=sh) _ (B-A).toNat ?_ ?_ fr lh sh ⟨fr,lh,rfl,h2,h3,h4,h5,r,by rw[D];simp,I,J⟩
 ·rintro k _ hk ⟨fr,lh,rfl,h2,h3,h4,h5,r,D,I,J⟩
  have F:A+k<B:=zZ
  have hi:qk (A+k)=true:=by unfold qk;simp only[Bool.and_eq_true,decide_eq_true_eq];omega
  obtain⟨w,nr⟩:=Xo z a hz hv (A+k) hi
  have H:=wV _ nr
  have O:=adx (z.clk (A+k)) f t
  have qV:=Fb (fun x=>ij (z.clk x) f t) A k
  have GA:wr .i64 (A+k+1)=A+((k+1:Nat):Int):=by rw[bI zZ];omega
  have R:wr .i64 (yh (fun x=>ij (z.clk x) f t) A k+1)=yh (fun x=>ij (z.clk x) f t) A k+1:=bI zZ
  have Y:yh (fun x=>ij (z.clk x) f t) A (k+1)=yh (fun x=>ij (z.clk x) f t) A k+if ij (z.clk (A+k)) f t=true then 1 else 0:=rfl
  have QR:=K (A+k)
  rw[show(A+k+z.off (A+k))%1440=z.clk (A+k)from rfl]at H
  generalize yh (fun x=>ij (z.clk x) f t) A k=q at*
  generalize z.clk (A+k)=cl at*
  generalize (A+k+z.off (A+k))/1440=dy at*
  generalize U:A+k+z.off (A+k)=m at*
  generalize A+(k:Int)=x at*
  have Z:=H
  rw[Y]
  cases hb:ij cl f t <;> rw[hb]at O
  ·simp only[qA,seval,sx,h2,h3,h4,h5,r,D,I,J,F,QR,U,w,H,O,GA,N,TE,ME,T4]
   exact fN ⟨_,_,rfl,by simp only[qA,seval,h2],by simp only[qA,seval,h3],by simp only[qA,seval,h4],by simp only[qA,seval,h5],by simp only[qA,seval,r,Int.add_zero],by simp only[qA,seval],by simp only[I],by simp only[J]⟩
  ·simp only[qA,seval,sx,h2,h3,h4,h5,r,D,I,J,F,QR,U,w,H,O,GA,R,N,TE,ME,T4]
   exact fN ⟨_,_,rfl,by simp only[qA,seval,h2],by simp only[qA,seval,h3],by simp only[qA,seval,h4],by simp only[qA,seval,h5],by simp only[qA,seval],by simp only[qA,seval],by simp only[I],by simp only[J]⟩
 ·rintro _ ⟨fr,lh,rfl,h2,h3,h4,h5,r,D,I,J⟩
  have F: ¬A+(((B-A).toNat:Nat):Int)<B:=zZ
  simp only[qA,seval,sx,h5,D,J,F]
  exact jZ ⟨rfl,by simp only[qA,seval,r];rfl,rfl⟩
theorem alc:ae pE 98 [.agg (A9 z a),.agg [.i .i64 A,.i .i64 B],.i .i64 f,.i .i64 t] []=some (.tup [.i .i64 (z.bandM A B f t),.i .i64 0],[]):=by
 have hL:=fun fr lh sh h2 h3 h4 h5 r D F H=>aCD z a hz hv A B f t hs fr lh sh h2 h3 h4 h5 r D F H
 have h1:=Xs z a hz hv A B f t hs
 obtain⟨J,I,hc⟩:=hz
 unfold A9 at h1 hL ⊢
 rw[av ate (by simp[c98])]
 simp only[qA,seval,c98,h1,hL,I.froz1,atY]
end
def rnC(l:List (Int×Int)):List T:=l.flatMap fun x=> [.i .i64 x.1,.i .i64 x.2]
theorem ady(a b:List (Int×Int)):rnC (a++b)=rnC a++rnC b:=by grind [rnC]
theorem adz(l:List (Int×Int)):(rnC l).length=l.length*2:=jH (sz:=2) (fun _=>rfl) l
def aw0(lh:aE ah)(v:T)(R:List (Int×Int)):Prop:=
 (R= []∧v= .nilsl)∨ ∃R' x g,R=R'++ [x]∧v= .isl .L 109 g 0 (R'.length+1) 2∧ab lh 109=⟨g,.cells (rnC R'++ [.i .i64 x.1,.i .i64 x.2]) 0 false⟩
theorem adA(R:List (Int×Int))(a b:T):(rnC R++ [a,b]).length=R.length*2+2:=by rw[List.length_append,adz];rfl
section
variable(f t o p q:Int)(hf:0≤f∧f<1440)(hl:1≤Xq f t∧Xq f t<1440)(ho: -840≤o∧o≤840)(hp:0≤p)(hq:p<q∧q≤52596000)
include hf hl ho hp hq
end
def aCE(x:Int×Int×Int):Prop:=0≤x.1∧x.1<x.2.1∧x.2.1≤52596000∧ -840≤x.2.2∧x.2.2≤840
section
variable(f t A B:Int)(hs:SpB A B f t)(hl:Xq f t≠0)(L:List (Int×Int×Int))(hL: ∀x∈L,aCE x)(hLl:L.length≤17)
include hs hl hL hLl
end
end Go.Proofs.YtnkgnjecmfkcfaaGreat
