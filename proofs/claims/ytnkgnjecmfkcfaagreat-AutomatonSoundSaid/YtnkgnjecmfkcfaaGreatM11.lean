/- Walks, plain laws (11). Conditions: the theorems' own. -/
import Derived.Test.YtnkgnjecmfkcfaaGreatM10
set_option maxRecDepth 100000
set_option linter.all false
set_option maxHeartbeats 16000000
namespace Go.Proofs.YtnkgnjecmfkcfaaGreat
open Go Go.Ev
def aaw{R:List ah}{vs:List (Nat×T×RL)}{sz:Nat}{v:T}(l:RL)(h:uj R vs)(r:(sz,v,l)∈vs): ∃n:Nat,((v= .nilsl∧n=0)∨ ∃i g,v= .isl .S (i+7) g 0 n sz)∧n≤1000∧lenI v=some (qi (n:Int)):=by
 rcases h _ r with⟨h,_⟩|⟨i,g,n,cs,wm,h1,h2,h3,h4,h5,h6⟩
 ·simp only at h;subst h;exact⟨0,.inl ⟨rfl,rfl⟩,by omega,rfl⟩
 ·simp only at h1;subst h1;exact⟨n,.inr ⟨i,g,rfl⟩,h5,rfl⟩
theorem aax{m:Nat}{lh:aE ah}{sh:List ah}{k g r:Nat}{cs:List T}{bx:Bool}(h:ab lh k=⟨g,.cells cs r bx⟩):fzW (m+1) lh sh false (.ptr .L k g 0)=(ub m lh sh false cs).map fun q=>(.vp q.1,q.2++ [(.L,k,⟨g,.cells cs cs.length bx⟩)]):=by
 have D:(St.mk .nil lh sh).get .L k=ab lh k:=rfl
 unfold fzW ub
 rw[fz]
 simp only[Bool.false_and,Bool.false_eq_true,if_false,Q.run,D,h,if_true,List.drop_zero]
 rw[bz]
 cases (bo (fz false (m+1)) cs).run (St.mk .nil lh sh).get sh.length <;> rfl
def Qa(sz:Nat)(l:RL)(v:T):Prop:= ∃n cs,IsSl v n cs∧n*sz=cs.length∧xx sz l cs
def uk{R:List ah}{vs:List (Nat×T×RL)}{sz:Nat}{v:T}(l:RL)(h:uj R vs)(D:(sz,v,l)∈vs)(a7:T)(m:List (List Nat×Nat))(kn:List (Nat×Int)): ∃r us,froz1 r=true∧(∀lh n,fzW n lh (eJ a7 m kn R) false v=some (r,us))∧Qa sz l r:=by
 rcases h _ D with⟨h,hl⟩|⟨i,g,n,cs,wm,h1,h2,h3,h4,h5,h6⟩
 ·simp only at h hl;subst h hl;exact⟨.nilsl,[],rfl,fun lh n=>yw rfl,0,[],.inl ⟨rfl,rfl,rfl⟩,by simp,xx.nil sz⟩
 ·simp only at h1 h4 h6;subst h1
  refine⟨.sl ((cs.drop 0).take (n*sz)) n false,[(.S,i+7,⟨g,.cells cs cs.length false⟩)],rfl,fun lh k=> ?_,n,cs,.inr ⟨false,by rw[h4];simp⟩,h4,h6⟩
  have F:(St.mk .nil lh (eJ a7 m kn R)).get .S (i+7)=aI R i:=Fv _ _ _ _ _
  simp_all[fzW,fz,Bool.false_and,Bool.false_eq_true,Q.run,Nat.zero_add,Nat.le_refl]
def Ea(t:Tt)(c:Ct)(vs:List T):Prop:= ∃(q:List (List Nat×List T)) (r D F H I J cr:T) (K:Bool),vs= [.vm (q.map fun p=>sK p.1) (q.map fun p=>T.agg p.2),.nilsl,r,D,F,.nilsl,H,I,J,cr,.b K]∧TM t.zo t.ap q∧q.map Prod.fst=t.ap.map Ap.cd∧
 Qa 4 (uD c 1 c.ru.length) r∧Qa 4 (uD c 2 c.ru.length) D∧Qa 4 (uD c 3 c.ru.length) F∧Qa 3 (tC c 1 c.co.length) H∧Qa 3 (tC c 2 c.co.length) I∧Qa 3 (tC c 3 c.co.length) J∧Qa 3 (TN c c.cr.length) cr
def aBO(t:Tt)(c:Ct)(zT aT fT a7 a8 a9 aw aA az:T)(hT:jV t zT aT fT)(hC:kR c a7 a8 a9 aw aA az)(hS:rk c)(ht:np t=0)(hc:eH c=0)(hnz:(t.zo.map Zo.nm).Nodup)(hlz:t.zo.length≤100)(hna:(t.ap.map Ap.cd).Nodup)(hla:t.ap.length≤100)(hzn: ∀u∈t.ap,u.zn∈t.zo.map Zo.nm)
  (uE: ∀u∈c.ru,KI c.cs u.sc u.x) (lru:c.ru.length≤40) (iz: ∀u∈c.co,KI c.cs u.sc u.x) (lco:c.co.length≤40) (qn: ∀u∈c.cr,KI c.cs 1 u) (lcr:c.cr.length≤40) (lcs:c.cs.length≤32):
  ∃s vs,ae pE 35 [.agg [zT,aT,fT],.agg (aO c a7 a8 a9 aw aA az)] []=some (.tup [.vp (zT::aT::fT::(aO c a7 a8 a9 aw aA az++vs)),qi 0],s)∧vs.all froz1=true∧vs.length=11∧Ea t c vs:=by
 have hpt:=apa t zT aT fT hT
 obtain⟨s1,V⟩:=Qb c a7 a8 a9 aw aA az hC hS
 rw[ht]at hpt
 rw[hc]at V
 obtain⟨⟨zc,z1,z2⟩,⟨ac,b1,b2⟩,⟨fc,W,f2⟩⟩:=hT
 obtain⟨⟨c7,X,j7⟩,⟨c8,i8,j8⟩,⟨c9,i9,j9⟩,⟨uF,U,Ah⟩,⟨IC,i11,DJ⟩,⟨Mq,i12,FA⟩⟩:=hC
 have hfT:=W.froz1
 have hnc:=apb c.cs a7 c7 X j7 (by unfold jA;omega)
 rw[show Hj a7 (bE c.cs c.cs.length) [] 4=eJ a7 (bE c.cs c.cs.length) [] []by unfold eJ;rw[List.append_nil]]at hnc
 have hk7:kept a7=true:=by rcases X with⟨rfl,_,_⟩|⟨ex,rfl⟩ <;> rfl
 rw[au axu (by simp[Bg])]
 unfold aO at V ⊢
 simp only[qA,seval,Bg,hpt,V,aGi,axR,z1.froz1,b1.froz1,W.froz1,X.froz1,i8.froz1,i9.froz1,U.froz1,i11.froz1,i12.froz1,z1.lenI]
 generalize H:DC pE 232 (.loop jO) _=D
 obtain⟨W,l1,s2,rfl,⟨N,I,O,J,⟨m,KF,hm⟩,rfl⟩,F⟩:=aHN t.zo hnz zT zc z1 z2 hlz ⟨1,.cells [zT,aT,fT] 0 true⟩ ⟨1,.cells [qi c.rp,qi c.rl,qi c.cn,qi c.st,qi c.ly,qi c.nf,qi c.nt,a7,a8,a9,aw,aA,az,qi c.gu] 0 true⟩ ⟨1,.map [] [] false⟩ ⟨1,.cells (fE zT aT fT c a7 a8 a9 aw aA az (fU .nilsl .nilsl .nilsl .nilsl .nilsl .nilsl .nilsl (.b false))) 0 true⟩ H yk yk yk yk yk yk yk (by unfold fE aO fU;simp only[List.cons_append,List.nil_append];simp only[qA,seval]) yk
 have aBP:aa W 2= .ptr .L 2 1 0:=by rw[F 2 zz];simp only[qA,seval]
 have aHU:aa W 3= .ptr .L 3 1 0:=by rw[F 3 zz];simp only[qA,seval]
 have aBQ:aa W 8= .ptr .L 37 1 0:=by rw[F 8 zz];simp only[qA,seval]
 have aHV:aa W 9= .mp .L 38 1:=by rw[F 9 zz];simp only[qA,seval]
 clear F
 simp only[qA,seval,aBP,N,b1.lenI]
 have r:=J
 unfold fE aO fU at r
 simp only[List.cons_append,List.nil_append]at r
 clear H
 generalize H:DC pE 232 (.loop kY) _=D
 obtain⟨f2,l1,s2,rfl,⟨N,I,J,⟨q,O,hq⟩,rfl⟩,F⟩:=aHO t.ap hna aT ac b1 b2 hla t.zo m hm hzn zT aT fT c a7 a8 a9 aw aA az (fU .nilsl .nilsl .nilsl .nilsl .nilsl .nilsl .nilsl (.b false)) ⟨1,.cells [zT,aT,fT] 0 true⟩ ⟨1,.cells [qi c.rp,qi c.rl,qi c.cn,qi c.st,qi c.ly,qi c.nf,qi c.nt,a7,a8,a9,aw,aA,az,qi c.gu] 0 true⟩ H (by simp only[qA,seval,aBQ]) (by simp only[qA,seval,aHV]) yk yk yk (by simp only[N]) (by simp only[I]) (by simp only[O]) (by unfold fE aO fU;simp only[List.cons_append,List.nil_append];simp only[r]) (by simp only[KF])
 have aOi:aa f2 2= .ptr .L 2 1 0:=by rw[F 2 zz];simp(maxDischargeDepth:=6) only[qA,seval,aBP]
 have aBR:aa f2 3= .ptr .L 3 1 0:=by rw[F 3 zz];simp only[qA,seval,aHU]
 have aBS:aa f2 8= .ptr .L 37 1 0:=by rw[F 8 zz];simp only[qA,seval,aBQ]
 clear F r
 simp only[qA,seval,aBR,I,hk7,hnc,axS,i8.lenI]
 have yB:jC c.cs []:=fun i v h=>by simp[aP]at h
 have r:=J
 unfold fE aO fU at r
 simp only[List.cons_append,List.nil_append]at r
 clear H
 generalize H:DC pE 232 (.loop fV) _=D
 obtain⟨f3,l1,s2,rfl,⟨N,I,O,R,kn,r1,r2,r3,rfl,jH,lO,J⟩,F⟩:=aHP c a7 a8 c7 c8 X j7 i8 j8 lru uE zT aT fT a9 aw aA az (.b false) ⟨1,.cells [zT,aT,fT] 0 true⟩ ⟨1,.cells [qi c.rp,qi c.rl,qi c.cn,qi c.st,qi c.ly,qi c.nf,qi c.nt,a7,a8,a9,aw,aA,az,qi c.gu] 0 true⟩ ⟨1,.map (q.map fun p=>sK p.1) (q.map fun p=>T.agg p.2) false⟩ [] yB H rfl (by simp only[qA,seval,aBS]) yk yk yk yk (by simp only[N]) (by simp only[I]) (by simp only[O]) (by unfold fE aO fU;simp only[List.cons_append,List.nil_append];simp only[r])
 have aBT:aa f3 3= .ptr .L 3 1 0:=by rw[F 3 zz];simp only[qA,seval,aBR]
 have aBU:aa f3 8= .ptr .L 37 1 0:=by rw[F 8 zz];simp only[qA,seval,aBS]
 have alu:aa f3 14= .ptr .S 2 1 0:=by rw[F 14 zz];simp only[qA,seval]
 clear F r
 simp only[qA,seval,aBT,I,i9.lenI]
 have r:=J
 unfold fE aO fU at r
 simp only[List.cons_append,List.nil_append]at r
 clear H
 generalize H:DC pE 232 (.loop kW) _=D
 obtain⟨f4,l1,s2,rfl,⟨N,I,O,R1,KN,c1,c2,c3,rfl,jH,lO,J⟩,F⟩:=aHQ c a7 a9 c7 c9 X j7 i9 j9 lco iz zT aT fT a8 aw aA az (.b false) r1 r2 r3 ⟨1,.cells [zT,aT,fT] 0 true⟩ ⟨1,.cells [qi c.rp,qi c.rl,qi c.cn,qi c.st,qi c.ly,qi c.nf,qi c.nt,a7,a8,a9,aw,aA,az,qi c.gu] 0 true⟩ ⟨1,.map (q.map fun p=>sK p.1) (q.map fun p=>T.agg p.2) false⟩ kn jH R _ _ _ lO H rfl (by simp only[qA,seval,aBU]) (by simp only[qA,seval,alu]) yk yk yk (by simp only[N]) (by simp only[I]) (by simp only[O]) (by unfold fE aO fU;simp only[List.cons_append,List.nil_append];simp only[r])
 have aHW:aa f4 3= .ptr .L 3 1 0:=by rw[F 3 zz];simp only[qA,seval,aBT]
 have aBV:aa f4 8= .ptr .L 37 1 0:=by rw[F 8 zz];simp only[qA,seval,aBU]
 have aBW:aa f4 14= .ptr .S 2 1 0:=by rw[F 14 zz];simp only[qA,seval,alu]
 clear F r
 simp only[qA,seval,aHW,I,U.lenI]
 have r:=J
 unfold fE aO fU at r
 simp only[List.cons_append,List.nil_append]at r
 clear H
 generalize H:DC pE 232 (.loop jN) _=D
 obtain⟨f5,l1,s2,rfl,⟨N,I,O,R2,Qc,cr,rfl,jH,lO,J⟩,F⟩:=aHR c a7 aw c7 uF X j7 U Ah lcr qn zT aT fT a8 a9 aA az (.b false) r1 r2 r3 c1 c2 c3 ⟨1,.cells [zT,aT,fT] 0 true⟩ ⟨1,.cells [qi c.rp,qi c.rl,qi c.cn,qi c.st,qi c.ly,qi c.nf,qi c.nt,a7,a8,a9,aw,aA,az,qi c.gu] 0 true⟩ ⟨1,.map (q.map fun p=>sK p.1) (q.map fun p=>T.agg p.2) false⟩ KN jH R1 _ _ _ _ _ _ lO H rfl (by simp only[qA,seval,aBV]) (by simp only[qA,seval,aBW]) yk yk yk (by simp only[N]) (by simp only[I]) (by simp only[O]) (by unfold fE aO fU;simp only[List.cons_append,List.nil_append];simp only[r])
 have Y:aa f5 8= .ptr .L 37 1 0:=by rw[F 8 zz];simp only[qA,seval,aBV]
 clear F r
 have Z:=lO.toW zV
 obtain⟨n2,D2,aHX,UU⟩:=aaw (sz:=4) (v:=r2) (uD c 2 c.ru.length) Z (by simp[iF])
 obtain⟨n1,D1,aHY,Mk⟩:=aaw (sz:=3) (v:=c2) (tC c 2 c.co.length) Z (by simp[iF])
 have r:=J
 unfold fE aO fU at r
 simp only[List.cons_append,List.nil_append]at r
 simp only[qA,seval,eY,Y,r,UU]
 have r:=J
 unfold fE aO fU at r
 simp only[List.cons_append,List.nil_append]at r
 clear H
 generalize H:DC pE 232 (.loop jM) _=D
 obtain⟨f6,l1,s2,rfl,⟨N,I,O,R3,nb,rfl,hw3,J⟩,F⟩:=aBM c a7 a8 a9 aw aA az zT aT fT r1 r2 r3 c1 c2 c3 cr _ Qc false R2 _ _ _ _ _ _ _ Z n2 D2 aHX ⟨1,.cells [zT,aT,fT] 0 true⟩ ⟨1,.cells [qi c.rp,qi c.rl,qi c.cn,qi c.st,qi c.ly,qi c.nf,qi c.nt,a7,a8,a9,aw,aA,az,qi c.gu] 0 true⟩ ⟨1,.map (q.map fun p=>sK p.1) (q.map fun p=>T.agg p.2) false⟩ H rfl (by simp only[qA,seval,Y]) yk yk (by simp only[N]) (by simp only[I]) (by simp only[O]) (by unfold fE aO fU;simp only[List.cons_append,List.nil_append];simp only[r])
 have apd:aa f6 8= .ptr .L 37 1 0:=by rw[F 8 zz];simp only[qA,seval,Y]
 clear F r
 have r:=J
 unfold fE aO fU at r
 simp only[List.cons_append,List.nil_append]at r
 simp only[qA,seval,eY,apd,r,Mk]
 have r:=J
 unfold fE aO fU at r
 simp only[List.cons_append,List.nil_append]at r
 clear H
 generalize H:DC pE 232 (.loop jL) _=D
 obtain⟨f7,l1,s2,rfl,⟨N,I,O,R4,nb1,rfl,K,J⟩,F⟩:=aBN c a7 a8 a9 aw aA az zT aT fT r1 r2 r3 c1 c2 c3 cr _ Qc nb R3 _ _ _ _ _ _ _ hw3 n1 D1 aHY ⟨1,.cells [zT,aT,fT] 0 true⟩ ⟨1,.cells [qi c.rp,qi c.rl,qi c.cn,qi c.st,qi c.ly,qi c.nf,qi c.nt,a7,a8,a9,aw,aA,az,qi c.gu] 0 true⟩ ⟨1,.map (q.map fun p=>sK p.1) (q.map fun p=>T.agg p.2) false⟩ H rfl (by simp only[qA,seval,apd]) yk yk (by simp only[N]) (by simp only[I]) (by simp only[O]) (by unfold fE aO fU;simp only[List.cons_append,List.nil_append];simp only[r])
 have aHZ:aa f7 8= .ptr .L 37 1 0:=by rw[F 8 zz];simp only[qA,seval,apd]
 clear F r
 have r:=J
 unfold fE aO fU at r
 simp only[List.cons_append,List.nil_append]at r
 simp only[qA,seval,aHZ]
 obtain⟨x0,u0,y0,w0,z0⟩:=uk (sz:=4) (v:=r1) (uD c 1 c.ru.length) K (by simp[iF]) a7 (bE c.cs c.cs.length) Qc
 obtain⟨x1,u1,y1,w1,z1'⟩:=uk (sz:=4) (v:=r2) (uD c 2 c.ru.length) K (by simp[iF]) a7 (bE c.cs c.cs.length) Qc
 obtain⟨x2,u2,y2,w2,z2'⟩:=uk (sz:=4) (v:=r3) (uD c 3 c.ru.length) K (by simp[iF]) a7 (bE c.cs c.cs.length) Qc
 obtain⟨x3,u3,y3,w3,z3⟩:=uk (sz:=3) (v:=c1) (tC c 1 c.co.length) K (by simp[iF]) a7 (bE c.cs c.cs.length) Qc
 obtain⟨x4,u4,y4,w4,z4⟩:=uk (sz:=3) (v:=c2) (tC c 2 c.co.length) K (by simp[iF]) a7 (bE c.cs c.cs.length) Qc
 obtain⟨x5,u5,y5,w5,z5⟩:=uk (sz:=3) (v:=c3) (tC c 3 c.co.length) K (by simp[iF]) a7 (bE c.cs c.cs.length) Qc
 obtain⟨x6,u6,y6,w6,z6⟩:=uk (sz:=3) (v:=cr) (TN c c.cr.length) K (by simp[iF]) a7 (bE c.cs c.cs.length) Qc
 rw[aax r]
 simp only[qA,seval,O,mpV,z1.froz1,b1.froz1,hfT,X.froz1,i8.froz1,i9.froz1,U.froz1,i11.froz1,i12.froz1,w0,w1,w2,w3,w4,w5,w6]
 refine⟨_,_,rfl, ?_, ?_,q,x0,x1,x2,x3,x4,x5,x6,nb1, ?_,hq.1,hq.2,z0,z1',z2',z3,z4,z5,z6⟩
 ·simp only[List.all_cons,List.all_nil,y0,y1,y2,y3,y4,y5,y6,Bool.and_true,Bool.true_and];rfl
 ·rfl
 ·rfl
theorem nzo: ∀(l:List Zo) (seen:List (List Nat)),ID seen l=0→(l.map Zo.nm).Nodup∧ ∀z∈l,z.nm∉seen
 | [],seen,_=>⟨List.nodup_nil,fun z hz=>by cases hz⟩
 |z::r,seen,h=>by
  rw[ID]at h
  by_cases h1:ig z=0
  ·rw[if_neg (by simp[h1])]at h
   by_cases h2:z.nm∈seen
   ·grind
   ·rw[if_neg h2]at h
    obtain⟨D,F⟩:=nzo r _ h
    grind
  ·grind
theorem nap(D:List (List Nat)): ∀(l:List Ap) (seen:List (List Nat)),IE D seen l=0→(l.map Ap.cd).Nodup∧ ∀z∈l,z.cd∉seen
 | [],seen,_=>⟨List.nodup_nil,fun z hz=>by cases hz⟩
 |z::r,seen,h=>by
  rw[IE]at h
  by_cases h1:Eb z.cd=false
  ·grind
  ·rw[if_neg h1]at h
   by_cases h2:z.cd∈seen
   ·grind
   ·rw[if_neg h2]at h
    by_cases h3:z.zn∉D
    ·rw[if_pos h3]at h;cases h
    ·rw[if_neg h3]at h
     obtain⟨H,F⟩:=nap D r _ h
     refine⟨?_,fun y hy=> ?_⟩
     ·rw[List.map_cons,List.nodup_cons]
      refine⟨fun I=> ?_,H⟩
      obtain⟨y,hy,e⟩:=List.mem_map.1 I
      exact F y hy (by rw[e];simp)
     ·rcases List.mem_cons.1 hy with rfl|hy
      ·exact h2
      ·exact fun hs=>F y hy (by simp[hs])
theorem nzn(D:List (List Nat)): ∀(l:List Ap) (seen:List (List Nat)),IE D seen l=0→ ∀u∈l,u.zn∈D
 | [],seen,_,u,hu=>by cases hu
 |z::r,seen,h,u,hu=>by
  rw[IE]at h
  by_cases h1:Eb z.cd=false
  ·grind
  ·rw[if_neg h1]at h
   by_cases h2:z.cd∈seen
   ·grind
   ·rw[if_neg h2]at h
    by_cases h3:z.zn∉D
    ·rw[if_pos h3]at h;cases h
    ·rw[if_neg h3]at h
     rcases List.mem_cons.1 hu with rfl|hu
     ·simpa using h3
     ·exact nzn D r _ h u hu
theorem nzs: ∀(l:List Zo) (seen:List (List Nat)),ID seen l=0→ ∀z∈l,ig z=0
 | [],seen,_,u,hu=>by cases hu
 |z::r,seen,h,u,hu=>by
  rw[ID]at h
  by_cases h1:ig z=0
  ·rw[if_neg (by simp[h1])]at h
   by_cases h2:z.nm∈seen
   ·grind
   ·rw[if_neg h2]at h
    rcases List.mem_cons.1 hu with rfl|hu
    ·exact h1
    ·exact nzs r _ h u hu
  ·grind
theorem nfl(D:List (List Nat)): ∀(l:List Fl) (p:Option Fl),DK D p l=0→ ∀f∈l,Ec D f=0
 | [],p,_,u,hu=>by cases hu
 |z::r,p,h,u,hu=>by
  unfold DK at h
  by_cases h1:Ec D z=0
  ·rw[if_neg (by simp[h1])]at h
   have F:DK D (some z) r=0:=by
    grind
   rcases List.mem_cons.1 hu with rfl|hu
   ·exact h1
   ·exact nfl D r _ F u hu
  ·grind
def wN(t:Tt)(h:np t=0):(∀z∈t.zo,ig z=0)∧(∀u∈t.ap,u.zn∈t.zo.map Zo.nm)∧(∀f∈t.fl,Ec (t.ap.map Ap.cd) f=0)∧t.fl.length≤200:=by
 unfold np at h
 split at h
 ·cases h
 split at h
 ·cases h
 split at h
 ·cases h
 split at h
 ·grind
 split at h
 ·rename_i q;exact absurd h q
 rename_i a b c d e
 exact⟨nzs t.zo [] zV,nzn (t.zo.map Zo.nm) t.ap [] zV,nfl _ t.fl none h,by omega⟩
def NK(t:Tt)(h:np t=0):(t.zo.map Zo.nm).Nodup∧t.zo.length≤100∧(t.ap.map Ap.cd).Nodup∧t.ap.length≤100:=by
 unfold np at h
 split at h
 ·cases h
 split at h
 ·cases h
 split at h
 ·cases h
 split at h
 ·grind
 split at h
 ·rename_i q;exact absurd h q
 rename_i a b c d e
 exact⟨(nzo t.zo [] zV).1,by omega,(nap (t.zo.map Zo.nm) t.ap [] zV).1,by omega⟩
theorem aaz: ∀(l:List Ru) (seen:List (Int×List Nat)),IF seen l=0→ ∀u∈l,kS u.sc 1 3=true∧bM u.x=0
 | [],seen,_,u,hu=>by cases hu
 |v::l,seen,h,u,hu=>by
  rw[IF]at h
  split at h
  ·cases h
  split at h
  ·cases h
  split at h
  ·grind
  rename_i a b c
  rcases List.mem_cons.1 hu with rfl|hu
  ·exact⟨by cases r:kS u.sc 1 3 with|true=>rfl|false=>exact absurd (.inl r) a,by omega⟩
  ·exact aaz l _ h u hu
theorem aaA: ∀(l:List Co),KO l=0→ ∀u∈l,kS u.sc 1 3=true∧bM u.x=0
 | [],_,u,hu=>by cases hu
 |v::l,h,u,hu=>by
  rw[KO]at h
  split at h
  ·cases h
  split at h
  ·grind
  rename_i a c
  rcases List.mem_cons.1 hu with rfl|hu
  ·grind
  ·exact aaA l h u hu
theorem aaB: ∀(l:List Ex),KP l=0→ ∀u∈l,bM u=0
 | [],_,u,hu=>by cases hu
 |v::l,h,u,hu=>by
  rw[KP]at h
  split at h
  ·grind
  rename_i c
  rcases List.mem_cons.1 hu with rfl|hu
  ·omega
  ·exact aaB l h u hu
def aaC{n:Int}(h:kS n 1 3=true):n=1∨n=2∨n=3:=by
 unfold kS at h
 simp only[Bool.and_eq_true,decide_eq_true_eq]at h
 omega
def NL{l:Cs}{r:Int}{x:Ex}{w:Int}(hv:bM x=0)(h:IG l r x w=0): ∃k,x.ty (clk l (ju l l.length)) r=(k,0):=by
 have h2:(cj l r x).2=0:=by
  unfold IG at h
  split at h
  ·cases h
  ·exact h
 unfold cj at h2
 rw[if_neg (by simp[hv])]at h2
 exact⟨(x.ty (clk l (ju l l.length)) r).1,Prod.ext rfl h2⟩
theorem aaD(cs:Cs): ∀(l:List Ru),KQ cs l=0→ ∀u∈l,IG cs u.sc u.x 4=0
 | [],_,u,hu=>by cases hu
 |v::l,h,u,hu=>by
  rw[KQ]at h
  split at h
  ·rename_i q;exact absurd h q
  rename_i c
  rcases List.mem_cons.1 hu with rfl|hu
  ·omega
  ·exact aaD cs l h u hu
theorem aaE(cs:Cs): ∀(l:List Co),KR cs l=0→ ∀u∈l,IG cs u.sc u.x 1=0
 | [],_,u,hu=>by cases hu
 |v::l,h,u,hu=>by
  rw[KR]at h
  split at h
  ·rename_i q;exact absurd h q
  rename_i c
  rcases List.mem_cons.1 hu with rfl|hu
  ·omega
  ·exact aaE cs l h u hu
theorem aaF(cs:Cs): ∀(l:List Ex),Mr cs l=0→ ∀u∈l,IG cs 1 u 2=0
 | [],_,u,hu=>by cases hu
 |v::l,h,u,hu=>by
  rw[Mr]at h
  split at h
  ·rename_i q;exact absurd h q
  rename_i c
  rcases List.mem_cons.1 hu with rfl|hu
  ·omega
  ·exact aaF cs l h u hu
def lP(c:Ct)(h:eH c=0):(∀u∈c.ru,KI c.cs u.sc u.x)∧c.ru.length≤40∧(∀u∈c.co,KI c.cs u.sc u.x)∧c.co.length≤40∧(∀u∈c.cr,KI c.cs 1 u)∧c.cr.length≤40∧c.cs.length≤32:=by
 unfold eH at h
 split at h
 ·rename_i q;exact absurd h q
 split at h
 ·rename_i q;exact absurd h q
 split at h
 ·rename_i q;exact absurd h q
 split at h
 ·rename_i q;exact absurd h q
 rename_i g _ r o
 have g:gr c=0:=zV
 unfold gr at g
 split at g
 ·cases g
 split at g
 ·cases g
 split at g
 ·rename_i q;exact absurd g q
 split at g
 ·rename_i q;exact absurd g q
 split at g
 ·rename_i q;exact absurd g q
 split at g
 ·rename_i q;exact absurd g q
 rename_i _ sz _ F H I
 have sz:lD c=true:=by simpa using sz
 unfold lD at sz
 simp only[Bool.and_eq_true,decide_eq_true_eq]at sz
 refine⟨fun u D=> ?_,sz.2.1,fun u D=> ?_,by omega,fun u D=> ?_,by omega,sz.1⟩
 ·obtain⟨w,v⟩:=aaz c.ru [] zV u D
  exact⟨aaC w,v,NL v (aaD c.cs c.ru zV u D)⟩
 ·obtain⟨w,v⟩:=aaA c.co zV u D
  exact⟨aaC w,v,NL v (aaE c.cs c.co zV u D)⟩
 ·have v:=aaB c.cr zV u D
  exact⟨.inl rfl,v,NL v (aaF c.cs c.cr h u D)⟩
def apf(t:Tt)(c:Ct)(zT aT fT a7 a8 a9 aw aA az:T)(hT:jV t zT aT fT)(hC:kR c a7 a8 a9 aw aA az)(D:rk c)(r:np t=0)(hc:eH c=0):
  ∃s vs,ae pE 35 [.agg [zT,aT,fT],.agg (aO c a7 a8 a9 aw aA az)] []=some (.tup [.vp (zT::aT::fT::(aO c a7 a8 a9 aw aA az++vs)),qi 0],s)∧vs.all froz1=true∧vs.length=11∧Ea t c vs:=by
 obtain⟨F,H,I,J⟩:=NK t r
 obtain⟨K,N,O,U,V,W,X⟩:=lP c hc
 exact aBO t c zT aT fT a7 a8 a9 aw aA az hT hC D r hc F H I J (wN t r).2.1 K N O U V W X
theorem aaG(zT aT fT:T)(r D:List T)(n:Nat)(hf:IsSl fT n D)(i:Int):ae pE 69 [.vp (zT::aT::fT::r),qi i] []=some (.b (decide (0≤i∧i<(n:Int))),[]):=by
 rw[au axN (by simp[c69])]
 by_cases h0:0≤i
 ·by_cases h1:i<(n:Int)
  ·simp only[qA,seval,c69,hf.lenI,h0,h1]
   try simp[h0,h1]
  ·simp only[qA,seval,c69,hf.lenI,h0,h1]
   try simp[h0,h1]
 ·simp only[qA,seval,c69,h0]
  try simp[h0]
def NM(zT aT fT:T)(D H:List T)(l:List Fl)(hf:IsSl fT l.length H)(hr:aD U4 l H)(k:Nat)(hk:k<l.length): ∃r,ae pE 77 [.vp (zT::aT::fT::D),qi (k:Int)] []=some (.vp (.s l[k].nu:: .s l[k].fr:: .s l[k].to:: qi l[k].dp:: qi l[k].ar:: .s l[k].ty:: qi l[k].n0:: qi l[k].n1:: qi l[k].n2::r),[]):=by
 obtain⟨r,F⟩:=nq hf hr k hk
 refine⟨r, ?_⟩
 rw[au ane (by simp[c77])]
 simp only[qA,seval,c77,F]
def Ai(c:Ct)(f g:Fl):Bool:=decide (f.to=g.fr)&&(decide (c.cn≤wr .i64 (g.dp-f.ar))&&decide (wr .i64 (g.dp-f.ar)≤c.st))
def apg(zT aT fT a7 a8 a9 aw aA az:T)(c:Ct)(vs D:List T)(l:List Fl)(hf:IsSl fT l.length D)(hr:aD U4 l D)(i j:Nat)(hi:i<l.length)(F:j<l.length):ae pE 75 [.vp (zT::aT::fT::(aO c a7 a8 a9 aw aA az++vs)),qi (i:Int),qi (j:Int)] []=some (.b (Ai c l[i] l[j]),[]):=by
 obtain⟨r,h1⟩:=NM zT aT fT (aO c a7 a8 a9 aw aA az++vs) D l hf hr i hi
 obtain⟨H,h2⟩:=NM zT aT fT (aO c a7 a8 a9 aw aA az++vs) D l hf hr j F
 rw[au anc (by simp[c75])]
 generalize l[i]=f at*
 generalize l[j]=g at*
 unfold aO at h1 h2 ⊢
 simp only[List.cons_append,List.nil_append]at h1 h2 ⊢
 unfold Ai
 by_cases e:f.to=g.fr
 ·by_cases e2:c.cn≤wr .i64 (g.dp-f.ar)
  ·simp only[qA,seval,c75,h1,h2,Gl,e,e2]
   try simp[e,e2]
  ·simp only[qA,seval,c75,h1,h2,Gl,e,e2]
   try simp[e,e2]
 ·simp only[qA,seval,c75,h1,h2,Gl,e]
  try simp[e]
structure qJ where
 ff:Int
 fh:Bool
 lf:Int
 lh:Bool
 lg:Int
 hd:Int
 bl:Int
 lo:Int
 so:Int
 ty:List (List Nat)
def sZ(s:qJ)(a:T):List T:= [qi s.ff,.b s.fh,qi s.lf,.b s.lh,qi s.lg,qi s.hd,qi s.bl,qi s.lo,qi s.so,a]
def aH0(s:qJ)(a:T):Prop:=IsSl a s.ty.length (s.ty.map T.s)
def lQ(n:Nat)(i:Int):Bool:=decide (0≤i∧i<(n:Int))
def U5:Int:=1099511627776
def TO(p:Option (List Nat))(x:List Nat):Bool:=match p with|some q=>lessN q x|none=>true
def nQ:Option (List Nat)→List (List Nat)→Bool
 |_,[]=>true
 |p,x::r=>jG x&&(TO p x&&nQ (some x) r)
def Ed(n:Nat)(s:qJ):Bool:=lQ n s.ff&&(lQ n s.lf&&(kS s.lg 0 6&&(kS s.hd 0 6&&(kS (s.lg+s.hd) 1 6&&(kS s.bl 0 U5&&(kS s.lo 0 U5&&(kS s.so 0 U5&&nQ none s.ty)))))))
def jW(f:Fl)(k:Int×Bool)(s:qJ):qJ:=
 if k.2 then{s with lf:=k.1,lh:=true,hd:=s.hd+1}else{s with lf:=k.1,lh:=false,lg:=s.lg+1,bl:=s.bl+(f.ar-f.dp),ty:=insS f.ty s.ty}
def ta(k:Int×Bool):qJ:=⟨k.1,k.2,0,false,0,0,0,0,1440,[]⟩
def oH(f g:Fl)(k:Int×Bool)(s:qJ):qJ:=jW g k {s with lo:=max s.lo (g.dp-f.ar),so:=min s.so (g.dp-f.ar)}
theorem KS: ∀(l:List (List Nat)) (p:Option (List Nat)),nQ p l=true→ascN l=true
 | [],_,_=>rfl
 | [x],_,_=>rfl
 |x::y::r,p,h=>by
  rw[nQ]at h
  simp only[Bool.and_eq_true]at h
  have h2:=h.2.2
  have ih:=KS (y::r) (some x) h2
  rw[nQ]at h2
  simp only[Bool.and_eq_true]at h2
  have h3:lessN x y=true:=h2.2.1
  grind [ascN]
theorem CT(s:List Nat)(hs:jG s=true): ∀(l:List (List Nat)) (p:Option (List Nat)),TO p s=true→nQ p l=true→nQ p (insS s l)=true
 | [],p,hp,_=>by
   rw[insS,nQ,hs,hp];rfl
 |x::r,p,hp,h=>by
  have D:=h
  rw[nQ]at h
  simp only[Bool.and_eq_true]at h
  rw[insS]
  by_cases h1:lessN x s=true
  ·rw[if_pos h1,nQ,h.1,CT s hs r (some x) h1 h.2.2]
   rw[h.2.1];rfl
  ·rw[if_neg h1]
   by_cases h2:x=s
   ·rw[if_pos h2];exact D
   ·rw[if_neg h2]
    have h3:lessN s x=true:=by
     cases hc:lessN s x with
     |true=>rfl
     |false=>exact absurd (wO x s (by simpa using h1) hc) h2
    rw[nQ,hs,nQ,h.1,h.2.2,hp,TO,h3];rfl
theorem KT(s:List Nat): ∀l,(insS s l).length≤l.length+1
 | []=>by simp[insS]
 |x::r=>by
  rw[insS]
  have:=KT s r
  grind
theorem Hk{n a b:Int}:kS n a b=true↔a≤n∧n≤b:=by
 grind [kS]
theorem my{n:Nat}{s:qJ}:Ed n s=true↔lQ n s.ff=true∧lQ n s.lf=true∧(0≤s.lg∧s.lg≤6)∧(0≤s.hd∧s.hd≤6)∧(1≤s.lg+s.hd∧s.lg+s.hd≤6)∧(0≤s.bl∧s.bl≤U5)∧(0≤s.lo∧s.lo≤U5)∧(0≤s.so∧s.so≤U5)∧nQ none s.ty=true:=by
 unfold Ed
 simp only[Bool.and_eq_true,Hk]
def oI(f:Fl):Prop:=jG f.ty=true∧2880≤f.dp∧f.ar≤52593120∧f.dp<f.ar∧f.ar-f.dp≤1440
def aph{r:List (List Nat)}{f:Fl}(h:Ec r f=0):oI f:=by
 unfold Ec at h
 split at h
 ·cases h
 split at h
 ·cases h
 split at h
 ·cases h
 split at h
 ·cases h
 split at h
 ·cases h
 split at h
 ·cases h
 rename_i a b c d e g
 have g:KU f=true:=by simpa using g
 unfold KU at g
 simp only[Bool.and_eq_true,decide_eq_true_eq]at g
 exact⟨by simpa using b,g⟩
theorem aaH(D:List (List Nat)): ∀(l:List Fl) (p:Option Fl),DK D p l=0→ ∀f∈l,oI f
 | [],_,_,f,hf=>by cases hf
 |g::r,p,h,f,hf=>by
  unfold DK at h
  by_cases a:Ec D g=0
  ·rw[if_neg (by simp[a])]at h
   rcases List.mem_cons.1 hf with rfl|hf
   ·exact aph a
   ·have:DK D (some g) r=0:=by
     grind
    exact aaH D r _ this f hf
  ·grind
def fB(t:Tt)(h:np t=0):(∀f∈t.fl,oI f)∧t.fl.length≤200:=by
 unfold np at h
 split at h
 ·cases h
 split at h
 ·cases h
 split at h
 ·cases h
 split at h
 ·grind
 split at h
 ·rename_i q;exact absurd h q
 rename_i a b c d e
 exact⟨aaH _ _ _ h,by omega⟩
def CU(c:Ct)(h:eH c=0):0≤c.cn∧c.cn≤1440∧c.st≤1440∧(0≤c.rp∧c.rp≤1440)∧(0≤c.rl∧c.rl≤1440):=by
 unfold eH at h
 split at h
 ·grind
 rename_i g
 have g:gr c=0:=zV
 unfold gr at g
 split at g
 ·cases g
 simp_all[ln,Bool.and_eq_true,Hk]
def aaI{c:Ct}{f g:Fl}(hf:oI f)(r:oI g)(h:Ai c f g=true):f.to=g.fr∧c.cn≤g.dp-f.ar∧g.dp-f.ar≤c.st:=by
 obtain⟨_,D,F,H,I⟩:=hf
 obtain⟨_,J,K,N,O⟩:=r
 unfold Ai at h
 rw[aZ zV]at h
 grind
def agU(r:List Fl)(F: ∀f∈r,oI f)(k:Int×Bool)(i:Nat)(hi:i<r.length)(hk:k.1=i):Ed r.length (jW r[i] k (ta k))=true∧(jW r[i] k (ta k)).lg+(jW r[i] k (ta k)).hd=1∧(jW r[i] k (ta k)).bl≤1440∧(jW r[i] k (ta k)).lf=i:=by
 have hf:=F _ (List.getElem_mem hi)
 generalize r[i]=f at*
 obtain⟨H,K,N,O,U⟩:=hf
 have D:lQ r.length k.1=true:=by unfold lQ;exact decide_eq_true zV
 have I:=CT f.ty H [] none rfl rfl
 rw[my]
 obtain⟨V,J⟩:=k
 unfold jW ta U5
 have z: ∀a b n:Int,a≤n→n≤b→a≤n∧n≤b:=fun _ _ _=>And.intro
 cases J with
 |true=>exact⟨⟨D,D,z 0 6 0 zz zz,z 0 6 1 zz zz,z 1 6 1 zz zz,z 0 _ 0 zz zz,z 0 _ 0 zz zz,z 0 _ 1440 zz zz,rfl⟩,rfl,(by show(0:Int)≤1440;decide),hk⟩
 |false=>exact⟨⟨D,D,z 0 6 1 zz zz,z 0 6 0 zz zz,z 1 6 1 zz zz,(by show 0≤0+(f.ar-f.dp)∧0+(f.ar-f.dp)≤1099511627776;omega),z 0 _ 0 zz zz,z 0 _ 1440 zz zz,I⟩,rfl,(by show 0+(f.ar-f.dp)≤1440;omega),hk⟩
def agV(c:Ct)(hc:0≤c.cn∧c.st≤1440)(r:List Fl)(F: ∀f∈r,oI f)(k:Int×Bool)(s:qJ)(i j:Nat)(hi:i<r.length)(K:j<r.length)(hk:k.1=j)(hs:Ed r.length s=true)(N:Ai c r[i] r[j]=true)(h6:s.lg+s.hd<6)(UX:s.bl≤U5-1440):
  Ed r.length (oH r[i] r[j] k s)=true∧(oH r[i] r[j] k s).lg+(oH r[i] r[j] k s).hd=s.lg+s.hd+1∧(oH r[i] r[j] k s).bl≤s.bl+1440∧(oH r[i] r[j] k s).lf=j:=by
 have hf:=F _ (List.getElem_mem hi)
 have H:=F _ (List.getElem_mem K)
 have hr:=aaI hf H N
 generalize r[i]=f at*
 generalize r[j]=g at*
 obtain⟨Z,f1,f2,f3,f4⟩:=hf
 obtain⟨O,g1,g2,g3,g4⟩:=H
 have D:lQ r.length k.1=true:=by unfold lQ;exact decide_eq_true zV
 rw[my]at hs
 obtain⟨a1,a2,U,V,a5,W,a7,a8,a9⟩:=hs
 have X:=CT g.ty O s.ty none rfl a9
 rw[my]
 obtain⟨kf,Y⟩:=k
 unfold oH jW
 unfold U5 at*
 have I:0≤max s.lo (g.dp-f.ar)∧max s.lo (g.dp-f.ar)≤1099511627776:=zV
 have J:0≤min s.so (g.dp-f.ar)∧min s.so (g.dp-f.ar)≤1099511627776:=zV
 cases Y with
 |true=>exact⟨⟨a1,D,U,(by show 0≤s.hd+1∧s.hd+1≤6;omega),(by show 1≤s.lg+(s.hd+1)∧s.lg+(s.hd+1)≤6;omega),W,I,J,a9⟩,(by show s.lg+(s.hd+1)=_;omega),(by show s.bl≤_;omega),hk⟩
 |false=>exact⟨⟨a1,D,(by show 0≤s.lg+1∧s.lg+1≤6;omega),V,(by show 1≤s.lg+1+s.hd∧s.lg+1+s.hd≤6;omega),(by show 0≤s.bl+(g.ar-g.dp)∧s.bl+(g.ar-g.dp)≤1099511627776;omega),I,J,X⟩,(by show s.lg+1+s.hd=_;omega),(by show s.bl+(g.ar-g.dp)≤_;omega),hk⟩
def wP(l:List (List Nat))(k:Nat):Option (List Nat):=if k=0 then none else l[k-1]?
theorem TP{l:List (List Nat)}{k:Nat}(h0:0<k)(hk:k-1<l.length):wP l k=some l[k-1]:=by
 unfold wP;rw[if_neg zV,List.getElem?_eq_getElem hk]
theorem agW{l:List (List Nat)}{k:Nat}(hk:k<l.length):nQ (wP l k) (l.drop k)=(jG l[k]&&(TO (wP l k) l[k]&&nQ (wP l (k+1)) (l.drop (k+1)))):=by
 have e:wP l (k+1)=some l[k]:=by unfold wP;rw[if_neg zV,Nat.add_sub_cancel,List.getElem?_eq_getElem hk]
 rw[List.drop_eq_getElem_cons hk,e]
 rw[nQ]
def aaJ{L:List (List Nat)}{v:T}(h:IsSl v L.length (L.map T.s))(k:Nat)(hk:k<L.length): ∃r,∀kk,iaV v (.i kk (k:Int)) 1=some (.vp (.s L[k]::r)):=by
 refine⟨(L.map T.s).drop (k+1),fun kk=> ?_⟩
 rw[h.ia (sz:=1) yv hk,Nat.mul_one,List.drop_eq_getElem_cons (by simpa using hk),List.getElem_map]
theorem agX{p:Prop}[Decidable p]{α:Type}{s:α}:(some (T.b (decide p),s):Option (T×α))=if p then some (.b true,s)else some (.b false,s):=by by_cases h:p <;> simp[h]
def agY(zT aT fT:T)(r D:List T)(n:Nat)(hf:IsSl fT n D)(i:Int):ae pE 69 [.vp (zT::aT::fT::r),qi i] []=if 0≤i∧i<(n:Int)then some (.b true,[])else some (.b false,[]):=by
 rw[aaG zT aT fT r D n hf i,agX]
def aBX(l:List (List Nat))(a:T)(N:IsSl a l.length (l.map T.s))(hlen:l.length≤1000)(O:List T)(hc:O[9]? =some a)(fr:Fr)(lh:aE ah)(sh:List ah)
  (h3:aa fr 3= .ptr .L 3 1 0) (Fy:aa fr 73=a) (DH:aa fr 74= qi (l.length:Int)) (P9:aa fr 75= qi 0) (V:ab lh 3=⟨1,.cells O 0 true⟩):
  LpC pE 98 xJ fr lh sh 2 4 (nQ none l=true) (.b false) (fun J K=>J=lh∧K=sh):=by
 refine mn Vn (by simp[aU]) (fun k f J K=>aa f 75= qi (k:Int)∧J=lh∧K=sh∧nQ none l=nQ (wP l k) (l.drop k)) l.length ⟨P9,rfl,rfl,rfl⟩ ?_ ?_
 ·rintro k f _ _ hk r ⟨H,rfl,rfl,hr⟩
  have D:(k:Int)<l.length:=zV
  have U:=aF (k:=k) zV
  obtain⟨W,F⟩:=aaJ N k hk
  rw[agW hk]at hr
  have I:=cJ (wE l[k])
  by_cases h0:k=0
  ·have hz: ¬(0:Int)<k:=zV
   rw[show wP l k=none by rw[h0];rfl]at hr
   simp only[qB,seval,gd,xJ,r,Fy,DH,H,D,U,F,I,Sy,hz]
   clear r I
   grind [TO]
  ·have hz:(0:Int)<k:=zV
   have CV:=jw (k:=k) zV zV
   obtain⟨X,Hl⟩:=aaJ N (k-1) zV
   rw[TP zV zV]at hr
   cases hl:lessN l[k-1] l[k] <;> simp only[qB,seval,gd,xJ,r,h3,Fy,DH,H,V,hc,D,U,CV,F,Hl,I,Sy,hz,KV,hl] <;> clear r I <;> grind [TO]
 ·rintro f _ _ r ⟨H,rfl,rfl,hr⟩
  rw[List.drop_length,nQ]at hr
  simp only[qB,seval,gd,xJ,r,DH,H,Int.lt_irrefl,hr]
def Qd(zT aT fT:T)(r D:List T)(n:Nat)(hf:IsSl fT n D)(s:qJ)(a:T)(F:aH0 s a)(hlen:s.ty.length≤1000):ae pE 39 [.vp (zT::aT::fT::r),.agg (sZ s a)] []=some (.b (Ed n s),[]):=by
 have H:=agY zT aT fT r D n hf
 have hU: ∀st,DC pE 98 Bh st=DC pE 98 Bh st:=fun _=>rfl
 conv at hU=>enter [st,2];unfold Bh
 have hL:=aBX s.ty a F hlen (sZ s a) rfl
 rw[au axz (by simp[c39])]
 unfold Ed kS lQ U5
 unfold sZ at hL ⊢
 simp only[qB,seval,cX,repl,c39,H,axO,Nt Bh,hU,hL,F.lenI]
 clear H hU hL
 have I:0≤s.lg∧s.lg≤6∧0≤s.hd∧s.hd≤6→wr .i64 (s.lg+s.hd)=s.lg+s.hd:=fun h=>aZ zV
 generalize wr .i64 (s.lg+s.hd)=w at I ⊢
 cases nQ none s.ty
 all_goals repeat' (refine ifl (fun _=> ?_) (fun _=> ?_))
 all_goals refine congrArg (fun b=>some (T.b b,[])) ?_
 all_goals symm
 all_goals simp only[Bool.and_eq_true,Bool.and_eq_false_iff,decide_eq_true_eq,decide_eq_false_iff_not]
 all_goals grind
theorem itI{p:Prop}[Decidable p]{α:Type}{k:IntKind}{a b:Int}{s:α}:(if p then some (T.i k a,s)else some (T.i k b,s))=some (T.i k (if p then a else b),s):=by split <;> rfl
def TkR(k:Int×Bool)(c:List T):Prop:=c= [qi k.1,.b k.2]
theorem TkR.len(k:Int×Bool)(c:List T)(h:TkR k c):c.length=2:=by rw[h];rfl
def kK(d:List (Int×Bool))(v:T):Prop:= ∃r,IsSl v d.length r∧aD TkR d r
def iH{d:List (Int×Bool)}{v:T}(h:kK d v)(i:Nat)(hi:i<d.length): ∃r,∀kk,iaV v (.i kk (i:Int)) 2=some (.vp (qi d[i].1:: .b d[i].2::r)):=by
 obtain⟨D,h1,h2⟩:=h
 obtain⟨c,r,e,h⟩:=gI (k:=2) TkR.len h1 h2 i hi
 simp_all[TkR]
def nv(c:Ct)(r:List Fl)(i j:Int):Bool:=match r[i.toNat]?,r[j.toNat]? with
 |some f,some g=>Ai c f g
 |_,_=>false
theorem oJ(c:Ct)(r:List Fl){i j:Nat}(hi:i<r.length)(D:j<r.length):nv c r i j=Ai c r[i] r[j]:=by
 grind [nv]
def nR{n:Nat}{i:Int}(h:lQ n i=true): ∃k:Nat,k<n∧i=k:=by
 unfold lQ at h
 rw[decide_eq_true_eq]at h
 exact⟨i.toNat,by omega,by omega⟩
def kg(c:Ct)(D:List Fl):List (Int×Bool)→Bool
 |k::l::r=>nv c D k.1 l.1&&kg c D (l::r)
 |_=>true
def cL(c:Ct)(r:List Fl)(d:List (Int×Bool)):Int:=
 if(d.length:Int)<1 then 5 else if(6:Int)<d.length then 5 else if d.all (fun k=>lQ r.length k.1)=true then(if kg c r d=true then 0 else 14)else 6
theorem Hm(c:Ct)(r:List Fl){d:List (Int×Bool)}{k:Nat}(hk:k+1<d.length):kg c r (d.drop k)=(nv c r d[k].1 d[k+1].1&&kg c r (d.drop (k+1))):=by
 grind [List.drop_eq_getElem_cons,kg]
theorem Qe(c:Ct)(r:List Fl){d:List (Int×Bool)}{k:Nat}(hk:k+1=d.length):kg c r (d.drop k)=true:=by
 rw[List.drop_eq_getElem_cons (by omega:k<d.length),List.drop_eq_nil_of_le zV,kg]
 simp
theorem NN{α:Type}{p:α→Bool}{d:List α}{k:Nat}(hk:k<d.length):(d.drop k).all p=(p d[k]&&(d.drop (k+1)).all p):=by
 rw[List.drop_eq_getElem_cons hk,List.all_cons]
def stV(c:Ct)(zT aT fT a7 a8 a9 aw aA az:T)(vs:List T):T:= .vp (zT::aT::fT::(aO c a7 a8 a9 aw aA az++vs))
section
variable(t:Tt)(c:Ct)(zT aT fT a7 a8 a9 aw aA az:T)(vs:List T)(hT:jV t zT aT fT)
def aaK(hT:jV t zT aT fT){i j:Int}(hi:lQ t.fl.length i=true)(F:lQ t.fl.length j=true):ae pE 75 [stV c zT aT fT a7 a8 a9 aw aA az vs,qi i,qi j] []=some (.b (nv c t.fl i j),[]):=by
 obtain⟨i,r,rfl⟩:=nR hi
 obtain⟨j,D,rfl⟩:=nR F
 obtain⟨H,I,J⟩:=hT.f
 rw[oJ c t.fl r D]
 exact apg zT aT fT a7 a8 a9 aw aA az c vs H t.fl I J i j r D
end
section
variable(t:Tt)(c:Ct)(zT aT fT a7 a8 a9 aw aA az:T)(hT:jV t zT aT fT)(hC:kR c a7 a8 a9 aw aA az)
def KW(hT:jV t zT aT fT)(hC:kR c a7 a8 a9 aw aA az){i j:Int}(hi:lQ t.fl.length i=true)(J:lQ t.fl.length j=true):ae pE 68 [.agg [zT,aT,fT],.agg (aO c a7 a8 a9 aw aA az),qi i,qi j] []=some (.b (nv c t.fl i j),[]):=by
 obtain⟨i,D,rfl⟩:=nR hi
 obtain⟨j,F,rfl⟩:=nR J
 obtain⟨⟨X,Y,Z⟩,⟨ac,b1,b2⟩,⟨fc,H,I⟩⟩:=hT
 obtain⟨⟨y7,i7,j7⟩,⟨y8,i8,j8⟩,⟨y9,i9,j9⟩,⟨K,N,Ah⟩,⟨O,U,DJ⟩,⟨V,W,FA⟩⟩:=hC
 rw[oJ c t.fl D F]
 obtain⟨r,h1⟩:=nq H I i D
 obtain⟨r',h2⟩:=nq H I j F
 rw[au am7 (by simp[c68])]
 generalize t.fl[i]=f at*
 generalize t.fl[j]=g at*
 unfold aO Ai
 simp only[qB,seval,c68,h1,h2]
 by_cases e1:f.to=g.fr <;> by_cases e2:c.cn≤wr .i64 (g.dp-f.ar) <;> by_cases e3:wr .i64 (g.dp-f.ar)≤c.st <;> simp[e1,e2,e3]
theorem aH1(d:List (Int×Bool))(F:T)(H:kK d F)(hlen:d.length≤1000)(K:List T)(hf:IsSl fT t.fl.length K)(r:Bool)(hr:r=d.all fun k=>lQ t.fl.length k.1)(o:Out)(ho:o=if r=true then .ext 0 else .ret)(fr:Fr)(lh:aE ah)(sh:List ah)
  (h2:aa fr 2=F) (h3:aa fr 3= .ptr .L 3 1 0) (D:aa fr 7= qi 0) (N:ab lh 3=⟨1,.cells [zT,aT,fT] 0 true⟩):
  qz 61 mN fr lh sh o∧((r=false→aa (nM pE 61 mN fr lh sh) 6= qi 6)∧iL pE 61 mN fr lh sh=lh∧je pE 61 mN fr lh sh=sh):=by
 refine eG (fun k st=> ∃(fr:Fr),st=⟨fr,lh,sh⟩∧r=((d.drop k).all fun k=>lQ t.fl.length k.1)∧aa fr 2=F∧aa fr 3= .ptr .L 3 1 0∧aa fr 7= qi (k:Int)) (fun O aN U=>(r=false→aa O 6= qi 6)∧aN=lh∧U=sh) o d.length ?_ ?_ fr lh sh ⟨fr,rfl,hr,h2,h3,D⟩
 ·rintro k _ hk ⟨fr,rfl,hr,h2,h3,D⟩
  have I:(k:Int)<d.length:=zV
  have V:=aF (k:=k) zV
  obtain⟨W,J⟩:=iH H k hk
  rw[NN hk]at hr
  unfold lQ at hr
  generalize d[k]=y at*
  simp only[qB,seval,mN,h2,h3,D,N,H.choose_spec.1.lenI,hf.lenI,I,V,J]
  repeat' (refine uc (fun _=> ?_) (fun _=> ?_))
  all_goals first
   |(rw[decide_eq_false zV,Bool.false_and]at hr
     exact ue ⟨by rw[ho,hr];rfl,fun _=>yk,rfl,rfl⟩)
   |(rw[decide_eq_true zV,Bool.true_and]at hr
     exact cZ ⟨_,rfl,hr,by simp only[qA,seval,h2],by simp only[qA,seval,h3],by simp only[qA,seval]⟩)
 ·rintro _ ⟨fr,rfl,hr,h2,h3,D⟩
  rw[List.drop_length]at hr
  simp only[qA,seval,mN,h2,D,H.choose_spec.1.lenI,Int.lt_irrefl]
  exact fA ⟨by rw[ho,hr];rfl,fun h=>(by rw[hr]at h;cases h),rfl,rfl⟩
def aH2(hT:jV t zT aT fT)(hC:kR c a7 a8 a9 aw aA az)(d:List (Int×Bool))(I:T)(H:kK d I)(h1:1≤d.length)(hlen:d.length≤1000)(X: ∀k∈d,lQ t.fl.length k.1=true)(r:Bool)(hr:r=kg c t.fl d)(o:Out)(ho:o=if r=true then .ext 2 else .ret)(fr:Fr)(lh:aE ah)(sh:List ah)
  (h2:aa fr 2=I) (h3:aa fr 3= .ptr .L 3 1 0) (h4:aa fr 4= .ptr .L 4 1 0) (F:aa fr 8= qi 1) (Z:ab lh 3=⟨1,.cells [zT,aT,fT] 0 true⟩) (Y:ab lh 4=⟨1,.cells (aO c a7 a8 a9 aw aA az) 0 true⟩):
  qz 61 se fr lh sh o∧((r=false→aa (nM pE 61 se fr lh sh) 6= qi 14)∧je pE 61 se fr lh sh=sh):=by
 have J:=hT
 have K:=hC
 obtain⟨⟨zc,z1,z2⟩,⟨ac,b1,b2⟩,⟨fc,f1,f2⟩⟩:=J
 obtain⟨⟨y7,i7,j7⟩,⟨y8,i8,j8⟩,⟨y9,i9,j9⟩,⟨y10,N,Ah⟩,⟨y11,O,DJ⟩,⟨y12,U,FA⟩⟩:=K
 refine eG (fun k st=> ∃(fr:Fr),st=⟨fr,lh,sh⟩∧r=kg c t.fl (d.drop k)∧aa fr 2=I∧aa fr 3= .ptr .L 3 1 0∧aa fr 4= .ptr .L 4 1 0∧aa fr 8= qi ((k+1:Nat):Int)) (fun bL aN aR=>(r=false→aa bL 6= qi 14)∧aR=sh) o (d.length-1) ?_ ?_ fr lh sh ⟨fr,rfl,hr,h2,h3,h4,F⟩
 ·rintro k _ hk ⟨fr,rfl,hr,h2,h3,h4,F⟩
  have D:((k+1:Nat):Int)<d.length:=zV
  have hw:=aF (k:=k+1) zV
  have CV:wr .i64 (((k+1:Nat):Int)-1)=(k:Int):=by rw[aZ zV];omega
  obtain⟨rr,V⟩:=iH H k zV
  obtain⟨r2,Hl⟩:=iH H (k+1) zV
  rw[Hm c t.fl (by omega:k+1<d.length)]at hr
  have W:=KW t c zT aT fT a7 a8 a9 aw aA az hT hC (X _ (List.getElem_mem (by omega:k<d.length))) (X _ (List.getElem_mem (by omega:k+1<d.length)))
  unfold aO at W Y
  generalize d[k]=x at*
  generalize d[k+1]=y at*
  cases hv:nv c t.fl x.1 y.1 <;> rw[hv]at W hr <;> simp only[Bool.true_and,Bool.false_and]at hr
  all_goals simp only[qA,seval,bg,aH,se,h2,h3,h4,F,Z,Y,H.choose_spec.1.lenI,D,hw,CV,V,Hl,W,am8,aGh,z1.froz1,b1.froz1,f1.froz1,i7.froz1,i8.froz1,i9.froz1,N.froz1,O.froz1,U.froz1]
  all_goals first
   |exact ue ⟨by rw[ho,hr];rfl,fun _=>yk,rfl⟩
   |exact cZ ⟨_,rfl,hr,by simp only[qA,seval,h2],by simp only[qA,seval,h3],by simp only[qA,seval,h4],by simp only[qA,seval]⟩
 ·rintro _ ⟨fr,rfl,hr,h2,h3,h4,F⟩
  rw[Qe c t.fl zV]at hr
  have D: ¬((d.length-1+1:Nat):Int)<d.length:=zV
  simp only[qA,seval,se,h2,F,H.choose_spec.1.lenI,D]
  exact fA ⟨by rw[ho,hr];rfl,fun h=>(by rw[hr]at h;cases h),rfl⟩
def ag0(hT:jV t zT aT fT)(hC:kR c a7 a8 a9 aw aA az)(d:List (Int×Bool))(r:T)(D:kK d r)(hlen:d.length≤1000):ae pE 284 [.agg [zT,aT,fT],.agg (aO c a7 a8 a9 aw aA az),r] []=some (qi (cL c t.fl d),[]):=by
 have CW:=D.choose_spec.1.lenI
 have F:=hT
 have H:=hC
 obtain⟨⟨zc,z1,z2⟩,⟨ac,b1,b2⟩,⟨K,N,f2⟩⟩:=F
 obtain⟨⟨y7,i7,j7⟩,⟨y8,i8,j8⟩,⟨y9,i9,j9⟩,⟨O,U,Ah⟩,⟨V,W,DJ⟩,⟨X,Y,FA⟩⟩:=H
 have TQ:=fun fr lh sh h2 h3 Z I=>aH1 t zT aT fT d r D hlen K N _ rfl _ rfl fr lh sh h2 h3 Z I
 rw[au akK (by simp[MJ])]
 unfold cL
 cases J:d.all fun k=>lQ t.fl.length k.1 <;> rw[J]at TQ
 ·unfold aO
  simp only[qB,seval,MJ,TQ,CW,itI]
 ·by_cases h1:1≤d.length
  ·have KX:=fun fr lh sh h2 h3 h4 h8 I o4=>aH2 t c zT aT fT a7 a8 a9 aw aA az hT hC d r D h1 hlen (List.all_eq_true.1 J) _ rfl _ rfl fr lh sh h2 h3 h4 h8 I o4
   unfold aO at KX ⊢
   cases hc:kg c t.fl d <;> rw[hc]at KX
   all_goals simp only[qB,seval,MJ,Sq,KX,TQ,CW,itI]
  ·have sr:(d.length:Int)<1:=zV
   unfold aO
   simp only[qB,seval,MJ,CW,sr]
end
section
variable(c:Ct)(a7 a8 a9 aw aA az:T)(hT:kR c a7 a8 a9 aw aA az)(NO:ln c=false∨lD c=false)
include hT NO
def apj:ae pE 118 [.agg (aO c a7 a8 a9 aw aA az)] []=some (qi (gr c),[]):=by
 obtain⟨⟨c7,H,K⟩,⟨c8,I,N⟩,⟨c9,J,O⟩,⟨uF,r,Ah⟩,⟨IC,D,DJ⟩,⟨Mq,F,FA⟩⟩:=hT
 unfold aO
 rw[au O6 (by simp[MA])]
 unfold gr
 unfold ln lD at NO ⊢
 have w:=fun n lo hi=>cJ (nw n lo hi)
 simp(maxDischargeDepth:=6) only[qB,seval,MA,H.lenI,I.lenI,J.lenI,r.lenI,D.lenI,F.lenI,w,EU]
 clear w
 grind (splits:=40)
theorem CX:gr c≠0:=by
 have _:=hT
 unfold gr
 by_cases h:ln c=false
 ·rw[if_pos h];decide
 ·rw[if_neg h,if_pos (NO.resolve_left h)];decide
theorem KY:eH c=gr c:=by
 unfold eH;rw[if_pos (CX c a7 a8 a9 aw aA az hT NO)]
def Qf:ae pE 93 [.agg (aO c a7 a8 a9 aw aA az)] []=some (qi (eH c),[]):=by
 have r:=apj c a7 a8 a9 aw aA az hT NO
 have I:=CX c a7 a8 a9 aw aA az hT NO
 rw[KY c a7 a8 a9 aw aA az hT NO]
 obtain⟨⟨c7,J,O⟩,⟨c8,K,U⟩,⟨c9,N,V⟩,⟨uF,D,Ah⟩,⟨IC,F,DJ⟩,⟨Mq,H,FA⟩⟩:=hT
 unfold aO at r ⊢
 rw[au anj (by simp[c93])]
 generalize gr c=e at*
 simp only[qA,seval,c93,J.froz1,K.froz1,N.froz1,D.froz1,F.froz1,H.froz1,r,aiZ,I]
end
structure CY (c:Ct):Prop where
 n7:smC c.cs
 n8: ∀u∈c.ru,smE u.x
 n9: ∀u∈c.co,smE u.x
 n10: ∀x∈c.cr,smE x
 b7: ∃j,j≤2∧c.cs=kJ j
 b8: ∀u∈c.ru,(u.sc,u.x)∈oB
 b9: ∀u∈c.co,(u.sc,u.x)∈oB
 b10: ∀x∈c.cr,((1:Int),x)∈oB
def CY.sm{c:Ct}(h:CY c)(hs:lD c=true):rk c:=by
 unfold lD at hs
 simp only[Bool.and_eq_true,decide_eq_true_eq]at hs
 obtain⟨h1,h2,h3,h4,h5,h6⟩:=hs
 exact⟨⟨h.n7,iu zV⟩,⟨h.n8,iu zV⟩,⟨h.n9,iu zV⟩,⟨h.n10,iu zV⟩,iu zV,iu zV,h.b7,h.b8,h.b9,h.b10⟩
def ee(t:Tt)(c:Ct):Int:=if np t≠0 then np t else eH c
def NP(l:List Fl)(i:Int):Fl:=(l[i.toNat]?).getD ⟨[],[],[],0,0,[],0,0,0⟩
theorem apk{l:List Fl}{i:Nat}(h:i<l.length):NP l i=l[i]:=by
 unfold NP;rw[Int.toNat_natCast,List.getElem?_eq_getElem h];rfl
def pT(c:Ct)(zT aT fT a7 a8 a9 aw aA az:T)(vs:List T):froz (stV c zT aT fT a7 a8 a9 aw aA az vs)=true:=nr rfl
section
variable(t:Tt)(c:Ct)(zT aT fT a7 a8 a9 aw aA az:T)(hT:jV t zT aT fT)(hC:kR c a7 a8 a9 aw aA az)(hN:CY c)
def Aj(hT:jV t zT aT fT)(hC:kR c a7 a8 a9 aw aA az):(froz1 zT=true∧froz1 aT=true∧froz1 fT=true∧froz1 a7=true∧froz1 a8=true∧froz1 a9=true∧froz1 aw=true∧froz1 aA=true∧froz1 az=true)∧cellsOf zT= [zT]∧cellsOf aT= [aT]∧cellsOf fT= [fT]∧cellsOf a7= [a7]∧cellsOf a8= [a8]∧cellsOf a9= [a9]∧cellsOf aw= [aw]∧cellsOf aA= [aA]∧cellsOf az= [az]:=by
 obtain⟨⟨_,H,_⟩,⟨_,I,_⟩,⟨_,J,_⟩⟩:=hT
 obtain⟨⟨_,K,_⟩,⟨_,N,_⟩,⟨_,O,_⟩,⟨_,r,_⟩,⟨_,D,_⟩,⟨_,F,_⟩⟩:=hC
 exact⟨⟨H.froz1,I.froz1,J.froz1,K.froz1,N.froz1,O.froz1,r.froz1,D.froz1,F.froz1⟩,H.cells,I.cells,J.cells,K.cells,N.cells,O.cells,r.cells,D.cells,F.cells⟩
include hC hN
theorem ag1:ae pE 93 [.agg (aO c a7 a8 a9 aw aA az)] []=some (qi (eH c),[]):=by
 by_cases hr:ln c=false
 ·exact Qf c a7 a8 a9 aw aA az hC (.inl hr)
 ·by_cases hs:lD c=false
  ·exact Qf c a7 a8 a9 aw aA az hC (.inr hs)
  ·exact TR c a7 a8 a9 aw aA az hC (hN.sm (by simpa using hs))
omit hN in
theorem FB(h:eH c=0):lD c=true:=by
 cases hs:lD c with
 |true=>rfl
 |false=>
  exfalso
  rw[KY c a7 a8 a9 aw aA az hC (.inr hs)]at h
  exact CX c a7 a8 a9 aw aA az hC (.inr hs) h
include hT
def aaM(h:ee t c=0): ∃s vs,ae pE 35 [.agg [zT,aT,fT],.agg (aO c a7 a8 a9 aw aA az)] []=some (.tup [stV c zT aT fT a7 a8 a9 aw aA az vs,qi 0],s)∧Ea t c vs:=by
 unfold ee at h
 by_cases r:np t=0
 ·rw[if_neg (by simp[r])]at h
  obtain⟨s,vs,h1,_,_,h2⟩:=apf t c zT aT fT a7 a8 a9 aw aA az hT hC (hN.sm (FB c a7 a8 a9 aw aA az hC h)) r h
  exact⟨s,vs,h1,h2⟩
 ·rw[if_pos r]at h;exact absurd h r
def Qg(hL: ∀f∈t.fl,f.nu.length≤gJ):ae pE 52 [.agg [zT,aT,fT],.agg (aO c a7 a8 a9 aw aA az)] []=some (qi (ee t c),[]):=by
 have h1:=apl t zT aT fT hT hL
 have h2:=ag1 c a7 a8 a9 aw aA az hC hN
 obtain⟨⟨V,H,W⟩,⟨ac,I,X⟩,⟨Y,J,Z⟩⟩:=hT
 obtain⟨⟨_,K,_⟩,⟨_,N,_⟩,⟨_,O,_⟩,⟨_,r,_⟩,⟨_,D,_⟩,⟨_,F,_⟩⟩:=hC
 unfold ee
 rw[au axH (by simp[c52])]
 unfold aO at h2 ⊢
 by_cases U:np t=0
 all_goals simp only[qA,seval,c52,h1,h2,U,aGv,aGw,H.froz1,I.froz1,J.froz1,K.froz1,N.froz1,O.froz1,r.froz1,D.froz1,F.froz1]
def um(h:ee t c=0):np t=0∧eH c=0:=by
 have _:=hC;have _:=hN;have _:=hT
 unfold ee at h
 by_cases r:np t=0
 ·rw[if_neg (by simp[r])]at h;exact⟨r,h⟩
 ·rw[if_pos r]at h;exact absurd h r
def ag2(hL: ∀f∈t.fl,f.nu.length≤gJ)(d:List (Int×Bool))(r:T)(H:kK d r)(hlen:d.length≤1000):ae pE 254 [.agg [zT,aT,fT],.agg (aO c a7 a8 a9 aw aA az),r] []=some (qi (if ee t c≠0 then ee t c else cL c t.fl d),[]):=by
 have hz:=Aj t c zT aT fT a7 a8 a9 aw aA az hT hC
 have D:=Qg t c zT aT fT a7 a8 a9 aw aA az hT hC hN hL
 have I:=ag0 t c zT aT fT a7 a8 a9 aw aA az hT hC d r H hlen
 have F:=H.choose_spec.1.froz
 rw[au akx (by simp[WA])]
 unfold aO at*
 by_cases h:ee t c=0
 all_goals simp only[qA,seval,WA,D,Sw,I,azA,h,hz,F]
end
def aaN(a:Int):a.tdiv 1440=if a.tmod 1440<0 then a/1440+1 else a/1440:=by
 grind
def apm(a:Int):a.tmod 1440=if a.tmod 1440<0 then a%1440-1440 else a%1440:=by
 grind
def zS(a:Int):Prop:= -100000000≤a∧a≤100000000
def yF(a:Int)(D:zS a):ae pE 226 [qi a] []=some (.tup [qi (a/1440),qi (a%1440)],[]):=by
 obtain⟨h1,h2⟩:=D
 have e1:=aaN a
 have e2:=apm a
 rw[au ake (by simp[Si])]
 by_cases h:a.tmod 1440<0
 ·rw[if_pos h]at e1 e2
  rw[e2]at h
  have r:wr .i64 (a/1440+1)=a/1440+1:=aZ zV
  have F:wr .i64 (a/1440+1-1)=a/1440:=by rw[aZ zV];omega
  have H:wr .i64 (a%1440-1440+1440)=a%1440:=by rw[aZ zV];omega
  simp only[qA,seval,Si,e1,e2,r,h,F,H]
 ·rw[if_neg h]at e1 e2
  rw[e2]at h
  have r:wr .i64 (a/1440)=a/1440:=aZ zV
  simp only[qA,seval,Si,e1,e2,r,h]
def TS(a:Int)(D:zS a):ae pE 239 [qi a,qi 1440] []=some (qi (a/1440),[]):=by
 obtain⟨h1,h2⟩:=D
 have e1:=aaN a
 rw[au aks (by simp[Sk])]
 by_cases h:a.tmod 1440<0
 ·have H:=h
  rw[if_pos h]at e1
  have r:wr .i64 (a/1440+1)=a/1440+1:=aZ zV
  have F:wr .i64 (a/1440+1-1)=a/1440:=by rw[aZ zV];omega
  simp only[qA,seval,Sk,e1,r,h,F]
 ·rw[if_neg h]at e1
  have r:wr .i64 (a/1440)=a/1440:=aZ zV
  simp only[qA,seval,Sk,e1,r,h]
def yG(a:Int)(r:zS a):ae pE 172 [qi a] []=some (.tup [qi (a/1440),qi (a%1440)],[]):=by
 have hf:=TS a r
 obtain⟨h1,h2⟩:=r
 have D:wr .i64 (1440*(a/1440))=1440*(a/1440):=aZ zV
 have F:wr .i64 (a-1440*(a/1440))=a%1440:=by rw[aZ zV];omega
 rw[au ajI (by simp[V4])]
 simp only[qA,seval,V4,hf,azq,D,F]
def pU(o:Int):List (Int×Int)→Int→Int
 | [],_=>o
 |s::r,t=>if s.1≤t then pU s.2 r t else o
def Ak(o:Int):List (Int×Int)→Int→Int
 | [],_=>o
 |s::r,t=>Ak (if s.1≤t then s.2 else o) r t
def CZ{p:Option Int}{s:Int×Int}{r:List (Int×Int)}(h:Ee p (s::r)=0):oK s.1=true∧rm s.2=true∧(∀q,p=some q→q<s.1)∧Ee (some s.1) r=0:=by
 unfold Ee at h
 grind
theorem FC: ∀(l:List (Int×Int)) (p o t:Int),Ee (some p) l=0→t<p→Ak o l t=o
 | [],p,o,t,h,D=>rfl
 |s::r,p,o,t,h,D=>by
  obtain⟨_,_,h3,h4⟩:=CZ h
  have:=h3 p rfl
  rw[Ak,if_neg zV]
  exact FC r s.1 o t h4 zV
theorem aaO: ∀(l:List (Int×Int)) (p:Option Int) (o t:Int),Ee p l=0→Ak o l t=pU o l t
 | [],p,o,t,h=>rfl
 |s::r,p,o,t,h=>by
  obtain⟨_,_,_,h4⟩:=CZ h
  rw[Ak,pU]
  by_cases hs:s.1≤t
  ·rw[if_pos hs,if_pos hs];exact aaO r _ _ _ h4
  ·grind [FC]
theorem AJ: ∀{l:List (Int×Int)} {p:Option Int},Ee p l=0→ ∀s∈l,oK s.1=true∧rm s.2=true
 |a::r,p,h,s,hs=>by
  obtain⟨h1,h2,_,h4⟩:=CZ h
  rcases List.mem_cons.1 hs with rfl|hs
  ·grind
  ·exact AJ h4 s hs
theorem aaP: ∀{l:List (Int×Int)} {o t:Int},rm o=true→(∀s∈l,rm s.2=true)→rm (pU o l t)=true
 | [],o,t,h,_=>h
 |s::r,o,t,h,hl=>by
  rw[pU]
  split
  ·exact aaP (hl s yv) fun x hx=>hl x (by simp[hx])
  ·exact h
def Zo.off(z:Zo)(t:Int):Int:=pU z.o z.sh t
theorem iM{z:Zo}(h:ig z=0):rm z.o=true∧z.sh.length≤16∧Ee none z.sh=0:=by
 grind [ig]
def Zo.off_bd{z:Zo}(h:ig z=0)(t:Int): -840≤z.off t∧z.off t≤840:=by
 obtain⟨h1,_,h3⟩:=iM h
 have:=aaP (t:=t) h1 fun s hs=>(AJ h3 s hs).2
 grind [rm,Zo.off]
def mJ(z:Zo)(a:T):List T:= [.s z.nm,qi z.o,a]
def ZoT(z:Zo)(a:T):Prop:= ∃r,IsSl a z.sh.length r∧aD U6 z.sh r
section
variable(z:Zo)(a:T)(hz:ZoT z a)(hlen:z.sh.length≤16)
include hz hlen
def aH4(t:Int)(fr:Fr)(lh:aE ah)(sh:List ah)(h1:aa fr 1= qi t)(h5:aa fr 5= qi z.o)(F:aa fr 11=a)(D:aa fr 12= qi (z.sh.length:Int))(H:aa fr 13= qi 0):
  qz 25 r8 fr lh sh (.ext 0)∧
  (aa (nM pE 25 r8 fr lh sh) 5= qi (pU z.o z.sh t)∧je pE 25 r8 fr lh sh=sh):=by
 obtain⟨V,K,hc⟩:=hz
 refine eG (fun k st=> ∃(fr:Fr) (lh:aE ah) (o:Int),st=⟨fr,lh,sh⟩∧aa fr 1= qi t∧aa fr 5= qi o∧aa fr 11=a∧aa fr 12= qi (z.sh.length:Int)∧aa fr 13= qi (k:Int)∧pU o (z.sh.drop k) t=pU z.o z.sh t)
  (fun N aN O=>aa N 5= qi (pU z.o z.sh t)∧O=sh) _ z.sh.length ?_ ?_ fr lh sh ⟨fr,lh,z.o,rfl,h1,h5,F,D,H,rfl⟩
 ·rintro k _ hk ⟨fr,lh,o,rfl,h1,h5,F,D,H,ho⟩
  have I:(k:Int)<z.sh.length:=zV
  have U:=aF (k:=k) zV
  obtain⟨W,J⟩:=C0 K hc hk
  rw[List.drop_eq_getElem_cons hk,pU]at ho
  generalize z.sh[k]=s at*
  generalize pU z.o z.sh t=r at*
  simp only[qB,seval,r8,h1,F,D,H,I,J,U]
  refine uc (fun h=> ?_) (fun h=> ?_)
  ·rw[if_neg zV]at ho
   exact fA ⟨rfl,by simp only[qA,seval,h5,ho],rfl⟩
  ·rw[if_pos zV]at ho
   exact cZ ⟨_,_,s.2,rfl,by simp only[qA,seval,h1],by simp only[qA,seval],by simp only[qA,seval,F],by simp only[qA,seval,D],by simp only[qA,seval],ho⟩
 ·rintro _ ⟨fr,lh,o,rfl,h1,h5,F,D,H,ho⟩
  rw[List.drop_length,pU]at ho
  simp only[qA,seval,r8,D,H,Int.lt_irrefl]
  exact fA ⟨rfl,by simp only[qA,seval,h5,ho],rfl⟩
def TT(t:Int):ae pE 224 [.agg (mJ z a),qi t] []=some (qi (z.off t),[]):=by
 have hL:=fun fr lh sh h1 h5 r D F=>aH4 z a hz hlen t fr lh sh h1 h5 r D F
 obtain⟨I,H,hc⟩:=hz
 unfold Zo.off mJ
 rw[au akc (by simp[Wq])]
 simp only[qA,seval,Wq,H.lenI,hL]
def aH5(t:Int)(fr:Fr)(lh:aE ah)(sh:List ah)(h1:aa fr 1= qi t)(h2:aa fr 2= .ptr .L 2 1 0)(h5:aa fr 5= qi z.o)(h6:aa fr 6= qi 0)(D:ab lh 2=⟨1,.cells (mJ z a) 0 true⟩):
  qz 31 xY fr lh sh (.ext 0)∧
  (aa (nM pE 31 xY fr lh sh) 5= qi (Ak z.o z.sh t)∧je pE 31 xY fr lh sh=sh):=by
 obtain⟨O,F,hc⟩:=hz
 unfold mJ at D
 refine eG (fun k st=> ∃(fr:Fr) (o:Int),st=⟨fr,lh,sh⟩∧aa fr 1= qi t∧aa fr 2= .ptr .L 2 1 0∧aa fr 5= qi o∧aa fr 6= qi (k:Int)∧Ak o (z.sh.drop k) t=Ak z.o z.sh t)
  (fun J aN K=>aa J 5= qi (Ak z.o z.sh t)∧K=sh) _ z.sh.length ?_ ?_ fr lh sh ⟨fr,z.o,rfl,h1,h2,h5,h6,rfl⟩
 ·rintro k _ hk ⟨fr,o,rfl,h1,h2,h5,h6,ho⟩
  have H:(k:Int)<z.sh.length:=zV
  have N:=aF (k:=k) zV
  obtain⟨U,I⟩:=C0 F hc hk
  rw[List.drop_eq_getElem_cons hk,Ak]at ho
  generalize z.sh[k]=s at*
  generalize Ak z.o z.sh t=r at*
  simp only[qB,seval,xY,h1,h2,h6,D,F.lenI,H,I,N]
  refine uc (fun h=> ?_) (fun h=> ?_)
  ·rw[if_pos h]at ho
   exact cZ ⟨_,s.2,rfl,by simp only[qA,seval,h1],by simp only[qA,seval,h2],by simp only[qA,seval],by simp only[qA,seval],ho⟩
  ·rw[if_neg h]at ho
   exact cZ ⟨_,o,rfl,by simp only[qA,seval,h1],by simp only[qA,seval,h2],by simp only[qA,seval,h5],by simp only[qA,seval],ho⟩
 ·rintro _ ⟨fr,o,rfl,h1,h2,h5,h6,ho⟩
  rw[List.drop_length,Ak]at ho
  simp only[qA,seval,xY,h2,h6,D,F.lenI,Int.lt_irrefl]
  exact fA ⟨rfl,by simp only[qA,seval,h5,ho],rfl⟩
def pV(hv:ig z=0)(t:Int):ae pE 99 [.agg (mJ z a),qi t] []=some (qi (z.off t),[]):=by
 have hL:=fun fr lh sh h1 h2 h5 h6 r=>aH5 z a hz hlen t fr lh sh h1 h2 h5 h6 r
 obtain⟨D,F,hc⟩:=hz
 rw[aaO _ _ _ _ (iM hv).2.2]at hL
 unfold Zo.off
 unfold mJ at hL ⊢
 rw[au anl (by simp[c99])]
 simp only[qA,seval,c99,hL]
end
section
variable(z:Zo)(a:T)(hz:ZoT z a)(hv:ig z=0)
include hz hv
def uo(t:Int)(D:oK t=true):ae pE 141 [.agg (mJ z a),qi t] []=some (.tup [qi (z.off t),qi 0],[]):=by
 have h1:=TT z a hz (iM hv).2.1 t
 obtain⟨F,r,hc⟩:=hz
 have h2:=C1 z a F r hc
 have h3:=Qh t
 rw[hv]at h2
 rw[D]at h3
 unfold mJ at h1 ⊢
 rw[au ajo (by simp[VO])]
 simp only[qA,seval,VO,h1,h2,h3,r.froz1,azi,O7,Xz]
def TU(t:Int)(D:oK t=true):ae pE 272 [.agg (mJ z a),qi t] []=some (.tup [qi (z.off t),qi 0],[]):=by
 have h1:=pV z a hz (iM hv).2.1 hv t
 obtain⟨F,r,hc⟩:=hz
 have h2:=C2 z a F r hc
 have h3:=Qi t
 rw[hv]at h2
 rw[D]at h3
 unfold mJ at h1 ⊢
 rw[au akJ (by simp[WJ])]
 simp only[qA,seval,WJ,h1,h2,h3,r.froz1,WV,Xe,XG]
def NQ(t:Int)(r:oK t=true):wr .i64 (t+z.off t)=t+z.off t∧zS (t+z.off t):=by
 have _:=hz
 have h1:=Zo.off_bd hv t
 unfold oK at r
 simp only[Bool.and_eq_true,decide_eq_true_eq]at r
 exact⟨aZ zV,by unfold zS;omega⟩
def Zo.day(z:Zo)(t:Int):Int:=(t+z.off t)/1440
def Zo.clk(z:Zo)(t:Int):Int:=(t+z.off t)%1440
def KZ(t:Int)(r:oK t=true):ae pE 142 [.agg (mJ z a),qi t] []=some (.tup [qi (z.day t),qi (z.clk t),qi 0],[]):=by
 have h1:=uo z a hz hv t r
 obtain⟨w,n⟩:=NQ z a hz hv t r
 have h2:=yF _ n
 obtain⟨F,D,hc⟩:=hz
 have h3:ae pE 225 [.agg (mJ z a),qi t] []=some (.tup [qi (t+z.off t),qi 0],[]):=by
  unfold mJ at h1 ⊢
  rw[au akd (by simp[Wr])]
  simp only[qA,seval,Wr,h1,w,D.froz1,W6]
 unfold Zo.day Zo.clk
 generalize t+z.off t=m at*
 unfold mJ at h3 ⊢
 rw[au ajp (by simp[VP])]
 simp only[qA,seval,VP,h3,h2,D.froz1,azj,akf]
def aaQ(t:Int)(r:oK t=true):ae pE 174 [.agg (mJ z a),qi t] []=some (.tup [qi (z.day t),qi (z.clk t),qi 0],[]):=by
 have h1:=TU z a hz hv t r
 obtain⟨w,n⟩:=NQ z a hz hv t r
 have h2:=yG _ n
 obtain⟨F,D,hc⟩:=hz
 have h3:ae pE 240 [.agg (mJ z a),qi t] []=some (.tup [qi (t+z.off t),qi 0],[]):=by
  unfold mJ at h1 ⊢
  rw[au akt (by simp[Wy])]
  simp only[qA,seval,Wy,h1,w,D.froz1,azz]
 unfold Zo.day Zo.clk
 generalize t+z.off t=m at*
 unfold mJ at h3 ⊢
 rw[au ajJ (by simp[V5])]
 simp only[qA,seval,V5,h3,h2,D.froz1,azr,Pd]
end
def kM(f:Int→Bool)(a:Int):Nat→Int
 |0=>0
 |n+1=>kM f a n+if f (a+n)=true then 1 else 0
theorem K0(f:Int→Bool)(a:Int)(m:Nat): ∀n,kM f a (m+n)=kM f a m+kM f (a+m) n
 |0=>by simp[kM]
 |n+1=>by
  rw[←Nat.add_assoc,kM,kM,K0 f a m n,show a+((m+n:Nat):Int)=a+m+n by omega]
  omega
theorem C3{f g:Int→Bool}{a:Int}: ∀{n:Nat},(∀t,a≤t→t<a+n→f t=g t)→kM f a n=kM g a n
 |0,_=>rfl
 |n+1,h=>by rw[kM,kM,C3 fun t h1 h2=>h t h1 zV,h (a+n) zV zV]
theorem AK(f:Int→Bool)(a:Int): ∀n,0≤kM f a n∧kM f a n≤n
 |0=>by simp[kM]
 |n+1=>by have:=AK f a n;rw[kM];split <;> omega
def rq(f:Int→Bool)(a b:Int):Int:=kM f a (b-a).toNat
theorem aaR(f:Int→Bool){a m b:Int}(h1:a≤m)(h2:m≤b):rq f a b=rq f a m+rq f m b:=by
 unfold rq
 have:=K0 f a (m-a).toNat (b-m).toNat
 grind
theorem sI(f:Int→Bool){a b:Int}(h:b≤a):rq f a b=0:=by
 unfold rq;rw[show(b-a).toNat=0 by omega];rfl
theorem uq{f g:Int→Bool}{a b:Int}(h: ∀t,a≤t→t<b→f t=g t):rq f a b=rq g a b:=by
 grind [rq,C3]
def NR(c len p q d:Int):Int:=if max (1440*d+c) p<min (1440*d+c+len) q then min (1440*d+c+len) q-max (1440*d+c) p else 0
def rv(c len p q lo:Int):Nat→Int
 |0=>0
 |n+1=>rv c len p q lo n+NR c len p q (lo+n)
theorem TV{c len p q d:Int}(h1:1≤len)(hp:p≤q):NR c len p (q+1) d=NR c len p q d+if 1440*d+c≤q∧q<1440*d+c+len then 1 else 0:=by
 grind [NR]
theorem FD{c len p q lo:Int}(h1:1≤len)(h2:len<1440)(hp:p≤q): ∀n:Nat,rv c len p (q+1) lo n=rv c len p q lo n+if lo≤(q-c)/1440∧(q-c)/1440<lo+n∧(q-c)%1440<len then 1 else 0
 |0=>by grind [rv]
 |n+1=>by
  rw[rv,rv,FD h1 h2 hp n,TV h1 hp]
  grind
theorem FE{c len p:Int}(lo:Int): ∀n:Nat,rv c len p p lo n=0
 |0=>rfl
 |n+1=>by
  rw[rv,FE lo n]
  grind [NR]
def cT(f t:Int):Int:=(t-f+1440)%1440
theorem K1{m f t:Int}(hf:0≤f∧f<1440)(r:0≤t∧t<1440):dD (m%1440) f t=decide ((m-f)%1440<cT f t):=by
 grind [dD,cT]
theorem K2{f t o p:Int}(hf:0≤f∧f<1440)(F:0≤t∧t<1440)(hl:cT f t≠0)(lo:Int)(n:Nat)(r:lo≤(p+o)/1440-1):
  ∀k:Nat,(p+k-1+o)/1440<lo+n→rv (f-o) (cT f t) p (p+k) lo n=kM (fun x=>dD ((x+o)%1440) f t) p k
 |0,_=>by rw[show p+((0:Nat):Int)=p by omega,FE];rfl
 |k+1,h=>by
  have D:1≤cT f t∧cT f t<1440:=by unfold cT at hl ⊢; omega
  have ih:=K2 hf F hl lo n r k zV
  rw[show p+((k+1:Nat):Int)=p+k+1 by omega,FD D.1 D.2 zV,ih,kM]
  grind [K1]
def wQ(a b o:Int):List (Int×Int×Int):=if a<b then [(a,b,o)]else []
def jx(S T fr o:Int):List (Int×Int)→List (Int×Int×Int)
 | []=>wQ (max fr S) (min 52596000 T) o
 |s::r=>wQ (max fr S) (min s.1 T) o++jx S T s.1 s.2 r
def ur(g:Int×Int→Bool)(l:List (Int×Int×Int)):Int:=(l.map fun x=>rq (fun t=>g (t,x.2.2)) x.1 x.2.1).sum
theorem aaS(g:Int×Int→Bool)(a b o:Int):ur g (wQ a b o)=rq (fun t=>g (t,o)) a b:=by
 grind [wQ,ur,sI]
theorem K3(g:Int×Int→Bool)(l r:List (Int×Int×Int)):ur g (l++r)=ur g l+ur g r:=by
 grind [ur]
theorem K4(g:Int×Int→Bool){S T:Int}(hT:T≤52596000): ∀(l:List (Int×Int)) (p:Option Int) (fr o:Int),Ee p l=0→(∀s∈l.head?,fr≤s.1)→ur g (jx S T fr o l)=rq (fun t=>g (t,pU o l t)) (max fr S) T
 | [],p,fr,o,h,F=>by
   rw[jx,aaS,Int.min_eq_right hT];rfl
 |s::r,p,fr,o,h,F=>by
  obtain⟨_,_,_,h4⟩:=CZ h
  have hs:=F s rfl
  have hr: ∀x∈r.head?,s.1≤x.1:=by
   intro x hx
   cases r with
   |nil=>cases hx
   |cons y r=>
    cases hx
    have:=(CZ h4).2.2.1 s.1 rfl
    omega
  rw[jx,K3,aaS,K4 g hT r _ s.1 s.2 h4 hr]
  have D: ∀t,s.1≤t→pU o (s::r) t=pU s.2 r t:=fun t H=>by rw[pU,if_pos H]
  have early: ∀t,t<s.1→pU o (s::r) t=o:=fun t H=>by rw[pU,if_neg zV]
  by_cases hc:max fr S≤s.1∧s.1≤T
  ·rw[aaR (m:=s.1) _ hc.1 hc.2,show min s.1 T=s.1 by omega,show max s.1 S=s.1 by omega]
   grind [uq]
  ·by_cases h2:s.1≤T
   ·rw[sI (a:=max fr S) (b:=min s.1 T) _ zV,show max s.1 S=max fr S by omega,Int.zero_add]
    exact uq fun t h1 _=>by rw[D t zV]
   ·rw[sI (a:=max s.1 S) (b:=T) _ zV,show min s.1 T=T by omega,Int.add_zero]
    exact uq fun t _ h1=>by rw[early t zV]
def Zo.bandM(z:Zo)(S T f t:Int):Int:=rq (fun x=>dD (z.clk x) f t) S T
def NS{z:Zo}(hv:ig z=0){S T f t:Int}(r:0≤S)(hT:T≤52596000):ur (fun x=>dD ((x.1+x.2)%1440) f t) (jx S T 0 z.o z.sh)=z.bandM S T f t:=by
 have h3:=(iM hv).2.2
 rw[K4 _ hT z.sh none 0 z.o h3,show max 0 S=S by omega]
 ·rfl
 ·intro s hs
  have:=(AJ h3 s (List.mem_of_mem_head? hs)).1
  grind [oK]
theorem nz{a b:Int}:(if b>a then b else a)=max a b:=by rw[Int.max_def];split <;> split <;> omega
theorem qo{a b:Int}:(if b<a then b else a)=min a b:=by rw[Int.min_def];split <;> split <;> omega
def de{lh:aE ah}{sh:List ah}{v:T}{k n sz bytes:Nat}{cs:List T}(h:aW lh v k sz n cs)(ps:List T)(r:ps.length=sz)(hr:(n+1)*bytes≤roomy)(ex:Bool):
  appW lh sh k sz bytes v (.sl ps 1 ex)=some (UZ lh sh k sz bytes v (.sl ps 1 ex),G6 lh sh k sz bytes v (.sl ps 1 ex))∧aW (G6 lh sh k sz bytes v (.sl ps 1 ex)) (UZ lh sh k sz bytes v (.sl ps 1 ex)) k sz (n+1) (cs++ps)∧ ∀j,j≠k→ab (G6 lh sh k sz bytes v (.sl ps 1 ex)) j=ab lh j:=
 aW.appW h (m:=0) (by rw[Cj,if_pos zV]) zV hr
def zU(l:List (Int×Int×Int)):List T:=l.flatMap fun x=> [qi x.1,qi x.2.1,qi x.2.2]
theorem Qj(a b:List (Int×Int×Int)):zU (a++b)=zU a++zU b:=by unfold zU;rw[List.flatMap_append]
theorem Qk(p q o:Int)(l:List (Int×Int×Int)):zU l++ [qi p,qi q,qi o]=zU (l++ [(p,q,o)]):=by rw[Qj];rfl
section
variable(z:Zo)(a:T)(hz:ZoT z a)(hlen:z.sh.length≤16)(A B:Int)
def pW(z:Zo)(A B r D:Int)(k:Nat):List (Int×Int×Int):=if k≤z.sh.length then jx A B r D (z.sh.drop k)else []
theorem TW{r D:Int}{k:Nat}(hk:k<z.sh.length):pW z A B r D k=wQ (max r A) (min z.sh[k].1 B) D++pW z A B z.sh[k].1 z.sh[k].2 (k+1):=by
 unfold pW
 rw[if_pos zV,if_pos zV,List.drop_eq_getElem_cons hk,jx]
theorem NT{r D:Int}:pW z A B r D z.sh.length=wQ (max r A) (min 52596000 B) D:=by
 unfold pW
 rw[if_pos zV,List.drop_length,jx]
theorem ry{r D:Int}:pW z A B r D (z.sh.length+1)= []:=by
 unfold pW
 rw[if_neg zV]
include hz hlen
def aH6(fr:Fr)(lh:aE ah)(sh:List ah)(h2:aa fr 2= .ptr .L 2 1 0)(h3:aa fr 3= .ptr .L 3 1 0)(h5:aa fr 5= .nilsl)(h6:aa fr 6= qi 0)(N:aa fr 7= qi z.o)(U:aa fr 8= qi 0)(F:ab lh 2=⟨1,.cells (mJ z a) 0 true⟩)(H:ab lh 3=⟨1,.cells [qi A,qi B] 0 true⟩):
  qz 63 mM fr lh sh (.ext 0)∧
  (aW (iL pE 63 mM fr lh sh) (aa (nM pE 63 mM fr lh sh) 5) 49 3 (jx A B 0 z.o z.sh).length (zU (jx A B 0 z.o z.sh))∧(jx A B 0 z.o z.sh).length≤17∧je pE 63 mM fr lh sh=sh):=by
 obtain⟨cc,X,hc⟩:=hz
 unfold mJ at F
 refine eG (fun k st=> ∃(fr:Fr) (lh:aE ah) (I J:Int) (L:List (Int×Int×Int)),st=⟨fr,lh,sh⟩∧aa fr 2= .ptr .L 2 1 0∧aa fr 3= .ptr .L 3 1 0∧aa fr 6= qi I∧aa fr 7= qi J∧aa fr 8= qi (k:Int)∧ab lh 2=⟨1,.cells [.s z.nm,qi z.o,a] 0 true⟩∧ab lh 3=⟨1,.cells [qi A,qi B] 0 true⟩∧aW lh (aa fr 5) 49 3 L.length (zU L)∧L.length≤k∧L++pW z A B I J k=jx A B 0 z.o z.sh)
  (fun bL aN aR=>aW aN (aa bL 5) 49 3 (jx A B 0 z.o z.sh).length (zU (jx A B 0 z.o z.sh))∧(jx A B 0 z.o z.sh).length≤17∧aR=sh) _ (z.sh.length+1) ?_ ?_ fr lh sh ⟨fr,lh,0,z.o,[],rfl,h2,h3,h6,N,U,F,H,by rw[h5];exact aW.nil,by simp,by simp[pW]⟩
 ·rintro k _ hk ⟨fr,lh,I,J,L,rfl,h2,h3,h6,N,U,F,H,K,hL,r⟩
  have O:(k:Int)≤z.sh.length:=zV
  have hw:=aF (k:=k) zV
  have D:=fun e:Int=>de (sh:=sh) K [qi (max I A),qi (min e B),qi J] rfl (bytes:=24) (by unfold roomy;omega) true
  generalize h5:aa fr 5=v5 at K D
  by_cases V:k<z.sh.length
  ·have Y:(k:Int)<z.sh.length:=zV
   obtain⟨rr,Z⟩:=C0 X hc V
   rw[TW z A B V]at r
   generalize z.sh[k]=s at*
   have D:=D s.1
   have W:=(D.2.2 2 zz).trans F
   have p3:=(D.2.2 3 zz).trans H
   simp only[qB,seval,repl,mM,h2,h3,h5,h6,N,U,F,H,X.lenI,O,Y,Z,hw,nz,qo,K.notS,D.1,W]
   refine uc (fun h=> ?_) (fun h=> ?_)
   ·rw[wQ,if_pos h]at r
    exact cZ ⟨_,_,s.1,s.2,L++ [(max I A,min s.1 B,J)],rfl,by simp only[qA,seval,h2],by simp only[qA,seval,h3],by simp only[qA,seval],by simp only[qA,seval],by simp only[qA,seval],W,p3,by simp only[qA,seval];rw[←Qk,List.length_append];exact D.2.1,by simp;omega,by rw[List.append_assoc];exact r⟩
   ·rw[wQ,if_neg h,List.nil_append]at r
    exact cZ ⟨_,_,s.1,s.2,L,rfl,by simp only[qA,seval,h2],by simp only[qA,seval,h3],by simp only[qA,seval],by simp only[qA,seval],by simp only[qA,seval],F,H,by simp only[qA,seval,h5];exact K,by omega,r⟩
  ·obtain rfl:k=z.sh.length:=zV
   rw[NT]at r
   have D:=D 52596000
   have W:=(D.2.2 2 zz).trans F
   have p3:=(D.2.2 3 zz).trans H
   simp only[qB,seval,repl,mM,h2,h3,h5,h6,N,U,F,H,X.lenI,Int.lt_irrefl,Int.le_refl,hw,nz,qo,K.notS,D.1,W]
   refine uc (fun h=> ?_) (fun h=> ?_)
   ·rw[wQ,if_pos h]at r
    exact cZ ⟨_,_,I,J,L++ [(max I A,min 52596000 B,J)],rfl,by simp only[qA,seval,h2],by simp only[qA,seval,h3],by simp only[qA,seval,h6],by simp only[qA,seval,N],by simp only[qA,seval],W,p3,by simp only[qA,seval];rw[←Qk,List.length_append];exact D.2.1,by simp;omega,by rw[ry,List.append_nil];exact r⟩
   ·rw[wQ,if_neg h,List.append_nil]at r
    exact cZ ⟨_,_,I,J,L,rfl,by simp only[qA,seval,h2],by simp only[qA,seval,h3],by simp only[qA,seval,h6],by simp only[qA,seval,N],by simp only[qA,seval],F,H,by simp only[qA,seval,h5];exact K,by omega,by rw[ry,List.append_nil];exact r⟩
 ·rintro _ ⟨fr,lh,I,J,L,rfl,h2,h3,h6,N,U,F,H,K,hL,r⟩
  rw[ry,List.append_nil]at r
  subst r
  have O: ¬((z.sh.length+1:Nat):Int)≤z.sh.length:=zV
  simp only[qA,seval,mM,h2,U,F,X.lenI,O]
  exact fA ⟨rfl,(by simp only[qA,seval];exact K),by omega,rfl⟩
def aaT(sp:T)(I:sp= .agg [qi A,qi B]):ae pE 265 [.agg (mJ z a),sp] []=some (bj (jx A B 0 z.o z.sh).length (zU (jx A B 0 z.o z.sh)),[]):=by
 subst I
 have hL:=fun fr lh sh h2 h3 h5 h6 r D F H=>aH6 z a hz hlen A B fr lh sh h2 h3 h5 h6 r D F H
 have J:=fun m keep fr lh sh h2 h3 h5 h6 r D F H=>aW.fzW (m:=m) (keep:=keep) (sh:=sh) (hL fr lh sh h2 h3 h5 h6 r D F H).2.1
 have U7:=fun keep fr lh sh h2 h3 h5 h6 r D F H=>aW.fzV (keep:=keep) (sh:=sh) (hL fr lh sh h2 h3 h5 h6 r D F H).2.1
 obtain⟨K,N,hc⟩:=hz
 unfold mJ at hL J U7 ⊢
 rw[au akF (by simp[WH])]
 simp only[qA,seval,WH,hL,U7,wD]
end
def ag4(c f t:Int):ae pE 173 [qi c,qi f,qi t] []=some (.b (dD c f t),[]):=by
 rw[au Xm (by simp[Gi])]
 unfold dD
 by_cases h1:f≤t
 ·by_cases h2:f≤c <;> by_cases h3:c<t <;> simp only[qA,seval,Gi,h1,h2,h3]
 ·by_cases h2:f≤c <;> by_cases h3:c<t <;> simp only[qA,seval,Gi,h1,h2,h3,or_true,or_false,or_self]
def SpB(A B f t:Int):Prop:=0≤A∧A≤B∧B≤52596000∧0≤f∧f<1440∧0≤t∧t<1440
section
variable(z:Zo)(a:T)(hz:ZoT z a)(hv:ig z=0)(A B f t:Int)(hs:SpB A B f t)
include hz hv hs
def ag5:ae pE 222 [.agg (mJ z a),.agg [qi A,qi B],qi f,qi t] []=some (qi 0,[]):=by
 obtain⟨D,s2,s3,F,H,I,J⟩:=hs
 obtain⟨K,r,hc⟩:=hz
 have h1:=C1 z a K r hc
 rw[hv]at h1
 have h2:ae pE 263 [.agg [qi A,qi B]] []=some (.b true,[]):=by
  rw[au akD (by simp[WE])]
  simp only[qA,seval,WE,D,s2,s3]
 have h3: ∀x:Int,0≤x→x<1440→ae pE 264 [qi x] []=some (.b true,[]):=by
  intro x x1 x2
  rw[au akE (by simp[WG])]
  simp only[qA,seval,WG,x1,x2]
 have h4:=h3 f F H
 have h5:=h3 t I J
 unfold mJ
 rw[au aka (by simp[Wp])]
 simp only[qA,seval,Wp,h1,h2,h4,h5,r.froz1,O7,azv,azw]
def aaU:ae pE 171 [.agg (mJ z a),.agg [qi A,qi B],qi f,qi t] []=some (qi 0,[]):=by
 obtain⟨D,s2,s3,N,O,U,V⟩:=hs
 obtain⟨F,r,hc⟩:=hz
 have h1:=C2 z a F r hc
 rw[hv]at h1
 have h2:ae pE 238 [.agg [qi A,qi B]] []=some (.b true,[]):=by
  rw[au akr (by simp[Wx])]
  simp only[qA,seval,Wx,D,s2,s3]
 have H: ¬f<0:=zV
 have I: ¬(1439:Int)<f:=zV
 have J: ¬t<0:=zV
 have K: ¬(1439:Int)<t:=zV
 unfold mJ
 rw[au ajH (by simp[V3])]
 simp only[qA,seval,V3,h1,h2,H,I,J,K,r.froz1,Xe,azp]
def aH7(fr:Fr)(lh:aE ah)(sh:List ah)(h2:aa fr 2= qi f)(h3:aa fr 3= qi t)(h4:aa fr 4= .ptr .L 4 1 0)(h5:aa fr 5= .ptr .L 5 1 0)(r:aa fr 11= qi 0)(D:aa fr 12= qi A)(I:ab lh 4=⟨1,.cells (mJ z a) 0 true⟩)(J:ab lh 5=⟨1,.cells [qi A,qi B] 0 true⟩):
  qz 47 tR fr lh sh (.ext 0)∧
  (aa (nM pE 47 tR fr lh sh) 11= qi (z.bandM A B f t)∧je pE 47 tR fr lh sh=sh):=by
 obtain⟨s1,s2,s3,f1,f2,t1,t2⟩:=hs
 have K:=fun x=>pV z a hz (iM hv).2.1 hv x
 have N:froz1 a=true:=by obtain⟨cc,W,_⟩:=hz;exact W.froz1
 unfold mJ at I K
 refine eG (fun k st=> ∃(fr:Fr) (lh:aE ah),st=⟨fr,lh,sh⟩∧aa fr 2= qi f∧aa fr 3= qi t∧aa fr 4= .ptr .L 4 1 0∧aa fr 5= .ptr .L 5 1 0∧aa fr 11= qi (kM (fun x=>dD (z.clk x) f t) A k)∧aa fr 12= qi (A+k)∧ab lh 4=⟨1,.cells [.s z.nm,qi z.o,a] 0 true⟩∧ab lh 5=⟨1,.cells [qi A,qi B] 0 true⟩)
  (fun X aN Y=>aa X 11= qi (z.bandM A B f t)∧Y=sh) _ (B-A).toNat ?_ ?_ fr lh sh ⟨fr,lh,rfl,h2,h3,h4,h5,r,by rw[D];simp,I,J⟩
 ·rintro k _ hk ⟨fr,lh,rfl,h2,h3,h4,h5,r,D,I,J⟩
  have F:A+k<B:=zV
  have hi:oK (A+k)=true:=by unfold oK;simp only[Bool.and_eq_true,decide_eq_true_eq];omega
  obtain⟨w,nr⟩:=NQ z a hz hv (A+k) hi
  have H:=yG _ nr
  have O:=ag4 (z.clk (A+k)) f t
  have sy:=AK (fun x=>dD (z.clk x) f t) A k
  have CV:wr .i64 (A+k+1)=A+((k+1:Nat):Int):=by rw[aZ zV];omega
  have U:wr .i64 (kM (fun x=>dD (z.clk x) f t) A k+1)=kM (fun x=>dD (z.clk x) f t) A k+1:=aZ zV
  have Z:kM (fun x=>dD (z.clk x) f t) A (k+1)=kM (fun x=>dD (z.clk x) f t) A k+if dD (z.clk (A+k)) f t=true then 1 else 0:=rfl
  have TX:=K (A+k)
  rw[show(A+k+z.off (A+k))%1440=z.clk (A+k)from rfl]at H
  generalize kM (fun x=>dD (z.clk x) f t) A k=q at*
  generalize z.clk (A+k)=cl at*
  generalize (A+k+z.off (A+k))/1440=dy at*
  generalize V:A+k+z.off (A+k)=m at*
  generalize A+(k:Int)=x at*
  have aOm:=H
  rw[Z]
  cases hb:dD cl f t <;> rw[hb]at O
  ·simp only[qA,seval,tR,h2,h3,h4,h5,r,D,I,J,F,TX,V,w,H,O,CV,N,WV,Pd,Xn]
   exact cZ ⟨_,_,rfl,by simp only[qA,seval,h2],by simp only[qA,seval,h3],by simp only[qA,seval,h4],by simp only[qA,seval,h5],by simp only[qA,seval,r,Int.add_zero],by simp only[qA,seval],by simp only[I],by simp only[J]⟩
  ·simp only[qA,seval,tR,h2,h3,h4,h5,r,D,I,J,F,TX,V,w,H,O,CV,U,N,WV,Pd,Xn]
   exact cZ ⟨_,_,rfl,by simp only[qA,seval,h2],by simp only[qA,seval,h3],by simp only[qA,seval,h4],by simp only[qA,seval,h5],by simp only[qA,seval],by simp only[qA,seval],by simp only[I],by simp only[J]⟩
 ·rintro _ ⟨fr,lh,rfl,h2,h3,h4,h5,r,D,I,J⟩
  have F: ¬A+(((B-A).toNat:Nat):Int)<B:=zV
  simp only[qA,seval,tR,h5,D,J,F]
  exact fA ⟨rfl,by simp only[qA,seval,r];rfl,rfl⟩
def apn:ae pE 98 [.agg (mJ z a),.agg [qi A,qi B],qi f,qi t] []=some (.tup [qi (z.bandM A B f t),qi 0],[]):=by
 have hL:=fun fr lh sh h2 h3 h4 h5 r D F H=>aH7 z a hz hv A B f t hs fr lh sh h2 h3 h4 h5 r D F H
 have h1:=aaU z a hz hv A B f t hs
 obtain⟨J,I,hc⟩:=hz
 unfold mJ at h1 hL ⊢
 rw[au aye (by simp[c98])]
 simp only[qA,seval,c98,h1,hL,I.froz1,ayU]
end
def Ms(l:List (Int×Int)):List T:=l.flatMap fun x=> [qi x.1,qi x.2]
theorem Ql(a b:List (Int×Int)):Ms (a++b)=Ms a++Ms b:=by grind [Ms]
theorem AL(l:List (Int×Int)):(Ms l).length=l.length*2:=iC (sz:=2) (fun _=>rfl) l
def gV(l:List (Int×Int)):Int:=(l.map fun x=>x.2-x.1).sum
theorem mz(a b:List (Int×Int)):gV (a++b)=gV a+gV b:=by grind [gV]
theorem mA(x:Int×Int):gV [x]=x.2-x.1:=by simp[gV]
def Al(lh:aE ah)(v:T)(R:List (Int×Int)):Prop:=
 (R= []∧v= .nilsl)∨ ∃R' x g,R=R'++ [x]∧v= .isl .L 109 g 0 (R'.length+1) 2∧ab lh 109=⟨g,.cells (Ms R'++ [qi x.1,qi x.2]) 0 false⟩
def wR(R:List (Int×Int)):Prop:= ∀x∈R,0≤x.1∧x.1≤x.2∧x.2≤52596000
def apo(R:List (Int×Int))(a b:T):(Ms R++ [a,b])[R.length*2+1]? =some b:=by
 grind [AL]
def NU(R:List (Int×Int))(a b c:T):splice (Ms R++ [a,b]) (R.length*2+1) [c]=Ms R++ [a,c]:=by
 have r: ∀(cs:List T),splice (cs++ [a,b]) (cs.length+1) [c]=cs++ [a,c]:=by
  intro cs
  induction cs with
  |nil=>rfl
  |cons x cs ih=>rw[List.cons_append,List.length_cons,splice,ih];rfl
 grind [AL]
def Qm(R:List (Int×Int))(a b:T):(Ms R++ [a,b]).length=R.length*2+2:=by rw[List.length_append,AL];rfl
theorem ag6{n:Nat}:((n+1)*2=n*2+2)=True:=by simp;omega
section
variable(f t o p q:Int)(hf:0≤f∧f<1440)(hl:1≤cT f t∧cT f t<1440)(ho: -840≤o∧o≤840)(hp:0≤p)(hq:p<q∧q≤52596000)
include hf hl ho hp hq
def aH8(R0:List (Int×Int))(hB0:wR R0)(IB:R0.length≤1000000)(lo:Int)(N:Nat)(hlo: -10≤lo)(hN:lo+N≤40000)(g:Nat)(fr:Fr)(lh:aE ah)(sh:List ah)(h2:aa fr 2= qi f)(r:aa fr 10= qi (cT f t))(D:Al lh (aa fr 11) R0)(I:aa fr 13= .ptr .L 13 g 0)(H:aa fr 16= qi (lo+N-1))(O:aa fr 18= qi lo)(TY:ab lh 13=⟨g,.cells [qi p,qi q,qi o] 0 true⟩):
  qz 113 gw fr lh sh (.ext 2)∧
  (∃R,Al (iL pE 113 gw fr lh sh) (aa (nM pE 113 gw fr lh sh) 11) R∧wR R∧gV R=gV R0+rv (f-o) (cT f t) p q lo N∧R.length≤R0.length+N∧je pE 113 gw fr lh sh=sh):=by
 refine eG (fun k st=> ∃(fr:Fr) (lh:aE ah) (R:List (Int×Int)),st=⟨fr,lh,sh⟩∧Al lh (aa fr 11) R∧wR R∧gV R=gV R0+rv (f-o) (cT f t) p q lo k∧R.length≤R0.length+k∧aa fr 2= qi f∧aa fr 10= qi (cT f t)∧aa fr 13= .ptr .L 13 g 0∧aa fr 16= qi (lo+N-1)∧aa fr 18= qi (lo+k)∧ab lh 13=⟨g,.cells [qi p,qi q,qi o] 0 true⟩)
  (fun bL aN aR=> ∃R,Al aN (aa bL 11) R∧wR R∧gV R=gV R0+rv (f-o) (cT f t) p q lo N∧R.length≤R0.length+N∧aR=sh) _ N ?_ ?_ fr lh sh ⟨fr,lh,R0,rfl,D,hB0,by simp[rv],by omega,h2,r,I,H,by rw[O];simp,TY⟩
 ·rintro k _ hk ⟨fr,lh,R,rfl,Y,V,hs,hlen,h2,r,I,H,O,TY⟩
  have F:lo+k≤lo+N-1:=zV
  have fF:rv (f-o) (cT f t) p q lo (k+1)=rv (f-o) (cT f t) p q lo k+NR (f-o) (cT f t) p q (lo+k):=rfl
  have Z:wr .i64 (lo+k+1)=lo+((k+1:Nat):Int):=by rw[aZ zV];omega
  have w2:wr .i64 ((lo+k)*1440)=1440*(lo+k):=by rw[aZ zV];omega
  have w3:wr .i64 (1440*(lo+k)+f)=1440*(lo+k)+f:=aZ zV
  have w4:wr .i64 (1440*(lo+k)+f-o)=1440*(lo+k)+(f-o):=by rw[aZ zV];omega
  have w5:wr .i64 (1440*(lo+k)+(f-o)+cT f t)=1440*(lo+k)+(f-o)+cT f t:=aZ zV
  rw[fF]
  unfold NR
  generalize cT f t=len at*
  generalize lo+(k:Int)=d at*
  generalize hS:1440*d+(f-o)=S at*
  have hA:0≤max S p:=zV
  have hE:min (S+len) q≤52596000:=zV
  generalize J:max S p=a at*
  generalize PA:min (S+len) q=e at*
  by_cases K:e≤a
  ·rw[if_neg zV,Int.add_zero]
   simp only[qA,seval,gw,h2,r,I,H,O,TY,F,Z,w2,w3,w4,w5,J,PA,nz,qo,K]
   exact cZ ⟨_,_,R,rfl,by simp only[qA,seval];exact Y,V,hs,by omega,by simp only[qA,seval,h2],by simp only[qA,seval,r],by simp only[qA,seval,I],by simp only[qA,seval,H],by simp only[qA,seval],TY⟩
  ·have aIa:a<e:=zV
   rw[if_pos aIa]
   have DI:(R.length+1)*16≤roomy:=by unfold roomy;omega
   rcases Y with⟨rfl,D⟩|⟨R',x,g',rfl,D,aBZ⟩
   ·have DI:16≤roomy:=by unfold roomy;omega
    simp only[qA,seval,appW,repl,gw,h2,r,D,I,H,O,TY,F,Z,w2,w3,w4,w5,J,PA,nz,qo,K,Int.lt_irrefl,DI]
    refine cZ ⟨_,_,[(a,e)],rfl,.inr ⟨[],(a,e),(ab lh 109).g+1,rfl,by simp only[qA,seval],by simp only[qA,seval];rfl⟩, ?_, ?_,by simp;omega,by simp only[qA,seval,h2],by simp only[qA,seval,r],by simp only[qA,seval,I],by simp only[qA,seval,H],by simp only[qA,seval],by simp only[qA,seval,TY]⟩
    ·intro y hy
     grind
    grind [mA,gV]
   ·rw[List.length_append]at DI hlen
    simp only[List.length_cons,List.length_nil,Nat.zero_add]at DI hlen
    have vP:(0:Int)<((R'.length+1:Nat):Int):=zV
    have W:wr .i64 (((R'.length+1:Nat):Int)-1)=(R'.length:Int):=by rw[aZ zV];omega
    have dk:=apo R' (qi x.1) (qi x.2)
    have gG:=Qm R' (qi x.1) (qi x.2)
    have X:=NU R' (qi x.1) (qi x.2) (qi e)
    have hx:=V x yv
    rw[mz,mA]at hs
    by_cases U:x.2=a
    ·rw[U]at dk gG X
     simp only[qA,seval,appW,repl,gw,h2,r,D,I,H,O,TY,aBZ,F,Z,w2,w3,w4,w5,J,PA,nz,qo,K,vP,W,dk,U,gG,X,Nat.lt_succ_self,Int.natCast_nonneg]
     refine cZ ⟨_,_,R'++ [(x.1,e)],rfl,.inr ⟨R',(x.1,e),g',rfl,by simp only[qA,seval,D],by simp only[qA,seval]⟩, ?_, ?_,by simp;omega,by simp only[qA,seval,h2],by simp only[qA,seval,r],by simp only[qA,seval,I],by simp only[qA,seval,H],by simp only[qA,seval],by simp only[qA,seval,TY]⟩
     ·intro y hy
      rcases List.mem_append.1 hy with hy|hy
      ·exact V y (by simp[hy])
      ·grind
     ·rw[mz,mA];simp only;omega
    ·simp only[qA,seval,appW,repl,gw,h2,r,D,I,H,O,TY,aBZ,F,Z,w2,w3,w4,w5,J,PA,nz,qo,K,vP,W,dk,U,gG,Nat.lt_succ_self,Int.natCast_nonneg,ag6,DI]
     refine cZ ?_
     refine⟨_,_,R'++ [x]++ [(a,e)],rfl,.inr ⟨R'++ [x],(a,e),g'+1,rfl,by simp only[qA,seval];simp,by simp only[qA,seval];rw[Ql];rfl⟩, ?_, ?_,by simp;omega,by simp only[qA,seval,h2],by simp only[qA,seval,r],by simp only[qA,seval,I],by simp only[qA,seval,H],by simp only[qA,seval],by simp only[qA,seval,TY]⟩
     ·intro y hy
      rcases List.mem_append.1 hy with hy|hy
      ·exact V y hy
      ·rw[List.mem_singleton.1 hy];exact⟨hA,by show a≤e;omega,hE⟩
     ·rw[mz,mz,mA,mA];simp only;omega
 ·rintro _ ⟨fr,lh,R,rfl,Y,V,hs,hlen,h2,r,I,H,O,TY⟩
  have F: ¬lo+(N:Int)≤lo+N-1:=zV
  simp only[qA,seval,gw,H,O,F]
  exact fA ⟨rfl,R,by simp only[qA,seval];exact Y,V,hs,hlen,rfl⟩
end
def aB2{f t o p q:Int}{fr:Fr}{lh:aE ah}{sh:List ah}{D:Option (Out×St)}(hf:0≤f∧f<1440)(hl:1≤cT f t∧cT f t<1440)(ho: -840≤o∧o≤840)(hp:0≤p)(hq:p<q∧q≤52596000)(R0:List (Int×Int))(r:wR R0)(IB:R0.length≤1000000)(lo:Int)(N:Nat)(F: -10≤lo)(hN:lo+N≤40000)(g:Nat)(K:DC pE 113 (.loop gw) ⟨fr,lh,sh⟩=D)(h2:aa fr 2= qi f)(H:aa fr 10= qi (cT f t))(I:Al lh (aa fr 11) R0)(O:aa fr 13= .ptr .L 13 g 0)(U:aa fr 16= qi (lo+N-1))(V:aa fr 18= qi lo)(TY:ab lh 13=⟨g,.cells [qi p,qi q,qi o] 0 true⟩):
  ∃J aN R,D=some (.ext 2,⟨J,aN,sh⟩)∧Al aN (aa J 11) R∧wR R∧gV R=gV R0+rv (f-o) (cT f t) p q lo N∧R.length≤R0.length+N∧ ∀s,(bO (.loop gw)).contains s=false→aa J s=aa fr s:=by
 obtain⟨e,R,W,X,Y,Z,r5⟩:=aH8 f t o p q hf hl ho hp hq R0 r IB lo N F hN g fr lh sh h2 H I O U V TY
 unfold qz at e;rw[r5]at e
 exact⟨_,_,R,K.symm.trans e,W,X,Y,Z,fun s hs=>fy e s hs⟩
def aaV(x:Int×Int×Int):Prop:=0≤x.1∧x.1<x.2.1∧x.2.1≤52596000∧ -840≤x.2.2∧x.2.2≤840
def Qn{a b o:Int}(r:0≤a)(D:b≤52596000)(ho: -840≤o∧o≤840): ∀x∈wQ a b o,aaV x:=by
 intro x hx
 unfold wQ at hx
 split at hx
 ·rw[List.mem_singleton.1 hx]
  exact⟨r,by assumption,D,ho⟩
 ·cases hx
def Qo{o:Int}(h:rm o=true): -840≤o∧o≤840:=by
 grind [rm]
theorem Qp{A B:Int}(D:0≤A)(F:B≤52596000): ∀(l:List (Int×Int)) (fr o:Int),(-840≤o∧o≤840)→(∀s∈l,rm s.2=true)→ ∀x∈jx A B fr o l,aaV x
 | [],fr,o,ho,hl,x,hx=>by
   rw[jx]at hx
   exact Qn zV zV ho x hx
 |s::r,fr,o,ho,hl,x,hx=>by
  rw[jx,List.mem_append]at hx
  rcases hx with hx|hx
  ·exact Qn zV zV ho x hx
  ·exact Qp D F r s.1 s.2 (Qo (hl s yv)) (fun y H=>hl y (by simp[H])) x hx
def ag7{f t:Int}(hf:0≤f∧f<1440)(r:0≤t∧t<1440)(hl:cT f t≠0){p q o:Int}(h:p<q):rv (f-o) (cT f t) p q ((p+o)/1440-1) ((q-1+o)/1440-((p+o)/1440-1)+1).toNat=rq (fun x=>dD ((x+o)%1440) f t) p q:=by
 have h1:=K2 (o:=o) (p:=p) hf r hl ((p+o)/1440-1) ((q-1+o)/1440-((p+o)/1440-1)+1).toNat (Int.le_refl _) (q-p).toNat (by
  rw[show p+((q-p).toNat:Int)=q by omega]
  omega)
 rw[show p+((q-p).toNat:Int)=q by omega]at h1
 rw[h1];rfl
def rl1{r k n:Nat}(h:r≤40000*k)(hk:k<n)(D:n≤17):r≤1000000:=zV
def rl2{r s N k:Nat}(h:s≤r+N)(h1:r≤40000*k)(h2:N≤40000):s≤40000*(k+1):=zV
def rl3{r n:Nat}(h:r≤40000*n)(D:n≤17):r≤1000000:=zV
def apq{p q o:Int}(h:aaV (p,q,o)): -2≤(p+o)/1440∧(q-1+o)/1440≤36527∧(p+o)/1440≤(q-1+o)/1440:=by
 obtain⟨h1,h2,h3,h4,h5⟩:=h
 grind
def aB3(L:List (Int×Int×Int))(j:Nat)(D:j<L.length): ∃r,∀kk,iaV (bj L.length (zU L)) (.i kk (j:Int)) 3=some (.vp (qi L[j].1:: qi L[j].2.1:: qi L[j].2.2::r)):=by
 have hs:IsSl (bj L.length (zU L)) L.length (zU L):=dX fun h=>by rw[List.length_eq_zero_iff.1 h];rfl
 have hlen:(zU L).length=L.length*3:=iC (sz:=3) (fun _=>rfl) L
 refine⟨zU (L.drop (j+1)),fun kk=> ?_⟩
 rw[hs.ia hlen D]
 have:zU L=zU (L.take j)++zU (L.drop j):=by rw[←Qj,List.take_append_drop]
 have UU:(zU (L.take j)).length=j*3:=by rw[show(zU (L.take j)).length=(L.take j).length*3 from iC (sz:=3) (fun _=>rfl) _,List.length_take,Nat.min_eq_left zV]
 rw[this,List.drop_append,UU,Nat.sub_self,List.drop_zero,List.drop_eq_nil_of_le zV,List.nil_append,List.drop_eq_getElem_cons D]
 rfl
section
variable(f t A B:Int)(hs:SpB A B f t)(hl:cT f t≠0)(L:List (Int×Int×Int))(hL: ∀x∈L,aaV x)(hLl:L.length≤17)
include hs hl hL hLl
def aIc(fr:Fr)(lh:aE ah)(sh:List ah)(h2:aa fr 2= qi f)(r:aa fr 10= qi (cT f t))(O:aa fr 11= .nilsl)(H:aa fr 32=bj L.length (zU L))(C4:aa fr 33= qi (L.length:Int))(Mt:aa fr 34= qi 0):
  qz 113 jY fr lh sh (.ext 0)∧
  (∃R,Al (iL pE 113 jY fr lh sh) (aa (nM pE 113 jY fr lh sh) 11) R∧wR R∧gV R=ur (fun x=>dD ((x.1+x.2)%1440) f t) L∧R.length≤1000000∧je pE 113 jY fr lh sh=sh):=by
 obtain⟨s1,s2,s3,f1,f2,t1,t2⟩:=hs
 have hb:1≤cT f t∧cT f t<1440:=by unfold cT at hl ⊢; omega
 refine eG (fun k st=> ∃(fr:Fr) (lh:aE ah) (R:List (Int×Int)),st=⟨fr,lh,sh⟩∧Al lh (aa fr 11) R∧wR R∧gV R=ur (fun x=>dD ((x.1+x.2)%1440) f t) (L.take k)∧R.length≤40000*k∧aa fr 2= qi f∧aa fr 10= qi (cT f t)∧aa fr 32=bj L.length (zU L)∧aa fr 33= qi (L.length:Int)∧aa fr 34= qi (k:Int))
  (fun F aN aR=> ∃R,Al aN (aa F 11) R∧wR R∧gV R=ur (fun x=>dD ((x.1+x.2)%1440) f t) L∧R.length≤1000000∧aR=sh) _ L.length ?_ ?_ fr lh sh ⟨fr,lh,[],rfl,.inl ⟨rfl,O⟩,(fun x hx=>by cases hx),rfl,by simp,h2,r,H,C4,Mt⟩
 ·rintro k _ hk ⟨fr,lh,R,rfl,U,V,K,hlen,h2,r,H,C4,Mt⟩
  have W:(k:Int)<L.length:=zV
  have hw:=aF (k:=k) zV
  obtain⟨rr,I⟩:=aB3 L k hk
  have hx:=hL _ (List.getElem_mem hk)
  have iK:ur (fun x=>dD ((x.1+x.2)%1440) f t) (L.take (k+1))=ur (fun x=>dD ((x.1+x.2)%1440) f t) (L.take k)+rq (fun x=>dD ((x+L[k].2.2)%1440) f t) L[k].1 L[k].2.1:=by
   rw[List.take_succ_eq_append_getElem hk,K3];simp[ur]
  rw[iK]
  generalize L[k]=x at*
  obtain⟨p,q,o⟩:=x
  obtain⟨b1,b2,b3⟩:=apq hx
  obtain⟨x1,x2,x3,x4⟩:=hx
  simp only at x1 x2 x3 x4 I ⊢
  have X:=ag7 (o:=o) ⟨f1,f2⟩ ⟨t1,t2⟩ hl x2
  have w1:wr .i64 (p+o)=p+o:=aZ zV
  have w2:wr .i64 (q-1)=q-1:=aZ zV
  have w3:wr .i64 (q-1+o)=q-1+o:=aZ zV
  have q1:=yF (p+o) (by unfold zS;omega)
  have q2:=yF (q-1+o) (by unfold zS;omega)
  generalize (p+o)/1440=d1 at*
  generalize (q-1+o)/1440=d2 at*
  have w4:wr .i64 (d1-1)=d1-1:=aZ zV
  have Y:d2=d1-1+((d2-(d1-1)+1).toNat:Int)-1:=zV
  have Z:d1-1+((d2-(d1-1)+1).toNat:Int)≤40000:=zV
  generalize (d2-(d1-1)+1).toNat=N at*
  have hN3:N≤40000:=zV
  generalize (p+o)%1440=e1 at*
  generalize (q-1+o)%1440=e2 at*
  simp only[qA,seval,jY,H,C4,Mt,W,I,w1,w2,w3,w4,q1,q2,akf]
  generalize hD:DC pE 113 (.loop gw) _=D
  obtain⟨F,aN,R',rfl,r1,r2,r3,r4,J⟩:=aB2 ⟨f1,f2⟩ hb ⟨x4.1,x4.2⟩ x1 ⟨x2,x3⟩ R V (rl1 hlen hk hLl) (d1-1) N zV Z ((ab lh 13).g+1) hD (by simp only[qA,seval,h2]) (by simp only[qA,seval,r]) (by
   rcases U with⟨e1,e2⟩|⟨R1,y,g',e1,e2,e3⟩
   ·exact .inl ⟨e1,by simp only[qA,seval,e2]⟩
   ·exact .inr ⟨R1,y,g',e1,by simp only[qA,seval,e2],by simp only[qA,seval,e3]⟩) yk (by simp only[qA,seval,←Y]) yk yk
  have g2:aa F 2= qi f:=by rw[J 2 zz];simp only[qA,seval,h2]
  have g10:aa F 10= qi (cT f t):=by rw[J 10 zz];simp only[qA,seval,r]
  have g32:aa F 32=bj L.length (zU L):=by rw[J 32 zz];simp only[qA,seval,H]
  have g33:aa F 33= qi (L.length:Int):=by rw[J 33 zz];simp only[qA,seval,C4]
  have g34:aa F 34= qi (k:Int):=by rw[J 34 zz];simp only[qA,seval,Mt]
  rw[X]at r3
  simp only[qA,seval,g34,hw]
  refine cZ ⟨_,_,R',rfl,by simp only[qA,seval];exact r1,r2,by rw[r3,K],rl2 r4 hlen hN3,by simp only[qA,seval,g2],by simp only[qA,seval,g10],by simp only[qA,seval,g32],by simp only[qA,seval,g33],by simp only[qA,seval]⟩
 ·rintro _ ⟨fr,lh,R,rfl,U,V,K,hlen,h2,r,H,C4,Mt⟩
  rw[List.take_length]at K
  simp only[qA,seval,jY,C4,Mt,Int.lt_irrefl]
  exact fA ⟨rfl,R,by simp only[qA,seval];exact U,V,K,rl3 hlen hLl,rfl⟩
end
end Go.Proofs.YtnkgnjecmfkcfaaGreat
