/- Walks of functions of the program and of the reference, and their plain laws, part 16. Conditions: the theorems' own. -/
import Derived.Test.YtcpceiclnbmgiaaGreatM15
import Derived.KernelRfl
set_option maxRecDepth 100000
set_option linter.unusedSimpArgs false
set_option linter.unusedVariables false
set_option maxHeartbeats 16000000
namespace Go.Proofs.YtcpceiclnbmgiaaGreat
open Go Go.Ev
theorem aiY{lh:gW b8}{sh:List b8}{k:Nat}{cs:List T}(F:gY sh k=⟨1,.cells cs 0 true⟩)(hc:cs.length=7)(D N:Nat):Ev.stV lh sh (.ptr .S k 1 0) (.agg (wT D N)) 7=some (lh,iu sh k ⟨1,.cells (wT D N) 0 true⟩):=by
 rw[nl (by rfl) F,kz,if_pos ⟨rfl,rfl,rfl,Nat.le_refl _,by omega⟩]
 refine congrArg (fun c=>some (lh,iu sh k ⟨1,.cells c 0 true⟩)) ?_
 match cs,hc with
 | [_,_,_,_,_,_,_],_=>rfl
theorem asR(n:Nat)(h:n≤1000)(sh:List b8):be pE 95 [.i .i64 (n:Int)] sh=some (.agg (wT sh.length n),sh++List.replicate 7 ⟨1,.cells (m8 n fun _=>0) 0 false⟩):=by
 rw[aiV n h sh,show repl [T.i .i64 0] n=m8 n fun _=>0 from ?_]
 ·rfl
 ·clear h
  induction n with
  |zero=>rfl
  |succ n ih=>
   rw[repl,ih]
   unfold m8
   rw[List.range_succ_eq_map,List.map_cons,List.map_map]
   rfl
theorem E7{E:Env}{n:Nat}{a:fx}{m:Nat}(F:mh (jU (.loop a))=m){fr:Fr}{lh:gW b8}{sh:List b8}{D:Option (Out×St)}(I:DC E n (.loop a) ⟨fr,lh,sh⟩=D){o:Out}{P:Fr→gW b8→List b8→Prop}(h:Lp E n a fr lh sh o P):
  ∃f l s,D=some (o,⟨f,l,s⟩)∧P f l s∧ ∀j,(m >>> j)%2=0→an f j=an fr j:=
 ⟨_,_,_,I.symm.trans h.1,h.2,fun j K=>FU (by rw[F];exact K)⟩
theorem Ga{a b:List b8}{k:Nat}(h:k<a.length):gY (a++b) k=gY a k:=by
 induction a generalizing k with
 |nil=>simp at h
 |cons x xs ih=>
  cases k with
  |zero=>rfl
  |succ k=>rw[List.cons_append,sq,sq,ih (by simpa using h)]
theorem Ay{a b:List b8}{k:Nat}:gY (a++b) (a.length+k)=gY b k:=by
 induction a with
 |nil=>rw[List.nil_append,List.length_nil,Nat.zero_add]
 |cons x xs ih=>rw[List.cons_append,List.length_cons,show xs.length+1+k=(xs.length+k)+1 by omega,sq,ih]
theorem KB{e:b8}: ∀{n i:Nat},i<n→gY (List.replicate n e) i=e
 |n+1,0,_=>rfl
 |n+1,i+1,h=>by rw[List.replicate_succ,sq,KB (by omega)]
def rnd(N H:Nat)(il:Nat→Bool)(nx:Nat→List Nat)(p:(Nat→Nat→Int)×Int):(Nat→Nat→Int)×Int:=Ax N H il nx p.1 (List.range (H+1)) (fun _ _=>0,p.2)
def MK(N H:Nat)(il:Nat→Bool)(nx:Nat→List Nat):Nat→(Nat→Nat→Int)×Int→(Nat→Nat→Int)×Int
 |0,p=>p
 |k+1,p=>MK N H il nx k (rnd N H il nx p)
structure Cr (sh:List b8) (N H:Nat) (lp:T) (rn:Nat) (now:Nat→Nat→Int) (t:Int):Prop where
 g0:gY sh 0=⟨1,.cells [.i .i64 (H:Int)] 0 true⟩
 g1:gY sh 1=⟨1,.cells [lp] 0 true⟩
 gB:gY sh 9=⟨1,.cells (wT rn N) 0 true⟩
 gT:gY sh 10=⟨1,.cells [.i .i64 t] 0 true⟩
 gR: ∀i,i<7→gY sh (rn+i)=⟨1,.cells (m8 N (now i)) 0 false⟩
 b:11≤sh.length∧rn+7≤sh.length∧(rn=2∨11≤rn)
section
variable(N H:Nat)(lp nT:T)(il:Nat→Bool)(nx:Nat→List Nat)(mj: ∀f,f<N→ ∃q,∀kk,lH lp (.i kk (f:Int)) 1=some (.vp (.b (il f)::q)))(qc: ∀f,f<N→ ∃gT q,(∀kk,lH nT (.i kk (f:Int)) 1=some (.vp (gT::q)))∧IsSl gT (nx f).length (ints ((nx f).map Int.ofNat))∧(nx f).length≤1000∧ ∀g∈nx f,g<N)(hH:H≤6)(hN:N≤1000)
include mj qc hH hN
theorem cd4(U:(Nat→Nat→Int)×Int)(fr:Fr)(lh:gW b8)(sh:List b8)(h5:an fr 5= .ptr .S 0 1 0)(h7:an fr 7= .i .i64 (N:Int))(h9:an fr 9=nT)(I:an fr 10= .ptr .S 9 1 0)(V:an fr 12= .fn 96 [] [.ptr .S 1 1 0,.ptr .S 10 1 0,.ptr .S 0 1 0])(Z:an fr 42= .i .i64 0)(hC:Cr sh N H lp 2 U.1 U.2):
  Lp pE 82 zI fr lh sh (.ext 2) fun f l s=>l=lh∧gY s 10=⟨1,.cells [.i .i64 (MK N H il nx 5 U).2] 0 true⟩:=by
 refine kK IK (fun k f l s=>an f 42= .i .i64 (k:Int)∧l=lh∧ ∃(p:(Nat→Nat→Int)×Int) (X:Nat),Cr s N H lp X p.1 p.2∧MK N H il nx (5-k) p=MK N H il nx 5 U) 5 ⟨Z,rfl,U,2,hC,rfl⟩ ?_ ?_
 ·rintro k f _ s hk K ⟨F,rfl,p,X,⟨g0,g1,gB,gT,gR,b1,b2,b3⟩,Y⟩
  have iP:(k:Int)<5:=by omega
  have hw:wr .i64 ((k:Int)+1)=((k+1:Nat):Int):=by rw[jj (by omega)];omega
  have F1:wr .i64 ((H:Int)+1)=((H+1:Nat):Int):=by rw[jj (by omega)];omega
  have e1:=asR N hN s
  generalize W:s.length=rb at*
  have C1:(s++List.replicate 7 (b8.mk 1 (.cells (m8 N fun _=>0) 0 false))).length=rb+7:=by rw[List.length_append,W,List.length_replicate]
  generalize vF:s++List.replicate 7 (b8.mk 1 (.cells (m8 N fun _=>0) 0 false))=s1 at*
  have ni: ∀lh,Ev.stV lh (iu s1 (rb+7) ⟨1,.cells [.nilsl,.nilsl,.nilsl,.nilsl,.nilsl,.nilsl,.nilsl] 0 true⟩) (.ptr .S (rb+7) 1 0) (.agg (wT rb N)) 7=some (lh,iu (iu s1 (rb+7) ⟨1,.cells [.nilsl,.nilsl,.nilsl,.nilsl,.nilsl,.nilsl,.nilsl] 0 true⟩) (rb+7) ⟨1,.cells (wT rb N) 0 true⟩):=fun lh=>aiY (by rw[kN,if_pos rfl]) rfl rb N
  have gs: ∀j,j≠rb+7→gY (iu (iu s1 (rb+7) ⟨1,.cells [.nilsl,.nilsl,.nilsl,.nilsl,.nilsl,.nilsl,.nilsl] 0 true⟩) (rb+7) ⟨1,.cells (wT rb N) 0 true⟩) j=gY s1 j:=fun j hj=>by rw[kN,if_neg hj,kN,if_neg hj]
  have gA:gY (iu (iu s1 (rb+7) ⟨1,.cells [.nilsl,.nilsl,.nilsl,.nilsl,.nilsl,.nilsl,.nilsl] 0 true⟩) (rb+7) ⟨1,.cells (wT rb N) 0 true⟩) (rb+7)=⟨1,.cells (wT rb N) 0 true⟩:=by rw[kN,if_pos rfl]
  have l2:(iu (iu s1 (rb+7) ⟨1,.cells [.nilsl,.nilsl,.nilsl,.nilsl,.nilsl,.nilsl,.nilsl] 0 true⟩) (rb+7) ⟨1,.cells (wT rb N) 0 true⟩).length=rb+8:=by
   rw[jz _ _ _ (by rw[←C1,qE,List.length_append];simp),←C1,qE,List.length_append,C1];rfl
  generalize iu (iu s1 (rb+7) ⟨1,.cells [.nilsl,.nilsl,.nilsl,.nilsl,.nilsl,.nilsl,.nilsl] 0 true⟩) (rb+7) ⟨1,.cells (wT rb N) 0 true⟩=s2 at*
  have O: ∀j,j<rb→gY s2 j=gY s j:=fun j hj=>by rw[gs j (by omega),←vF,Ga (by omega)]
  have gr: ∀i,i<7→gY s2 (rb+i)=⟨1,.cells (m8 N fun _=>0) 0 false⟩:=fun i hi=>by rw[gs _ (by omega),←vF,←W,Ay,KB hi]
  have k0:gY s2 0=⟨1,.cells [.i .i64 (H:Int)] 0 true⟩:=(O 0 (by omega)).trans g0
  simp(maxDischargeDepth:=6) only[qA,iY,seval,gd,ig,zI,K,h5,h7,h9,I,V,F,iP,e1,apw,C1,ni,hw,F1,k0]
  generalize hD:DC pE 82 (.loop zH) _=D
  obtain⟨f2,l2',s3,rfl,⟨rfl,hC3,hl3,pX⟩,oM⟩:=E7 IJ hD (cd3 N H rb (rb+7) 10 X 9 lp nT il nx mj qc hH hN ⟨by omega,by omega,by omega,by omega,by omega,by omega⟩ p.1 (fun _ _=>0) p.2 (fun h hh=>by omega) (by omega) _ _ _ (by simp only[qA,seval,K,h9]) (by simp only[qA,seval,K,I]) (by simp only[qA,seval,K,V]) (by simp only[qA,seval]) (by simp only[qA,seval]) (by simp only[qA,seval]) ((O 9 (by omega)).trans gB) (fun h hh=>(O _ (by omega)).trans (gR h hh)) ⟨k0,(O 1 (by omega)).trans g1,gA,(O 10 (by omega)).trans gT,gr,by omega,by omega⟩)
  have f14:an f2 14= .ptr .S (rb+7) 1 0:=by rw[oM 14 (by decide)];simp only[qA,seval]
  have f10:an f2 10= .ptr .S 9 1 0:=by rw[oM 10 (by decide)];simp only[qA,seval,K,I]
  have f42:an f2 42= .i .i64 (k:Int):=by rw[oM 42 (by decide)];simp only[qA,seval,F]
  obtain⟨c0,c1,cA,cT,cR,cb1,cb2⟩:=hC3
  have Dg: ∀lh,Ev.stV lh s3 (.ptr .S 9 1 0) (.agg (wT rb N)) 7=some (lh,iu s3 9 ⟨1,.cells (wT rb N) 0 true⟩):=fun lh=>aiY ((pX 9 (by omega) (by omega)).trans ((O 9 (by omega)).trans gB)) rfl rb N
  have r1:0+7≤(wT rb N).length:=Nat.le_refl _
  have r2:(wT rb N).take 7=wT rb N:=rfl
  rw[show 5-k=(4-k)+1 by omega,MK]at Y
  simp(maxDischargeDepth:=6) only[qA,iY,seval,gd,ig,f14,f10,f42,cA,r1,r2,Dg,hw]
  have l4:(iu s3 9 ⟨1,.cells (wT rb N) 0 true⟩).length=rb+8:=by rw[jz _ _ _ (by omega)];omega
  exact⟨_,rb,⟨by rw[kN,if_neg (by omega)];exact c0,by rw[kN,if_neg (by omega)];exact c1,by rw[kN,if_pos rfl],by rw[kN,if_neg (by omega)];exact cT,fun i hi=>by rw[kN,if_neg (by omega)];exact cR i hi,by omega,by omega,by omega⟩,Y⟩
 ·rintro f _ s K ⟨F,rfl,p,X,hC,Y⟩
  simp only[qA,seval,gd,zI,K,F,Int.lt_irrefl]
  exact Y▸hC.gT
end
def jn(c:Ct)(l:List Fl)(i j:Nat):Bool:=match l[i]?,l[j]? with
 |some x,some y=>WM c x y
 |_,_=>false
theorem afh{c:Ct}{l:List Fl}{i j:Nat}(hi:i<l.length)(D:j<l.length):jn c l i j=WM c l[i] l[j]:=by
 unfold jn;rw[List.getElem?_eq_getElem hi,List.getElem?_eq_getElem D]
def CS(D:List b8)(r:List Nat)(c:T)(s:List b8):Prop:=(r= []∧c= .nilsl∧s=D)∨(r≠ []∧ ∃g,c= .isl .S D.length g 0 r.length 1∧s=D++ [⟨g,.cells (ints (r.map Int.ofNat)) 0 false⟩])
theorem O5(J:Nat→Bool)(k:Nat):(List.range (k+1)).filter J=if J k then(List.range k).filter J++ [k]else(List.range k).filter J:=by
 rw[List.range_succ,List.filter_append]
 by_cases h:J k=true <;> simp[h]
theorem ML(J:Nat→Bool)(k:Nat):((List.range k).filter J).length≤k:=by
 have:=List.length_filter_le J (List.range k)
 rwa [List.length_range]at this
theorem RJ{a:List b8}{x e:b8}:iu (a++ [x]) a.length e=a++ [e]:=by
 induction a with
 |nil=>rfl
 |cons y D ih=>rw[List.cons_append,List.length_cons,sr,ih];rfl
section
variable(zT aT fT a7 a8 a9 gX hU gZ:T)(c:Ct)(rL fc:List T)(l:List Fl)(hf:IsSl fT l.length fc)(hr:hZ Rq l fc)(hN:l.length≤1000)
include hf hr hN
theorem pc1(i:Nat)(hi:i<l.length)(Qv:List T)(W:Qv.length=l.length)(X:Qv.drop i= .nilsl::Qv.drop (i+1))(F:List b8)(fr:Fr)(lh:gW b8)(Y:an fr 0= .vp (zT::aT::fT::(jE c a7 a8 a9 gX hU gZ++rL)))(Z:an fr 3= .isl .L 12 1 0 l.length 1)(h4:an fr 4= .i .i64 (i:Int))(Ij:an fr 19= .i .i64 (l.length:Int))(h20:an fr 20= .i .i64 0)(o12:b7 lh 12=⟨1,.cells Qv 0 true⟩):
  Lp pE 40 uf fr lh F (.ext 2) fun f K s=> ∃v,b7 K 12=⟨1,.cells (Qv.set i v) 0 true⟩∧CS F (p5 l.length (jn c l) i) v s:=by
 refine kK IN (fun k f K s=>an f 20= .i .i64 (k:Int)∧ ∃v,b7 K 12=⟨1,.cells (Qv.set i v) 0 true⟩∧CS F ((List.range k).filter fun j=>jn c l i j) v s) l.length ⟨h20,.nilsl,by
  rw[o12]
  refine congrArg (fun c=>b8.mk 1 (.cells c 0 true)) ?_
  refine List.ext_getElem (by simp) fun j h1 h2=> ?_
  rw[List.getElem_set]
  by_cases e:i=j
  ·subst e
   rw[if_pos rfl]
   have:=congrArg (fun l=>l[0]?) X
   simpa[h1]using this
  ·rw[if_neg e],.inl ⟨rfl,rfl,rfl⟩⟩ ?_ ?_
 ·rintro k f K s hk O ⟨D,v,o,U⟩
  have E8:i+1≤l.length:=hi
  have hg:(Qv.set i v)[i]? =some v:=by rw[List.getElem?_set_self (by omega)]
  have vV:(Qv.set i v).length=l.length:=by rw[List.length_set];exact W
  have I: ∀u,splice (Qv.set i v) i [u]=Qv.set i u:=fun u=>by rw[tC _ _ _ (by omega),List.set_set]
  have r8:8≤roomy:=by unfold roomy;omega
  have iP:(k:Int)<l.length:=by omega
  have hw:wr .i64 ((k:Int)+1)=((k+1:Nat):Int):=by rw[jj (by omega)];omega
  have V:=aim zT aT fT a7 a8 a9 gX hU gZ c rL fc l hf hr i k hi hk
  rw[←afh hi hk]at V
  rw[O5]
  have aFf:=ML (jn c l i) k
  generalize (List.range k).filter (fun j=>jn c l i j)=r at*
  by_cases hb:jn c l i k=true
  ·rcases U with⟨rfl,rfl,rfl⟩|⟨hr0,g,rfl,rfl⟩
   ·simp(maxDischargeDepth:=6) only[qA,iY,seval,gd,uf,O,Y,Z,h4,Ij,D,iP,hw,V,hb,agu,hi,E8,o,hg,vV,I,jH,iz,jk,jf,jC,repl,r8,qE]
    exact⟨_,rfl,.inr ⟨by simp,1,rfl,rfl⟩⟩
   ·have Ot:gY (F++ [(⟨g,.cells (ints (r.map Int.ofNat)) 0 false⟩:b8)]) F.length=⟨g,.cells (ints (r.map Int.ofNat)) 0 false⟩:=by
     have:=Ay (a:=F) (b:= [(⟨g,.cells (ints (r.map Int.ofNat)) 0 false⟩:b8)]) (k:=0)
     exact this
    have hse: ∀e,iu (F++ [(⟨g,.cells (ints (r.map Int.ofNat)) 0 false⟩:b8)]) F.length e=F++ [e]:=fun e=>RJ
    have C1:r.length*1=(ints (r.map Int.ofNat)).length:=by rw[kH,List.length_map,Nat.mul_one]
    have r9:(r.length+1)*8≤roomy:=by unfold roomy;omega
    simp(maxDischargeDepth:=6) only[qA,iY,seval,gd,uf,O,Y,Z,h4,Ij,D,iP,hw,V,hb,agu,hi,E8,o,hg,vV,I,jH,iz,jf,jD,iO,repl,Ot,hse,C1,r9]
    exact⟨_,rfl,.inr ⟨by simp,g+1,by simp,by simp[ints]⟩⟩
  ·simp(maxDischargeDepth:=6) only[qA,iY,seval,gd,uf,O,Y,Z,h4,Ij,D,iP,hw,V,hb,agu,hi,E8,o,hg,vV,I]
   exact⟨v,rfl,U⟩
 ·rintro f K s O ⟨D,v,o,U⟩
  simp only[qA,seval,gd,uf,O,Ij,D,Int.lt_irrefl]
  exact⟨v,o,U⟩
def CO(s:List b8)(v:T)(r:List Nat):Prop:=(r= []∧v= .nilsl)∨r≠ []∧ ∃k g,v= .isl .S k g 0 r.length 1∧k<s.length∧gY s k=⟨g,.cells (ints (r.map Int.ofNat)) 0 false⟩
omit hf hr hN in
theorem CO.mono{s:List b8}{v:T}{r:List Nat}(h:CO s v r)(x:List b8):CO (s++x) v r:=by
 rcases h with h|⟨D,k,g,F,I,K⟩
 ·exact .inl h
 ·exact .inr ⟨D,k,g,F,by rw[List.length_append];omega,by rw[Ga I];exact K⟩
def RK(s:List b8):List T→List (List Nat)→Prop
 | [],[]=>True
 |v::D,r::rs=>CO s v r∧RK s D rs
 |_,_=>False
omit hf hr hN in
theorem RK.mono{s:List b8}(x:List b8): ∀{D:List T} {rs:List (List Nat)},RK s D rs→RK (s++x) D rs
 | [],[],_=>trivial
 |_::_,_::_,h=>⟨h.1.mono x,h.2.mono x⟩
omit hf hr hN in
theorem RK.snoc{s:List b8}{v:T}{r:List Nat}(h:CO s v r): ∀{D:List T} {rs:List (List Nat)},RK s D rs→RK s (D++ [v]) (rs++ [r])
 | [],[],_=>⟨h,trivial⟩
 |_::_,_::_,g=>⟨g.1,g.2.snoc h⟩
omit hf hr hN in
theorem RK.len{s:List b8}: ∀{D:List T} {rs:List (List Nat)},RK s D rs→D.length=rs.length
 | [],[],_=>rfl
 |_::_,_::_,g=>by rw[List.length_cons,List.length_cons,g.2.len]
def Zi(r:List Nat):T:=if r= []then .nilsl else .sl (ints (r.map Int.ofNat)) r.length false
omit hf hr hN in
theorem CO.fz{s:List b8}{v:T}{r:List Nat}{lh:gW b8}{m:Nat}(h:CO s v r): ∃us,(fz false (m+1) v).run (St.mk .nil lh s).get s.length=some (Zi r,us):=by
 rcases h with⟨rfl,rfl⟩|⟨h0,k,g,rfl,h2,h3⟩
 ·exact⟨_,rfl⟩
 ·unfold Ev.fz
  have Ot:(St.mk .nil lh s).get .S k=gY s k:=rfl
  simp only[Bool.false_and,Bool.false_eq_true,if_false,Q.run,Ot,h3,if_true]
  have D:(ints (r.map Int.ofNat)).length=r.length:=by rw[kH,List.length_map]
  rw[if_pos (by omega)]
  refine⟨_,congrArg some (Prod.ext ?_ rfl)⟩
  show T.sl _ _ _=_
  rw[List.drop_zero,Nat.mul_one,List.take_of_length_le (by omega)]
  unfold Zi
  rw[if_neg h0]
omit hf hr hN in
theorem RK.fz{s:List b8}{lh:gW b8}{m:Nat}: ∀{D:List T} {rs:List (List Nat)},RK s D rs→ ∃us,(iL (Ev.fz false (m+1)) D).run (St.mk .nil lh s).get s.length=some (rs.map Zi,us)
 | [],[],_=>⟨_,rfl⟩
 |v::D,r::rs,h=>by
  obtain⟨K,F⟩:=h.1.fz (lh:=lh) (m:=m)
  obtain⟨O,I⟩:=h.2.fz (lh:=lh) (m:=m)
  simp only[iL,iS,F,I,Option.bind_some,Q.run,List.map_cons]
  exact⟨_,rfl⟩
theorem pc2(fr:Fr)(lh:gW b8)(Y:an fr 0= .vp (zT::aT::fT::(jE c a7 a8 a9 gX hU gZ++rL)))(Z:an fr 3= .isl .L 12 1 0 l.length 1)(jw:an fr 14= .i .i64 (l.length:Int))(qK:an fr 15= .i .i64 0)(V:b7 lh 12=⟨1,.cells (List.replicate l.length .nilsl) 0 true⟩):
  Lp pE 40 zK fr lh [] (.ext 0) fun f K s=> ∃F,b7 K 12=⟨1,.cells F 0 true⟩∧RK s F ((List.range l.length).map (p5 l.length (jn c l))):=by
 refine kK IP (fun k f K s=>an f 15= .i .i64 (k:Int)∧ ∃F,b7 K 12=⟨1,.cells (F++List.replicate (l.length-k) .nilsl) 0 true⟩∧RK s F ((List.range k).map (p5 l.length (jn c l)))) l.length ⟨qK,[],by rw[V];rfl,trivial⟩ ?_ ?_
 ·rintro k f K s hk O ⟨I,F,o,U⟩
  have iP:(k:Int)<l.length:=by omega
  have hw:wr .i64 ((k:Int)+1)=((k+1:Nat):Int):=by rw[jj (by omega)];omega
  have uo:=U.len
  rw[List.length_map,List.length_range]at uo
  have m9:lenI (T.isl .L 12 1 0 l.length 1)=some (.i .i64 (l.length:Int)):=rfl
  have lX:(F++List.replicate (l.length-k) T.nilsl).length=l.length:=by rw[List.length_append,List.length_replicate];omega
  have W:(F++List.replicate (l.length-k) T.nilsl).drop k= .nilsl::(F++List.replicate (l.length-k) T.nilsl).drop (k+1):=by
   rw[show k=F.length from uo.symm,List.drop_left,show F.length+1=F.length+1 from rfl,List.drop_append,List.drop_of_length_le (by omega),List.nil_append,show l.length-F.length=(l.length-F.length-1)+1 by omega,List.replicate_succ,show F.length+1-F.length=1 by omega]
   rfl
  simp(maxDischargeDepth:=6) only[qA,iY,seval,gd,zK,O,Y,Z,jw,I,iP,hw,m9]
  generalize hD:DC pE 40 (.loop uf) _=D
  obtain⟨f2,l2,s2,rfl,⟨v,o2,hS⟩,oM⟩:=E7 IN hD (pc1 zT aT fT a7 a8 a9 gX hU gZ c rL fc l hf hr hN k hk (F++List.replicate (l.length-k) .nilsl) lX W s _ _ (by simp only[qA,seval,O,Y]) (by simp only[qA,seval,O,Z]) (by simp only[qA,seval]) (by simp only[qA,seval]) (by simp only[qA,seval]) o)
  have X:an f2 15= .i .i64 (k:Int):=by rw[oM 15 (by decide)];simp only[qA,seval,I]
  simp(maxDischargeDepth:=6) only[qA,iY,seval,gd,X,hw]
  refine⟨F++ [v], ?_, ?_⟩
  ·rw[o2]
   refine congrArg (fun c=>b8.mk 1 (.cells c 0 true)) ?_
   rw[List.set_append,if_neg (by omega),show k-F.length=0 by omega,show l.length-k=(l.length-(k+1))+1 by omega,List.replicate_succ,List.set_cons_zero,List.append_assoc]
   rfl
  ·rw[List.range_succ,List.map_append]
   rcases hS with⟨h1,rfl,rfl⟩|⟨h1,g,rfl,rfl⟩
   ·exact U.snoc (.inl ⟨h1,rfl⟩)
   ·exact(U.mono _).snoc (.inr ⟨h1,_,g,rfl,by simp,Ay (k:=0)⟩)
 ·rintro f K s O ⟨I,F,o,U⟩
  simp only[qA,seval,gd,zK,O,jw,I,Int.lt_irrefl]
  rw[Nat.sub_self,List.replicate_zero,List.append_nil]at o
  exact⟨F,o,U⟩
def RM(N:Nat)(J:Nat→Nat→Bool):T:= .sl (((List.range N).map (p5 N J)).map Zi) N false
theorem KC: ∃s,be pE 57 [.vp (zT::aT::fT::(jE c a7 a8 a9 gX hU gZ++rL))] []=some (RM l.length (jn c l),s):=by
 have U:l.length*24≤roomy:=by unfold roomy;omega
 have V:l.length≤roomy:=by unfold roomy;omega
 have W:=hf.lenI
 have SF:repl [T.nilsl] l.length=List.replicate l.length .nilsl:=by
  generalize l.length=n
  induction n with
  |zero=>rfl
  |succ n ih=>rw[repl,ih,List.replicate_succ];rfl
 have F:lenI (T.isl .L 12 1 0 l.length 1)=some (.i .i64 (l.length:Int)):=rfl
 rw[gQ ZC (by simp[c57])]
 simp(maxDischargeDepth:=6) only[qA,seval,c57,W,F,SF,U,V]
 generalize X:DC pE 40 (.loop zK) _=D
 obtain⟨Y,K,Z,rfl,⟨vs,o2,O⟩,oM⟩:=E7 IP X (pc2 zT aT fT a7 a8 a9 gX hU gZ c rL fc l hf hr hN _ _ (by simp only[qA,seval]) (by simp only[qA,seval]) (by simp only[qA,seval]) (by simp only[qA,seval]) (by simp only[qA,seval]))
 have f3:an Y 3= .isl .L 12 1 0 l.length 1:=by rw[oM 3 (by decide)];simp only[qA,seval]
 have uo:=O.len
 rw[List.length_map,List.length_range]at uo
 obtain⟨us,e⟩:=O.fz (lh:=K) (m:=6)
 have I: ∃us,fzV K Z false (.isl .L 12 1 0 l.length 1)=some (RM l.length (jn c l),us):=by
  rw[G5,o2]
  unfold QL;dsimp only
  rw[if_pos ⟨rfl,by omega⟩,List.drop_zero,Nat.mul_one,List.take_of_length_le (by omega),e]
  exact⟨_,rfl⟩
 obtain⟨us2,e2⟩:=I
 simp(maxDischargeDepth:=6) only[qA,seval,f3,e2]
 exact⟨_,rfl⟩
end
def Xt(N H:Nat)(il:Nat→Bool)(nx:Nat→List Nat):Int:=(MK N H il nx 5 (DT H il (List.range N) (fun _ _=>0,0))).2
def pL(ops:List Int)(f:Nat):Bool:=decide ((f:Int)∈ops)
theorem Xu(N:Nat)(ops:List Int)(f:Nat)(hf:f<N): ∃q,∀kk,lH (.sl (xf (inB N ops)) N false) (.i kk (f:Int)) 1=some (.vp (.b (pL ops f)::q)):=by
 refine⟨(xf (inB N ops)).drop (f+1),fun kk=> ?_⟩
 rw[nQ,if_pos ⟨by omega,by simpa using hf,by rw[yL];simp;omega⟩,Int.toNat_natCast,Nat.mul_one,List.drop_eq_getElem_cons (by rw[yL];exact hf)]
 refine congrArg some (congrArg T.vp (congrArg (· ::_) ?_))
 simp[xf,inB,pL]
theorem Xv(N:Nat)(J:Nat→Nat→Bool)(hN:N≤1000)(f:Nat)(hf:f<N): ∃gT q,(∀kk,lH (RM N J) (.i kk (f:Int)) 1=some (.vp (gT::q)))∧IsSl gT (p5 N J f).length (ints ((p5 N J f).map Int.ofNat))∧(p5 N J f).length≤1000∧ ∀g∈p5 N J f,g<N:=by
 have hl:(((List.range N).map (p5 N J)).map Zi).length=N:=by simp
 refine⟨Zi (p5 N J f),(((List.range N).map (p5 N J)).map Zi).drop (f+1),fun kk=> ?_, ?_, ?_,fun g D=>List.mem_range.1 (List.mem_filter.1 D).1⟩
 ·unfold RM
  rw[nQ,if_pos ⟨by omega,by simpa using hf,by rw[hl];simp;omega⟩,Int.toNat_natCast,Nat.mul_one,List.drop_eq_getElem_cons (by rw[hl];exact hf)]
  refine congrArg some (congrArg T.vp (congrArg (· ::_) ?_))
  simp
 ·unfold Zi
  split
  ·rename_i h;rw[h];exact .inl ⟨rfl,rfl,rfl⟩
  ·exact .inr ⟨_,rfl⟩
 ·exact Nat.le_trans (ML (J f) N) hN
section
variable(zT aT fT a7 a8 a9 gX hU gZ:T)(c:Ct)(rL fc:List T)(l:List Fl)(hf:IsSl fT l.length fc)(hr:hZ Rq l fc)(hN:l.length≤1000)
include hf hr hN
theorem ab8(ops:List Int)(oT:T)(ho:IsSl oT ops.length (ints ops))(hl:ops.length≤1000)(jN: ∀x∈ops,0≤x∧x<(l.length:Int))(H:Nat)(hH:H≤6):
  ∃s,be pE 55 [.vp (zT::aT::fT::(jE c a7 a8 a9 gX hU gZ++rL)),oT,.i .i64 (H:Int)] []=some (.i .i64 (Xt l.length H (pL ops) (p5 l.length (jn c l))),s):=by
 have m9:=hf.lenI
 have X:=ho.froz
 have KD:=ho.froz1
 have O:=DR zT aT fT (jE c a7 a8 a9 gX hU gZ++rL) l.length m9 hN ops oT ho hl jN
 obtain⟨s0,e2⟩:=KC zT aT fT a7 a8 a9 gX hU gZ c rL fc l hf hr hN
 have e3:=fun sh=>asR l.length hN sh
 have mj:=Xu l.length ops
 have qc:=Xv l.length (jn c l) hN
 have z1:froz1 (.sl (xf (inB l.length ops)) l.length false)=true:=rfl
 have z2:froz1 (RM l.length (jn c l))=true:=rfl
 have z3:froz (RM l.length (jn c l))=true:=rfl
 have z4:froz (.sl (xf (inB l.length ops)) l.length false)=true:=rfl
 have z5:cellsOf (.sl (xf (inB l.length ops)) l.length false)= [.sl (xf (inB l.length ops)) l.length false]:=rfl
 have z6:noTup (.sl (xf (inB l.length ops)) l.length false)=true:=rfl
 generalize hI:T.sl (xf (inB l.length ops)) l.length false=lp at*
 generalize hX:RM l.length (jn c l)=nT at*
 rw[gQ aoZ (by simp[c55])]
 have Z9: ∀x:b8,List.replicate 7 x= [x,x,x,x,x,x,x]:=fun _=>rfl
 have ni: ∀(lh:gW b8) (Y O r:b8),Ev.stV lh [Y,O,r,r,r,r,r,r,r,⟨1,.cells [.nilsl,.nilsl,.nilsl,.nilsl,.nilsl,.nilsl,.nilsl] 0 true⟩] (.ptr .S 9 1 0) (.agg (wT 2 l.length)) 7=some (lh,[Y,O,r,r,r,r,r,r,r,⟨1,.cells (wT 2 l.length) 0 true⟩]):=fun lh Y O r=>aiY rfl rfl 2 l.length
 simp(maxDischargeDepth:=6) only[qA,iY,jO,Z9,seval,ig,c55,m9,O,e2,e3,awC,awF,apw,X,KD,z1,z2,z3,z4,z5,z6,ni]
 generalize W:DC pE 82 (.loop zJ) _=D
 obtain⟨K,l2,s2,rfl,⟨rfl,hC,vV,pX⟩,I⟩:=E7 IL W (cd0 l.length H 2 9 10 lp (pL ops) mj hH hN ⟨by omega,by omega,by omega,by omega,by omega,by omega⟩ (fun _ _=>0) 0 _ _ _ (by simp only[qA,seval]) (by simp only[qA,seval]) (by simp only[qA,seval]) (by simp only[qA,seval]) ⟨rfl,rfl,rfl,rfl,fun i hi=>by
  have:i=0∨i=1∨i=2∨i=3∨i=4∨i=5∨i=6:=by omega
  rcases this with rfl|rfl|rfl|rfl|rfl|rfl|rfl <;> rfl,by simp,by simp⟩)
 have f5:an K 5= .ptr .S 0 1 0:=by rw[I 5 (by decide)];simp only[qA,seval]
 have f7:an K 7= .i .i64 (l.length:Int):=by rw[I 7 (by decide)];simp only[qA,seval]
 have f9:an K 9=nT:=by rw[I 9 (by decide)];simp only[qA,seval]
 have U:an K 10= .ptr .S 9 1 0:=by rw[I 10 (by decide)];simp only[qA,seval]
 have F:an K 11= .ptr .S 10 1 0:=by rw[I 11 (by decide)];simp only[qA,seval]
 have V:an K 12= .fn 96 [] [.ptr .S 1 1 0,.ptr .S 10 1 0,.ptr .S 0 1 0]:=by rw[I 12 (by decide)];simp only[qA,seval]
 clear I W
 simp(maxDischargeDepth:=6) only[qA,iY,seval,ig,f5,f7,f9,U,F,V]
 generalize W:DC pE 82 (.loop zI) _=D
 obtain⟨c0,c1,cA,cT,cR,cb1,cb2⟩:=hC
 have Ll:s2.length=11:=vV
 obtain⟨f3,l3,s3,rfl,⟨rfl,hT⟩,Z⟩:=E7 IK W (cd4 l.length H lp nT (pL ops) (p5 l.length (jn c l)) mj qc hH hN (DT H (pL ops) (List.range l.length) (fun _ _=>0,0)) _ _ _ (by simp only[qA,seval,f5]) (by simp only[qA,seval,f7]) (by simp only[qA,seval,f9]) (by simp only[qA,seval,U]) (by simp only[qA,seval,V]) (by simp only[qA,seval]) ⟨c0,c1,cA,cT,cR,by omega,by omega,.inl rfl⟩)
 have F:an f3 11= .ptr .S 10 1 0:=by rw[Z 11 (by decide)];simp only[qA,seval,F]
 simp(maxDischargeDepth:=6) only[qA,iY,seval,ig,F,hT]
 exact⟨_,rfl⟩
end
def vL(n:Nat):Int:=wr .i64 (n:Int)
theorem wrap64(n:Int):IntKind.i64.wrap n=if 9223372036854775808≤n%18446744073709551616 then n%18446744073709551616-18446744073709551616 else n%18446744073709551616:=by
 unfold IntKind.wrap
 simp[IntKind.bits,IntKind.signed]
theorem MM(n:Nat): ∃k:Int,vL n=n+18446744073709551616*k∧ -9223372036854775808≤vL n∧vL n<9223372036854775808:=by
 unfold vL
 rw[CZ,wrap64]
 split
 ·exact⟨-((n:Int)/18446744073709551616)-1,by omega,by omega,by omega⟩
 ·exact⟨-((n:Int)/18446744073709551616),by omega,by omega,by omega⟩
theorem Xw{a b:Int}(h: ∃k:Int,a=b+18446744073709551616*k):wr .i64 a=wr .i64 b:=by
 obtain⟨k,rfl⟩:=h
 rw[CZ,CZ,wrap64,wrap64,show(b+18446744073709551616*k)%18446744073709551616=b%18446744073709551616 by omega]
theorem B4(a b:Nat):wr .i64 (vL a+vL b)=vL (a+b):=by
 obtain⟨k,h,_⟩:=MM a
 obtain⟨m,D,_⟩:=MM b
 exact Xw ⟨k+m,by rw[h,D];push_cast;omega⟩
theorem uH:vL 0=0:=by decide
theorem ab9:vL 1=1:=by decide
theorem uI{a b:Nat}(h:vL b=0):vL (a+b)=vL a:=by
 obtain⟨k,D,_⟩:=MM b
 exact Xw ⟨-k,by rw[h]at D;push_cast;omega⟩
section
variable(N H:Nat)(J:Nat→Nat→Bool)(il:Nat→Bool)
def Rl(p:(Nat→Nat→Int)×Int)(q:(Nat→Nat→Nat)×Nat):Prop:=(∀h g,p.1 h g=vL (q.1 h g))∧p.2=vL q.2
theorem aca(h f w:Nat)(p:(Nat→Nat→Int)×Int)(q:(Nat→Nat→Nat)×Nat)(V:Rl p q):Rl (wU H (il f) h f (vL w) p.1,DS H (il f) h (vL w) p.2) (DQ H il h f w q.1,q.2+E5 H il h f w):=by
 obtain⟨D,F⟩:=V
 constructor
 ·intro I g
  show wU _ _ _ _ _ _ _ _=vL (DQ _ _ _ _ _ _ _ _)
  unfold wU DQ
  by_cases K:g=f
  ·subst K
   by_cases O:I=h
   ·subst O
    cases hi:il g <;> simp[oc,hi,D,B4]
   ·by_cases U:I=h+1∧h<H
    ·simp[U,D,B4]
    ·simp[O,U,D]
  ·simp[K,D]
 ·show DS _ _ _ _ _=vL (q.2+E5 _ _ _ _ _)
  unfold DS E5
  by_cases hl:h<H
  ·cases hi:il f <;> simp[hl,F,B4,oc,Nat.add_assoc]
  ·cases hi:il f <;> simp[hl,F,B4,oc]
theorem HA(h w:Nat): ∀(D:List Nat) (p:(Nat→Nat→Int)×Int) (q:(Nat→Nat→Nat)×Nat),Rl p q→Rl (BD H il h (vL w) D p) (Zh H il h w D q.1,tnG H il h w D q.2)
 | [],p,q,F=>F
 |g::D,p,q,F=>HA h w D _ _ (aca H il h g w p q F)
theorem Xx(h w:Nat)(D:vL w=0)(F:List Nat)(p:(Nat→Nat→Int)×Int)(q:(Nat→Nat→Nat)×Nat)(O:Rl p q):Rl p (Zh H il h w F q.1,tnG H il h w F q.2):=by
 induction F generalizing q with
 |nil=>exact O
 |cons g F ih=>
  refine ih (DQ H il h g w q.1,q.2+E5 H il h g w) ⟨fun U X=> ?_, ?_⟩
  ·rw[O.1]
   show _=vL (DQ _ _ _ _ _ _ _ _)
   unfold DQ
   have I: ∀b,vL (oc b*w)=0:=fun b=>by cases b <;> simp[oc,D,uH]
   by_cases V:X=g
   ·rw[if_pos V,←Nat.add_assoc]
    by_cases W:U=h
    ·rw[if_pos W]
     by_cases K:U=h+1∧h<H
     ·omega
     ·rw[if_neg K,Nat.add_zero,uI (I _)]
    ·rw[if_neg W,Nat.add_zero]
     by_cases K:U=h+1∧h<H
     ·rw[if_pos K,uI D]
     ·rw[if_neg K,Nat.add_zero]
   ·rw[if_neg V,Nat.add_zero]
  ·rw[O.2]
   show _=vL (_+E5 _ _ _ _ _)
   unfold E5
   have I: ∀b,vL (oc b*w)=0:=fun b=>by cases b <;> simp[oc,D,uH]
   rw[←Nat.add_assoc]
   by_cases hl:h<H
   ·rw[if_pos hl,uI D,uI (I _)]
   ·rw[if_neg hl,Nat.add_zero,uI (I _)]
theorem Gb(nx:Nat→List Nat)(h:Nat)(r:Nat→Int): ∀(l:List Nat) (f:Nat) (p:(Nat→Nat→Int)×Int),wV H il nx h r (l++ [f]) p=if r f=0 then wV H il nx h r l p else BD H il h (r f) (nx f) (wV H il nx h r l p)
 | [],f,p=>rfl
 |x::l,f,p=>by rw[List.cons_append,wV,wV,Gb nx h r l f]
theorem O6(h:Nat)(r:Nat→Int)(D:Nat→Nat→Nat)(hr: ∀f,r f=vL (D h f))(p:(Nat→Nat→Int)×Int)(q:(Nat→Nat→Nat)×Nat)(F:Rl p q): ∀k,Rl (wV H il (p5 N J) h r (List.range k) p) (rnF N H J il D h k q.1,tnF N H J il D h k q.2)
 |0=>F
 |k+1=>by
  rw[List.range_succ,Gb,hr]
  have ih:=O6 h r D hr p q F k
  split
  ·rename_i I
   exact Xx H il h _ I _ _ (_,_) ih
  ·exact HA H il h _ _ _ (_,_) ih
theorem Gf(nx:Nat→List Nat)(D:Nat→Nat→Int): ∀(l:List Nat) (h:Nat) (p:(Nat→Nat→Int)×Int),Ax N H il nx D (l++ [h]) p=wV H il nx h (D h) (List.range N) (Ax N H il nx D l p)
 | [],h,p=>rfl
 |x::l,h,p=>by rw[List.cons_append,Ax,Ax,Gf nx D l h]
theorem O7(D:Nat→Nat→Int)(Xy:Nat→Nat→Nat)(I: ∀h f,D h f=vL (Xy h f))(t:Int)(F:Nat)(K:t=vL F): ∀k,Rl (Ax N H il (p5 N J) D (List.range k) (fun _ _=>0,t)) (Xl N H J il Xy k,tnH N H J il Xy k F)
 |0=>⟨fun _ _=>uH.symm,K⟩
 |k+1=>by
  rw[List.range_succ,Gf]
  exact O6 N H J il k (D k) Xy (I k) _ (_,_) (O7 D Xy I t F K k) N
theorem O8: ∀(l:List Nat) (p:(Nat→Nat→Int)×Int),DT H il l p=BD H il 0 1 l p
 | [],p=>rfl
 |f::l,p=>by rw[DT,BD,O8 l]
def rN(p:(Nat→Nat→Nat)×Nat):(Nat→Nat→Nat)×Nat:=(Xl N H J il p.1 (H+1),tnH N H J il p.1 (H+1) p.2)
def rsN:Nat→(Nat→Nat→Nat)×Nat→(Nat→Nat→Nat)×Nat
 |0,p=>p
 |k+1,p=>rsN k (rN N H J il p)
theorem O9: ∀(k:Nat) (p:(Nat→Nat→Int)×Int) (q:(Nat→Nat→Nat)×Nat),Rl p q→Rl (MK N H il (p5 N J) k p) (rsN N H J il k q)
 |0,p,q,h=>h
 |k+1,p,q,h=>O9 k _ _ (O7 N H J il p.1 q.1 h.1 p.2 q.2 h.2 (H+1))
def vM(c:Nat→Nat→Nat→Nat):Nat→Nat
 |0=>0
 |k+1=>vM c k+Lt N H (fun h g=>c (k+1) g h)
theorem Gg{n m:Nat→Nat→Nat}(h: ∀D g,D≤H→g<N→n D g=m D g):Lt N H n=Lt N H m:=
 jg fun D I=>jg fun g F=>h D g (by omega) F
theorem ai0(m k:Nat)(q:(Nat→Nat→Nat)×Nat)(V: ∀h g,h≤H→g<N→q.1 h g=cA N J il (m+1) g h)(O:q.2=vM N H (cA N J il) (m+1)):(rsN N H J il k q).2=vM N H (cA N J il) (m+k+1):=by
 induction k generalizing m q with
 |zero=>exact O
 |succ k ih=>
  have e: ∀h g,h≤H→g<N→Xl N H J il q.1 (H+1) h g=cA N J il (m+2) g h:=fun h g F I=>by
   rw[Xo N H J il q.1 h g F I]
   show E4 il g _ h=E4 il g _ h
   unfold E4
   have U: ∀D,D≤H→(Sm N fun f=>oc (J f g)*q.1 D f)=Sm N fun f=>oc (J f g)*cA N J il (m+1) f D:=fun D K=>jg fun f hf=>by rw[V D f K hf]
   dsimp only
   rw[U h F]
   congr 1
   cases h with
   |zero=>rfl
   |succ h=>exact U h (by omega)
  rw[rsN,ih (m+1) (rN N H J il q) (fun h g F I=>e h g F I) ?_]
  ·rw[show m+1+k+1=m+(k+1)+1 by omega]
  ·show tnH N H J il q.1 (H+1) q.2=_
   rw[Xq N H J il q.1 q.2 (H+1) (Nat.le_refl _),O,Gg N H e]
   rfl
theorem acb:Xt N H il (p5 N J)=vL (vM N H (cB N J il) 6):=by
 unfold Xt
 rw[O8]
 have K:Rl ((fun _ _=>0,0):(Nat→Nat→Int)×Int) ((fun _ _=>0,0):(Nat→Nat→Nat)×Nat):=⟨fun _ _=>uH.symm,uH.symm⟩
 have F:=HA H il 0 1 (List.range N) _ _ K
 rw[ab9]at F
 rw[(O9 N H J il 5 _ _ F).2]
 have I: ∀h g,h≤H→g<N→Zh H il 0 1 (List.range N) (fun _ _=>0) h g=cA N J il 1 g h:=fun h g U D=>by
  rw[MI,Aw D]
  show _=E4 il g uF h
  unfold E4
  rcases h with _|_|h
  ·simp[uF,sf]
  ·have:0<H:=by omega
   simp[uF,sf,this]
  ·simp[uF,sf]
 have O:tnG H il 0 1 (List.range N) 0=vM N H (cA N J il) 1:=by
  have:=MJ N H il 0 1 (Nat.zero_le _) (List.range N) (fun _ _=>0) 0 fun g D=>List.mem_range.1 D
  rw[Gg N H I,show Lt N H (fun _ _=>0)=0 by unfold Lt;simp only[oZ],Nat.add_zero]at this
  rw[this]
  rfl
 rw[ai0 N H J il 0 5 (_,_) I O]
 congr 1
 have: ∀k,vM N H (cA N J il) k=vM N H (cB N J il) k:=by
  intro k
  induction k with
  |zero=>rfl
  |succ k ih=>
   rw[vM,vM,ih]
   congr 1
   exact jg fun h _=>cAB N J il k h
 exact this _
end
def DU(N:Nat):Option Int→List Int→Int
 |_,[]=>0
 |p,x::l=>if 0≤x∧x<(N:Int)then match p with
    |some q=>if x≤q then 8 else DU N (some x) l
    |none=>DU N (some x) l
  else 6
def RN(l:List Int)(k:Nat):Option Int:=if k=0 then none else l[k-1]?
theorem RO(l:List Int)(k:Nat)(hk:k<l.length):RN l (k+1)=some l[k]:=by
 unfold RN;rw[if_neg (by omega),Nat.add_sub_cancel,List.getElem?_eq_getElem hk]
theorem Xz(l:List Int)(k:Nat)(hk:k<l.length)(D:k≠0):RN l k=some l[k-1]:=by
 unfold RN;rw[if_neg D,List.getElem?_eq_getElem (by omega)]
theorem DV(N:Nat)(p:Option Int)(x:Int)(l:List Int):DU N p (x::l)=if 0≤x∧x<(N:Int)then(match p with|some q=>if x≤q then 8 else DU N (some x) l|none=>DU N (some x) l)else 6:=by cases p <;> rfl
theorem acd(N:Nat)(p:Option Int):DU N p []=0:=by cases p <;> rfl
section
variable(zT aT fT:T)(r fc:List T)(N:Nat)(hf:IsSl fT N fc)(hN:N≤1000)(ops:List Int)(oT:T)(ho:IsSl oT ops.length (ints ops))(hl:ops.length≤1000)
include hf hN ho hl
theorem ayX(fr:Fr)(lh:gW b8)(sh:List b8)(h0:an fr 0= .vp (zT::aT::fT::r))(h1:an fr 1=oT)(h9:an fr 9=oT)(F:an fr 10= .i .i64 (ops.length:Int))(V:an fr 11= .i .i64 0):
  wH pE 38 zp fr lh sh 0 6 (DU N none ops) (fun W X=>X=sh):=by
 have _:=hN
 refine jY It (fun k f W X=>an f 11= .i .i64 (k:Int)∧X=sh∧DU N none ops=DU N (RN ops k) (ops.drop k)) ops.length ⟨V,rfl,rfl⟩ ?_ ?_
 ·rintro k f W _ hk I ⟨D,rfl,K⟩
  have iP:(k:Int)<ops.length:=by omega
  have hw:wr .i64 ((k:Int)+1)=((k+1:Nat):Int):=by rw[jj (by omega)];omega
  have U:=fun kk=>ho.ia (sz:=1) (k:=k) (kk:=kk) (by rw[kH];omega) hk
  simp only[Nat.mul_one]at U
  rw[qe ops k hk]at U
  have Y:=j2 (ail zT aT fT r fc N hf ops[k])
  simp only[decide_eq_true_eq]at Y
  rw[List.drop_eq_getElem_cons hk,DV]at K
  rw[RO ops k hk]
  by_cases O:k=0
  ·subst O
   have Z:RN ops 0=none:=rfl
   rw[Z]at K
   have wR: ∀kk,lH oT (.i kk 0) 1=some (.vp (.i .i64 ops[0]::(ints ops).drop (0+1))):=fun kk=>U kk
   have ayY:an f 11= .i .i64 0:=D
   have OT:(0:Int)<ops.length:=iP
   simp(maxDischargeDepth:=6) only[qB,seval,gd,zp,I,h0,h1,h9,F,ayY,OT,wR,Y,aoY]
   clear I
   grind
  ·rw[Xz ops k hk O]at K
   have E2:=fun kk=>ho.ia (sz:=1) (k:=k-1) (kk:=kk) (by rw[kH];omega) (by omega)
   simp only[Nat.mul_one]at E2
   rw[qe ops (k-1) (by omega)]at E2
   have F1:=tB (k:=k) (by omega) (by omega)
   have hgt:(0:Int)<(k:Int):=by omega
   simp(maxDischargeDepth:=6) only[qB,seval,gd,zp,I,h0,h1,h9,F,D,iP,hw,F1,hgt,U,E2,Y,aoY]
   clear I
   grind
 ·rintro f W _ I ⟨D,rfl,K⟩
  rw[List.drop_length,acd]at K
  simp only[qB,seval,gd,zp,I,F,D,Int.lt_irrefl,K]
theorem ai1(H:Int):be pE 24 [.vp (zT::aT::fT::r),oT,.i .i64 H] []=some (.i .i64 (if DU N none ops=0 then(if H<0∨6<H then 5 else 0)else DU N none ops),[]):=by
 have D:=fun fr lh sh=>ayX zT aT fT r fc N hf hN ops oT ho hl fr lh sh
 have F:=ho.lenI
 rw[gQ aoI (by simp[c24])]
 simp(maxDischargeDepth:=6) only[qB,seval,c24,It,F,D]
 clear D
 grind
end
end Go.Proofs.YtcpceiclnbmgiaaGreat
